/- Walk: the document's own reading of a catalog gives what catalog.Read gives. -/
import Derived.Test.YthggicgbcgeggaaVB8
import Derived.Deep.DeepCutAuto
set_option linter.unusedVariables false
set_option linter.unusedSimpArgs false
namespace Go.Proofs.Ythggicgbcgeggaa
open Go.RowKit
open K
theorem rdL_off2 {L S : List Int} (hS : S = L.drop 4) (hl : 4 ≤ L.length) (p : Nat) (b : Int) : rdL L (p + 4) (mb b) 4 = ((rdL S p b 4).1, (rdL S p b 4).2.1 + 4, mb (rdL S p b 4).2.2) := by
  rw [rdL_off hS hl p b]
  by_cases h : b = 0
  · rw [if_pos h]
    rcases rdL_b S p b with e | e | e
    · rw [e, h]; rfl
    · rw [e]; rfl
    · rw [e]; rfl
  · rw [if_neg h, rdL_stick S p b h]
theorem count_off {L S : List Int} (hS : S = L.drop 4) (hb : BY S) (p : Nat) (b : Int) :
    (rdN L (p + 4) (mb b) 18446744073709551615 = ((rdN S p b 64).1, (rdN S p b 64).2.1 + 4, mb (rdN S p b 64).2.2)) ∨
    (b = 0 ∧ rdN S p b 64 = (0, p, 3) ∧ ∃ (x : Int) (q : Nat), rdN L (p + 4) (mb b) 18446744073709551615 = (x, q + 4, 0) ∧ 64 < x) := by
  rw [rdN_off hS p b]
  by_cases h : b = 0
  · subst h
    simp only [if_true]
    unfold rdN
    simp only [ne_eq, not_true_eq_false, if_false]
    rcases rvI_cases (S.drop p) (by_drop hb p) with (e | e) | ⟨x, j, e, h0, h1, _⟩
    · left; rw [e]; rfl
    · left; rw [e]; rfl
    · rw [e]
      simp only [not_true_eq_false, if_false]
      by_cases h64 : 64 < x
      · right
        refine ⟨trivial, by rw [if_pos h64], x, p + (j : Int).toNat, ?_, h64⟩
        rw [if_neg (by omega)]
      · left
        rw [if_neg h64, if_neg (by omega)]
        rfl
  · left
    rw [if_neg h, rdN_stick S p b _ h, rdN_stick S p b _ h]
/-- the errors that a reader has -/
def BQ (b : Int) : Prop := b = 0 ∨ b = 2 ∨ b = 3 ∨ b = 4
theorem rdN_q (l : List Int) (hb : BY l) (p : Nat) (b most : Int) (h : BQ b) : BQ (rdN l p b most).2.2 := by
  unfold rdN
  split
  · exact h
  · rcases rvI_cases (l.drop p) (by_drop hb p) with (e | e) | ⟨x, j, e, h0, h1, _⟩
    · rw [e, if_pos (by simp)]; exact .inr (.inl rfl)
    · rw [e, if_pos (by simp)]; exact .inr (.inr (.inr rfl))
    · rw [e, if_neg (by simp)]
      split
      · exact .inr (.inr (.inl rfl))
      · exact .inl rfl
theorem rdL_q (l : List Int) (p : Nat) (b : Int) (h : BQ b) : BQ (rdL l p b 4).2.2 := by
  rcases rdL_b l p b with e | e | e
  · rw [e]; exact h
  · rw [e]; exact .inr (.inl rfl)
  · rw [e]; exact .inl rfl
theorem rdSegs_q (l : List Int) (hb : BY l) (p : Nat) (b : Int) (h : BQ b) : ∀ k, BQ (rdSegs l p b k).2.2
  | 0 => h
  | k + 1 => rdN_q l hb _ _ _ (rdN_q l hb _ _ _ (rdL_q l _ _ (rdN_q l hb _ _ _ (rdN_q l hb _ _ _ (rdSegs_q l hb p b h k)))))
theorem QS.put {w : World} {g : Nat} {A : Option Addr} {n c : Nat} {l : List Int} {p : Nat} {b : Int} (h : QS w g A n c l p b) {K : Nat} (hl : RBlt A n K) (hg : g ≠ K) (i : Nat) (u : Value) : QS (w.setCell ⟨K, i, none⟩ u) g A n c l p b :=
  ⟨blk_set_ne h.rd i u hg, h.rb.put hl i u, h.hc, h.hp⟩
theorem QS.app {w w1 w2 : World} {q g : Nat} {A : Option Addr} {n c : Nat} {l : List Int} {p : Nat} {b : Int} {v v2 : Value} (h : QS w g A n c l p b) (hb : Below w.heap.size w w1) (hg : w1.grownBy w2 v.ownBlock) (hv : ∀ k, v.ownBlock = some k → q < k) (hA : RBlt A n q) (hq : g < q) : QS (w2.setCell ⟨q, 2, none⟩ v2) g A n c l p b := by
  have h1 := h.below hb
  refine ⟨blk_set_ne ((hg.block g (lt_of_block h1.rd) (fun e => by have := hv g e.symm; omega)).trans h1.rd) 2 v2 (by omega), ⟨h.rb.len, h.rb.top, fun j hj => ?_, h.rb.rng⟩, h.hc, h.hp⟩
  obtain ⟨ad, e, hc⟩ := h1.rb.cell j hj
  have hA' := hA j hj ad e
  refine ⟨ad, e, (World.cell?_of_block ((Below.heap_setCell w2 ⟨q, 2, none⟩ v2 (ad.add j).block (by show (ad.add j).block ≠ q; omega)).trans (hg.block _ (World.block_lt_of_cell? w1 _ hc) (fun e => by have := hv _ e.symm; omega)))).trans hc⟩
theorem RBlt.mono {A : Option Addr} {n K K' : Nat} (h : RBlt A n K) (hk : K ≤ K') : RBlt A n K' := fun j hj ad e => Nat.lt_of_lt_of_le (h j hj ad e) hk
set_option maxRecDepth 20000 in
set_option maxHeartbeats 4000000 in
theorem rcread_any (A : Option Addr) (n c : Nat) (l : List Int) (w : World) (hl : RB w A n l) (hc : n ≤ c) :
    Calls Try.prog 69 #[.slice A n c] w fun ex w' => ∃ v, ex = .returned (.tuple #[v, .int .i64 (readI l).1]) ∧ CR w' w.heap.size v (readI l).2.1 (readI l).2.2.1 (readI l).2.2.2 ∧ Below w.heap.size w w' := by
  have HL := Lib.hid hl.len
  have hy := hl.by_
  have htop := hl.top
  have hb0 := below_alloc1 w (.cells #[.int .i64 0, .int .i64 0, .slice none 0 0] 78)
  have HT0 := Lib.hid (heap_alloc_new w (.cells #[.int .i64 0, .int .i64 0, .slice none 0 0] 78))
  by_cases h8 : n < 8
  · have H : Hid (readI l = (2, 0, 0, none)) := Lib.hid (by unfold readI; rw [if_pos (by have := HL.out; omega)])
    have hlt : (n : Int) < 8 := by omega
    rw [H.out]
    go_enter Try.func69, Try.ntmps69
    go_wp2_with fail
    have c0' := blk_cell HT0.out 0 (v := some (.int .i64 0)) rfl
    have c1' := blk_cell HT0.out 1 (v := some (.int .i64 0)) rfl
    have c2' := blk_cell HT0.out 2 (v := some (.slice none 0 0)) rfl
    exact bodyPost_ret (v := .tuple #[.agg #[.int .i64 0, .int .i64 0, .slice none 0 0], .int .i64 2]) (by simp [results, Try.results69, go_sem, c0', c1', c2']) rfl ⟨_, rfl, rfl, hb0⟩
  · obtain ⟨e, rfl⟩ : ∃ e, n = e + 4 := ⟨n - 4, by omega⟩
    have he : ((e + 4 : Nat) : Int) - 4 = (e : Int) := by omega
    have hge : ¬ ((e + 4 : Nat) : Int) < 8 := by omega
    have hge2 : ¬ (e : Int) + 4 < 8 := by omega
    have hce : ¬ c = e := by omega
    have hec : e ≤ c := by omega
    have he1 : (e : Int) ≤ (e : Int) + 4 := by omega
    have h4e : 4 ≤ e := by omega
    have h4c : ¬ c = 4 := by omega
    obtain ⟨ad, rfl, -⟩ := hl.cell 0 (by omega)
    have hcv := conv_four (w.alloc (.cells #[.int .i64 0, .int .i64 0, .slice none 0 0] 78)) ad (e + 4) c l (hl.below hb0) (by omega)
    generalize hS : str4 l = S at hcv
    by_cases hmg : l.take 4 = [70, 67, 65, 84]
    · have hSe : S = ⟨#[70, 67, 65, 84]⟩ := by rw [← hS]; exact (str4_eq l hy (by have := HL.out; omega)).2 hmg
      subst hSe
      clear hS
      have hz := hl.below hb0
      have hE : RB (w.alloc (.cells #[.int .i64 0, .int .i64 0, .slice none 0 0] 78)) (some (ad.add e)) 4 (l.drop e) := by
        have := hz.sub e 4 (by omega)
        rwa [List.take_of_length_le (by have := HL.out; simp; omega)] at this
      have hD : RB (w.alloc (.cells #[.int .i64 0, .int .i64 0, .slice none 0 0] 78)) (some ad) e (l.take e) := hz.take e (by omega)
      obtain ⟨x, HX⟩ : ∃ x, Hid (lo (l.drop e) 4 = x) := ⟨_, rfl⟩
      obtain ⟨y, HY⟩ : ∃ y, Hid (iu (more 0#32 (l.take e)) = y) := ⟨_, rfl⟩
      have HX2 : Hid ((rdL (l.drop e) 0 0 4).1 = x) := Lib.hid (by
        rw [← HX.out]; unfold rdL
        rw [if_neg (fun h => h rfl), if_neg (by have := HL.out; simp; omega)]
        rfl)
      have hwy : IntKind.u64.wrap y = y := by rw [← HY.out]; exact wrap_u64 _ (iu_lo _) (by have := iu_hi (more 0#32 (l.take e)); omega)
      by_cases hxy : x = y
      · subst hxy
        have H : Hid (readI l = bodyI ((l.take e).drop 4)) := Lib.hid (by
          unfold readI
          have hn := HL.out
          rw [if_neg (by omega), if_neg (fun h => h hmg), hn, show e + 4 - 4 = e by omega, show e + 4 - 8 = e - 4 by omega, HX2.out, HY.out, if_neg (fun h => h rfl), List.drop_take])
        rw [H.out]
        generalize hSS : (l.take e).drop 4 = SS at *
        have hSS' := hSS.symm
        obtain ⟨e0, gg, ff, oo, hbd⟩ : ∃ e0 gg ff oo, bodyI SS = (e0, gg, ff, oo) := ⟨_, _, _, _, rfl⟩
        rw [hbd]
        have hbS : BY SS := by rw [hSS']; exact by_drop hD.by_ 4
        have hlS : SS.length + 4 = e := by rw [hSS', List.length_drop, hD.len]; omega
        have hltA := hl.ltb
        go_enter Try.func69, Try.ntmps69
        go_wp2_with fail
        go_cut [31] (fun cv wx => cv = .bool false ∧ wx = (w.alloc (.cells #[.int .i64 0, .int .i64 0, .slice none 0 0] 78)).drew)
        case first =>
          go_region_held3 (fun _ => True) (exact True.intro) (first
            | (go_at_call 113; refine (number_all (some (ad.add e)) 4 (c - e) _ _ (hE.below (Below.drew (Below.refl _ _))) (by omega)).mono ?_; rw [HX.out]; rintro e1 w1 ⟨rfl, rfl⟩)
            | (go_at_call 105; refine (rsum_any (some ad) e c (l.take e) _ (hD.below (Below.drew (Below.refl _ _)))).mono ?_; rw [HY.out]; rintro e3 w3 ⟨rfl, rfl⟩))
          all_goals
            go_wp2_with fail
            go_meet
            case rel => exact ⟨by simp, rfl⟩
        case rest =>
          obtain ⟨rfl, rfl⟩ := hcut
          clear hE hcv HX HX2 HY hwy hmg hSS hy hz
          rcases h1 : rdN SS 0 0 M63 with ⟨x1, p1, b1⟩
          have q1 := rdN_bd SS hbS 0 (by omega) 0 M63 (by decide)
          rw [h1] at q1
          rcases h2 : rdN SS p1 b1 M63 with ⟨x2, p2, b2⟩
          have q2 := rdN_bd SS hbS p1 q1.2.2 b1 M63 (by decide)
          rw [h2] at q2
          rcases h3 : rdN SS p2 b2 64 with ⟨x3, p3, b3⟩
          have q3 := rdN_bd SS hbS p2 q2.2.2 b2 64 (by decide)
          rw [h3] at q3
          simp only [M63] at q1 q2 q3
          obtain ⟨⟨x10, x11, -⟩, ⟨x20, x21, -⟩, ⟨x30, x31, hp3⟩⟩ := And.intro q1 (And.intro q2 q3)
          have hco := count_off hSS' hbS p2 b2
          rw [h3] at hco
          have HBQ := Lib.hid (show BQ b3 by have := rdN_q SS hbS p2 b2 64 (by have := rdN_q SS hbS p1 b1 M63 (by have := rdN_q SS hbS 0 0 M63 (.inl rfl); rwa [h1] at this); rwa [h2] at this); rwa [h3] at this)
          clear q1 q2 q3
          obtain ⟨m, rfl⟩ := Int.eq_ofNat_of_zero_le x30
          have HB : Hid (bodyI SS = if (rdSegs SS p3 b3 m).2.2 = 2 then (2, 0, 0, none) else if (rdSegs SS p3 b3 m).2.2 ≠ 0 ∨ (rdSegs SS p3 b3 m).2.1 < SS.length ∨ mayB x1 x2 (rdSegs SS p3 b3 m).1 = false then (4, 0, 0, none) else (0, x1, x2, some (rdSegs SS p3 b3 m).1)) := by
            refine Lib.hid ?_
            unfold bodyI
            simp only [h1, h2, h3]
            rfl
          rw [hbd] at HB
          have HBD := Lib.hid hbd
          have H1 := Lib.hid h1
          have H2 := Lib.hid h2
          have HP3 := Lib.hid hp3
          have HBS := Lib.hid hbS
          have hltw := hltA.mono (Nat.le_refl _)
          have hlte : RBlt (some ad) e w.heap.size := fun j hj => hltA j (by omega)
          clear h1 h2 h3 hp3 hbd hbS hltA hltw
          have hq0 : QS (((w.alloc (.cells #[.int .i64 0, .int .i64 0, .slice none 0 0] 78)).drew.alloc (.cells #[.slice (some ad) e c, .int .i64 4, .int .i64 0] 56)).alloc (.cells #[.int .i64 0, .int .i64 0, .slice none 0 0] 78)) (w.heap.size + 1) (some ad) e c (l.take e) (0 + 4) (mb 0) := ⟨blk_old (heap_new3 (by simp) (.cells #[.slice (some ad) e c, .int .i64 4, .int .i64 0] 56)) _, (hD.below (Below.drew (Below.refl _ _))).below ((below_alloc1 _ _).alloc (by simp) _), hec, h4e⟩
          have hz0 : (((w.alloc (.cells #[.int .i64 0, .int .i64 0, .slice none 0 0] 78)).drew.alloc (.cells #[.slice (some ad) e c, .int .i64 4, .int .i64 0] 56)).alloc (.cells #[.int .i64 0, .int .i64 0, .slice none 0 0] 78)).heap[w.heap.size + 1 + 1]? = some (.cells #[.int .i64 0, .int .i64 0, .slice none 0 0] 78) := heap_new3 (by simp) _
          have ht0 : (((w.alloc (.cells #[.int .i64 0, .int .i64 0, .slice none 0 0] 78)).drew.alloc (.cells #[.slice (some ad) e c, .int .i64 4, .int .i64 0] 56)).alloc (.cells #[.int .i64 0, .int .i64 0, .slice none 0 0] 78)).heap[w.heap.size]? = some (.cells #[.int .i64 0, .int .i64 0, .slice none 0 0] 78) := blk_old (blk_old (show (w.alloc (.cells #[.int .i64 0, .int .i64 0, .slice none 0 0] 78)).drew.heap[w.heap.size]? = some (.cells #[.int .i64 0, .int .i64 0, .slice none 0 0] 78) from HT0.out) _) _
          have hw0 : Below w.heap.size w (((w.alloc (.cells #[.int .i64 0, .int .i64 0, .slice none 0 0] 78)).drew.alloc (.cells #[.slice (some ad) e c, .int .i64 4, .int .i64 0] 56)).alloc (.cells #[.int .i64 0, .int .i64 0, .slice none 0 0] 78)) := (hb0.drew.alloc (by simp) _).alloc (by simp; omega) _
          have HZ0 := Lib.hid hz0
          clear hz0 hD
          rcases hco with hco | ⟨hb20, hco3, xx, qq, hco, h64⟩
          · have HCO := Lib.hid hco
            clear hco
            go_upto_region 13 with (first
              | (go_at_call 114; refine (rnumber_any (w.heap.size + 1) (some ad) e c _ SS hSS' 0 0 _ hq0).mono ?_; rw [H1.out]; rintro e1 w1 ⟨rfl, hs1, hg1⟩; have ht1 := blk_grown hg1 (by omega) ht0; have hz1 := blk_grown hg1 (by omega) HZ0.out; have hw1 := below_grow hw0 hw0.size hg1 (by omega); have y0 := blk_cell hz1 0 (v := some (.int .i64 0)) rfl; have y1 := blk_free hz1 0; have hs1' := hs1.put (hlte.mono (by omega)) (K := w.heap.size + 1 + 1) (by omega) 0 (.int .i64 x1); have hz1' := blk_set hz1 0 (.int .i64 x1); have ht1' := blk_set_ne ht1 (g := w.heap.size + 1 + 1) 0 (.int .i64 x1) (by omega); have hw1' := hw1.setCell (p := ⟨w.heap.size + 1 + 1, 0, none⟩) (by show w.heap.size ≤ w.heap.size + 1 + 1; omega) (.int .i64 x1))
              | (go_at_call 114; refine (rnumber_any (w.heap.size + 1) (some ad) e c _ SS hSS' p1 b1 _ hs1').mono ?_; rw [H2.out]; rintro e2 w2 ⟨rfl, hs2, hg2⟩; have ht2 := blk_grown hg2 (by omega) ht1'; have hz2 := blk_grown hg2 (by omega) hz1'; have hw2 := below_grow hw1' hw1'.size hg2 (by omega); have y2 := blk_cell hz2 1 (v := some (.int .i64 0)) rfl; have y3 := blk_free hz2 1; have hs2' := hs2.put (hlte.mono (by omega)) (K := w.heap.size + 1 + 1) (by omega) 1 (.int .i64 x2); have hz2' := blk_set hz2 1 (.int .i64 x2); have ht2' := blk_set_ne ht2 (g := w.heap.size + 1 + 1) 1 (.int .i64 x2) (by omega); have hw2' := hw2.setCell (p := ⟨w.heap.size + 1 + 1, 1, none⟩) (by show w.heap.size ≤ w.heap.size + 1 + 1; omega) (.int .i64 x2); have hk2 : KS w (w2.setCell ⟨w.heap.size + 1 + 1, 1, none⟩ (.int .i64 x2)) (w.heap.size + 1 + 1) (w.heap.size + 1) x1 x2 (.slice none 0 0) [] := ⟨ht2', hz2', OSg.nil _ _, hw2', by omega, by omega⟩)
              | (go_at_call 88; refine (qvarint_any (w.heap.size + 1) (some ad) e c _ (p2 + 4) (mb b2) 18446744073709551615 _ hs2').mono ?_; rw [HCO.out]; rintro e3 w3 ⟨rfl, hs3, hg3⟩; have hk3 := hk2.grown hg3; have c2 := hs3.rd.c2))
            have hm64 : ¬ (64 : Int) < (m : Int) := by omega
            go_cut [54] (fun cv wx => cv = .bool false ∧ wx = w3)
            case first =>
              by_cases hb3 : b3 = 0
              · have hbb : (mb b3 == 0) = true := by rw [hb3]; rfl
                clear hb3
                go_wp2_with fail
                go_meet
                case rel => exact ⟨by simp, rfl⟩
              · have hbb : (mb b3 == 0) = false := by simpa using mb_ne hb3
                clear hb3
                go_wp2_with fail
                go_meet
                case rel => exact ⟨by simp, rfl⟩
            case rest =>
              obtain ⟨rfl, rfl⟩ := hcut
              have hltq : RBlt (some ad) e (w.heap.size + 1 + 1) := hlte.mono (by omega)
              have hgq : w.heap.size + 1 < w.heap.size + 1 + 1 := by omega
              clear hk2 hg3 c2 hs2 hg2 ht2 hz2 hw2 hs2' hz2' ht2' hw2' y0 y1 y2 y3 hs1 hg1 ht1 hz1 hw1 hs1' hz1' ht1' hw1' hq0 ht0 hw0 HZ0 hm64
              generalize w.heap.size + 1 = g at *
              generalize g + 1 = q at *
              go_wp2_with fail
              go_loopw [8] (fun i wr => ∃ (k : Nat) (v : Value), i = .int .u64 k ∧ k ≤ m ∧ QS wr g (some ad) e c (l.take e) ((rdSegs SS p3 b3 k).2.1 + 4) (mb (rdSegs SS p3 b3 k).2.2) ∧ KS w wr q g x1 x2 v (rdSegs SS p3 b3 k).1) (fun i _ => m - (intOf i).toNat)
              case atStart => exact ⟨0, _, rfl, by omega, hs3, hk3⟩
              case round =>
                clear hs3 hk3
                obtain ⟨k, v, rfl, hk, hs, hK⟩ := hrel
                have hbds := rdSegs_bd SS HBS.out p3 HP3.out b3 k
                have hlen := rdSegs_len SS p3 b3 k
                have hq := lt_of_block hK.t5
                have hstk := rdSegs_stick SS p3 b3 k
                have c2 := hs.rd.c2
                rcases hr : rdSegs SS p3 b3 k with ⟨ss, p, b⟩
                rw [hr] at hs hK hbds hlen hstk c2
                simp only at hs hK hbds hlen hstk c2
                by_cases hgo : k < m ∧ b = 0
                · obtain ⟨hlt', hb0'⟩ := hgo
                  subst hb0'
                  have hmb : mb 0 = 0 := rfl
                  rcases h1 : rdN SS p 0 M63 with ⟨y1, p4, b4⟩
                  rcases h2 : rdN SS p4 b4 M63 with ⟨y2, p5, b5⟩
                  rcases h3' : rdL SS p5 b5 4 with ⟨y3, p6, b6⟩
                  rcases h4 : rdN SS p6 b6 M63 with ⟨y4, p7, b7⟩
                  rcases h5 : rdN SS p7 b7 M63 with ⟨y5, p8, b8⟩
                  have q1 := rdN_bd SS HBS.out p hbds.2 0 M63 (by decide)
                  rw [h1] at q1
                  have q2 := rdN_bd SS HBS.out p4 q1.2.2 b4 M63 (by decide)
                  rw [h2] at q2
                  have q3 := rdL_bd SS HBS.out p5 q2.2.2 b5
                  rw [h3'] at q3
                  have hwu : IntKind.u32.wrap y3 = y3 := by have := q3.1; have := q3.2.1; rw [IntKind.wrap_u32]; omega
                  have HN : Hid (rdSegs SS p3 b3 (k + 1) = (ss ++ [⟨y1, y2, y3, y4, y5⟩], p8, b8)) := Lib.hid (by
                    show ((rdSegs SS p3 b3 k).1 ++ [(rdSeg SS (rdSegs SS p3 b3 k).2.1 (rdSegs SS p3 b3 k).2.2).1], (rdSeg SS (rdSegs SS p3 b3 k).2.1 (rdSegs SS p3 b3 k).2.2).2) = _
                    rw [hr]; simp only [rdSeg_of h1 h2 h3' h4 h5])
                  have h6 := rdL_off2 hSS' (by rw [List.length_take]; have := HL.out; omega) p5 b5
                  rw [h3'] at h6
                  have HA := Lib.hid h1
                  have HBb := Lib.hid h2
                  have H6 := Lib.hid h6
                  have H7 := Lib.hid h4
                  have H8 := Lib.hid h5
                  have HQ := Lib.hid hbds
                  clear h1 h2 h3' h4 h5 h6 hr hbds hstk q1 q2 q3
                  go_wp2_with (first
                    | (go_at_call 114; refine (rnumber_any g (some ad) e c _ SS hSS' p 0 _ (hs.below (below_alloc1 wr (.cells #[.int .i64 0, .int .i64 0, .int .u32 0, .int .i64 0, .int .i64 0] 96)))).mono ?_; rw [HA.out]; rintro e5 w5 ⟨rfl, hs5, hg5⟩; have hq6 : q < wr.heap.size := hq; have hK6 : v.ownBlock ≠ some wr.heap.size := hK.ne wr.heap.size (.inr (Nat.le_refl _)); have hA6 : RBlt (some ad) e wr.heap.size := hltq.mono (Nat.le_of_lt hq); have hk5 := (hK.below (below_alloc1 wr (.cells #[.int .i64 0, .int .i64 0, .int .u32 0, .int .i64 0, .int .i64 0] 96))).grown hg5; have ht5 := blk_grown hg5 (by omega) (heap_alloc_new wr (.cells #[.int .i64 0, .int .i64 0, .int .u32 0, .int .i64 0, .int .i64 0] 96)); have f5 := blk_free ht5 0; have z5 := blk_cell ht5 0 (v := some (.int .i64 0)) rfl; have hs5' := hs5.put hA6 (by omega) 0 (.int .i64 y1); have hk5' := hk5.set hq6 hK6 0 (.int .i64 y1); have ht5' := blk_set ht5 0 (.int .i64 y1))
                    | (go_at_call 114; refine (rnumber_any g (some ad) e c _ SS hSS' p4 b4 _ hs5').mono ?_; rw [HBb.out]; rintro e6 w6 ⟨rfl, hs6, hg6⟩; have hk6 := hk5'.grown hg6; have ht6 := blk_grown hg6 (by omega) ht5'; have f6 := blk_free ht6 1; have z6 := blk_cell ht6 1 (v := some (.int .i64 0)) rfl; have hs6' := hs6.put hA6 (by omega) 1 (.int .i64 y2); have hk6' := hk6.set hq6 hK6 1 (.int .i64 y2); have ht6' := blk_set ht6 1 (.int .i64 y2))
                    | (go_at_call 90; refine (qfixed_any g (some ad) e c _ (p5 + 4) (mb b5) 4 _ hs6' (by omega) (by omega)).mono ?_; rw [H6.out]; rintro e7 w7 ⟨rfl, hs7, hg7⟩; have hk7 := hk6'.grown hg7; have ht7 := blk_grown hg7 (by omega) ht6'; have f7 := blk_free ht7 2; have z7 := blk_cell ht7 2 (v := some (.int .u32 0)) rfl; have hs7' := hs7.put hA6 (by omega) 2 (.int .u32 y3); have hk7' := hk7.set hq6 hK6 2 (.int .u32 y3); have ht7' := blk_set ht7 2 (.int .u32 y3))
                    | (go_at_call 114; refine (rnumber_any g (some ad) e c _ SS hSS' p6 b6 _ hs7').mono ?_; rw [H7.out]; rintro e8 w8 ⟨rfl, hs8, hg8⟩; have hk8 := hk7'.grown hg8; have ht8 := blk_grown hg8 (by omega) ht7'; have f8 := blk_free ht8 3; have z8 := blk_cell ht8 3 (v := some (.int .i64 0)) rfl; have hs8' := hs8.put hA6 (by omega) 3 (.int .i64 y4); have hk8' := hk8.set hq6 hK6 3 (.int .i64 y4); have ht8' := blk_set ht8 3 (.int .i64 y4))
                    | (go_at_call 114; refine (rnumber_any g (some ad) e c _ SS hSS' p7 b7 _ hs8').mono ?_; rw [H8.out]; rintro e9 w9 ⟨rfl, hs9, hg9⟩; have hk9 := hk8'.grown hg9; have ht9 := blk_grown hg9 (by omega) ht8'; have f9 := blk_free ht9 4; have z9 := blk_cell ht9 4 (v := some (.int .i64 0)) rfl; have hs9' := hs9.put hA6 (by omega) 4 (.int .i64 y5); have hk9' := hk9.set hq6 hK6 4 (.int .i64 y5); have ht9' := blk_set ht9 4 (.int .i64 y5); have d0 := blk_cell ht9 0 (v := some (.int .i64 y1)) rfl; have d1 := blk_cell ht9 1 (v := some (.int .i64 y2)) rfl; have d2 := blk_cell ht9 2 (v := some (.int .u32 y3)) rfl; have d3 := blk_cell ht9 3 (v := some (.int .i64 y4)) rfl; have d4 := blk_cell ht9' 4 (v := some (.int .i64 y5)) rfl; have d5 := blk_cell hk9.t5 2 (v := some v) rfl; have d6 := blk_cell ht9' 0 (v := some (.int .i64 y1)) rfl; have d7 := blk_cell ht9' 1 (v := some (.int .i64 y2)) rfl; have d8 := blk_cell ht9' 2 (v := some (.int .u32 y3)) rfl; have d9 := blk_cell ht9' 3 (v := some (.int .i64 y4)) rfl; have d10 := blk_cell hk9'.t5 2 (v := some v) rfl)
                    | (at_builtin; refine wpList_append_sg (w0 := w) rfl (q + 1) (.tmp 85) (.tmp 87) rfl v ss rfl (OSg.alloc hk9'.own _) (some ⟨w9.heap.size, 0, none⟩) 1 1 [⟨y1, y2, y3, y4, y5⟩] rfl (RV_sg (x := ⟨y1, y2, y3, y4, y5⟩) (heap_new3 (by simp) _)) (hk9'.bel.alloc hk9'.bel.size (.cells #[.int .i64 y1, .int .i64 y2, .int .u32 y3, .int .i64 y4, .int .i64 y5] 96)) (by have := hk9'.o1; omega) (by have := lt_of_block hk9'.t5; simp at this ⊢; omega) rfl (by simp; omega) ?_; intro v13 w13 hO13 hB13 hg13 ha13; have hk13 := hk9'.app (below_alloc1 _ _) hO13 hg13 ha13; have hs13 := hs9'.app (v2 := v13) (below_alloc1 _ _) hg13 hk9'.own_gt hltq hgq; have hm13 := hk9'.mid (below_alloc1 _ _) hg13; obtain ⟨A13, n13, c13, rfl⟩ := OSg.form hO13; have g13 := blk_cell hm13 2 (v := some v) rfl; have g14 := blk_free hm13 2))
                  go_roundw
                  case rel => exact ⟨k + 1, _, by simp, by omega, by rw [HN.out]; exact hs13, by rw [HN.out]; exact hk13⟩
                  case measure => simp [intOf]; omega
                · by_cases hbz : b = 0
                  · have hkm : k = m := by omega
                    subst hkm
                    subst hbz
                    have HBo := HB.out
                    rw [hr] at HBo
                    simp only [show ¬ (0 : Int) = 2 by decide, if_false] at HBo
                    have hmb : mb 0 = 0 := rfl
                    have hpl := hbds.2
                    have z0 := blk_cell (hK).t2 0 (v := some (.int .i64 0)) rfl; have z1 := blk_cell (hK).t2 1 (v := some (.int .i64 0)) rfl; have z2 := blk_cell (hK).t2 2 (v := some (.slice none 0 0)) rfl; have f0 := blk_free (hK).t2 0; have f1 := blk_free (hK).t2 1; have f2 := blk_free (hK).t2 2
                    have y0 := blk_cell hK.t5 0 (v := some (.int .i64 x1)) rfl
                    have y1 := blk_cell hK.t5 1 (v := some (.int .i64 x2)) rfl
                    have y2 := blk_cell hK.t5 2 (v := some v) rfl
                    have c1 := hs.rd.c1
                    clear hstk hr hgo
                    by_cases hpe : p < SS.length
                    · rw [if_pos (.inr (.inl hpe))] at HBo
                      simp only [Prod.mk.injEq] at HBo
                      obtain ⟨rfl, rfl, rfl, rfl⟩ := HBo
                      have hp1 : (p : Int) + 4 < (e : Int) := by omega
                      go_wp2_with fail
                      have c0' := blk_cell (three_put (hK).t2 (.int .i64 0) (.int .i64 0) (.slice none 0 0)) 0 (v := some (.int .i64 0)) rfl
                      have c1' := blk_cell (three_put (hK).t2 (.int .i64 0) (.int .i64 0) (.slice none 0 0)) 1 (v := some (.int .i64 0)) rfl
                      have c2' := blk_cell (three_put (hK).t2 (.int .i64 0) (.int .i64 0) (.slice none 0 0)) 2 (v := some (.slice none 0 0)) rfl
                      exact bodyPost_ret (v := .tuple #[.agg #[.int .i64 0, .int .i64 0, .slice none 0 0], .int .i64 4]) (by simp [results, Try.results69, go_sem, c0', c1', c2']) rfl ⟨_, rfl, rfl, three_below (hK).bel (Nat.le_refl _) _ _ _⟩
                    · have hp1 : ¬ (p : Int) + 4 < (e : Int) := by omega
                      obtain ⟨Av, nv, cv, rfl, hnv, hcv, hsv⟩ := hK.own.read hbds.1 (by omega)
                      clear hnv hlen
                      cases hm : mayB x1 x2 ss
                      · rw [if_pos (.inr (.inr hm))] at HBo
                        simp only [Prod.mk.injEq] at HBo
                        obtain ⟨rfl, rfl, rfl, rfl⟩ := HBo
                        have HM := Lib.hid hm
                        clear hm
                        go_wp2_with (first | (go_at_call 60; refine (rmay_any x1 x2 Av nv cv ss _ hsv hcv).mono ?_; rw [HM.out]; rintro e7 w7 ⟨rfl, hb7⟩; have hk7 := hK.below hb7; have z0 := blk_cell (hk7).t2 0 (v := some (.int .i64 0)) rfl; have z1 := blk_cell (hk7).t2 1 (v := some (.int .i64 0)) rfl; have z2 := blk_cell (hk7).t2 2 (v := some (.slice none 0 0)) rfl; have f0 := blk_free (hk7).t2 0; have f1 := blk_free (hk7).t2 1; have f2 := blk_free (hk7).t2 2))
                        have c0' := blk_cell (three_put (hk7).t2 (.int .i64 0) (.int .i64 0) (.slice none 0 0)) 0 (v := some (.int .i64 0)) rfl
                        have c1' := blk_cell (three_put (hk7).t2 (.int .i64 0) (.int .i64 0) (.slice none 0 0)) 1 (v := some (.int .i64 0)) rfl
                        have c2' := blk_cell (three_put (hk7).t2 (.int .i64 0) (.int .i64 0) (.slice none 0 0)) 2 (v := some (.slice none 0 0)) rfl
                        exact bodyPost_ret (v := .tuple #[.agg #[.int .i64 0, .int .i64 0, .slice none 0 0], .int .i64 4]) (by simp [results, Try.results69, go_sem, c0', c1', c2']) rfl ⟨_, rfl, rfl, three_below (hk7).bel (Nat.le_refl _) _ _ _⟩
                      · rw [if_neg (by intro h; rcases h with h | h | h; exact h rfl; exact hpe h; (rw [hm] at h; cases h))] at HBo
                        simp only [Prod.mk.injEq] at HBo
                        obtain ⟨ea, eb, ec, ed⟩ := HBo
                        subst ea; subst ed; subst gg; subst ff
                        have HM := Lib.hid hm
                        clear hm
                        go_wp2_with (first | (go_at_call 60; refine (rmay_any x1 x2 Av nv cv ss _ hsv hcv).mono ?_; rw [HM.out]; rintro e7 w7 ⟨rfl, hb7⟩; have hk7 := hK.below hb7; have z0 := blk_cell (hk7).t2 0 (v := some (.int .i64 0)) rfl; have z1 := blk_cell (hk7).t2 1 (v := some (.int .i64 0)) rfl; have z2 := blk_cell (hk7).t2 2 (v := some (.slice none 0 0)) rfl; have f0 := blk_free (hk7).t2 0; have f1 := blk_free (hk7).t2 1; have f2 := blk_free (hk7).t2 2; have y3 := blk_cell hk7.t5 0 (v := some (.int .i64 x1)) rfl; have y4 := blk_cell hk7.t5 1 (v := some (.int .i64 x2)) rfl; have y5 := blk_cell hk7.t5 2 (v := some (.slice Av nv cv)) rfl))
                        have c0' := blk_cell (three_put hk7.t2 (.int .i64 x1) (.int .i64 x2) (.slice Av nv cv)) 0 (v := some (.int .i64 x1)) rfl
                        have c1' := blk_cell (three_put hk7.t2 (.int .i64 x1) (.int .i64 x2) (.slice Av nv cv)) 1 (v := some (.int .i64 x2)) rfl
                        have c2' := blk_cell (three_put hk7.t2 (.int .i64 x1) (.int .i64 x2) (.slice Av nv cv)) 2 (v := some (.slice Av nv cv)) rfl
                        exact bodyPost_ret (v := .tuple #[.agg #[.int .i64 x1, .int .i64 x2, .slice Av nv cv], .int .i64 0]) (by simp [results, Try.results69, go_sem, c0', c1', c2']) rfl ⟨_, rfl, ⟨_, rfl, (hk7.own.lower (by have := hk7.o1; have := hk7.o2; omega)).put3 (hk7.ne _ (.inl (by have := hk7.o1; have := hk7.o2; omega))) _ _ _⟩, three_below hk7.bel (Nat.le_refl _) _ _ _⟩
                  · by_cases hlt' : k < m
                    · have hbq := rdSegs_q SS HBS.out p3 b3 HBQ.out k
                      rw [hr] at hbq
                      simp only at hbq
                      have hfin : (rdSegs SS p3 b3 m).2.2 = b := by
                        have h := hstk hbz (m - k)
                        rw [show k + (m - k) = m by omega] at h
                        exact h
                      have HBo := HB.out
                      simp only [hfin] at HBo
                      have hE2 : e0 = mb b ∧ gg = 0 ∧ ff = 0 ∧ oo = none := by
                        rcases hbq with h | h | h | h
                        · exact absurd h hbz
                        · rw [h] at HBo; simpa [mb, h] using HBo
                        · rw [h] at HBo; simpa [mb, h] using HBo
                        · rw [h] at HBo; simpa [mb, h] using HBo
                      obtain ⟨rfl, rfl, rfl, rfl⟩ := hE2
                      have hmz : (mb b == 0) = false := by simpa using mb_ne hbz
                      have hmz2 : (mb b != 0) = true := by simpa using mb_ne hbz
                      have ht2 := hK.t2
                      have hgw2 : w.heap.size ≠ g := by have := hK.o1; omega
                      have z0 := blk_cell (hK).t2 0 (v := some (.int .i64 0)) rfl; have z1 := blk_cell (hK).t2 1 (v := some (.int .i64 0)) rfl; have z2 := blk_cell (hK).t2 2 (v := some (.slice none 0 0)) rfl; have f0 := blk_free (hK).t2 0; have f1 := blk_free (hK).t2 1; have f2 := blk_free (hK).t2 2
                      have hmq : QS wr g (some ad) e c (l.take e) (p + 4) (mb b) := hs
                      generalize hmbv : mb b = B at *
                      clear hr hbds hstk hbq hfin HBo hbz
                      go_wp2_with fail
                      go_region_held3 (fun w' => w'.cell? ⟨g, 2, none⟩ = some (.int .i64 B)) (first | exact c2 | exact blk_cell (blk_set_ne (blk_set_ne (blk_set_ne (show wr.drew.heap[g]? = _ from hs.rd) 0 _ (Ne.symm hgw2)) 1 _ (Ne.symm hgw2)) 2 _ (Ne.symm hgw2)) 2 rfl) (fail)
                      all_goals
                        go_wp2_with fail
                        have c0' : (((wr.setCell ⟨w.heap.size, 0, none⟩ (.int .i64 0)).setCell ⟨w.heap.size, 1, none⟩ (.int .i64 0)).setCell ⟨w.heap.size, 2, none⟩ (.slice none 0 0)).drew.cell? ⟨w.heap.size, 0, none⟩ = some (.int .i64 0) := blk_cell (three_put ht2 (.int .i64 0) (.int .i64 0) (.slice none 0 0)) 0 rfl
                        have c1' : (((wr.setCell ⟨w.heap.size, 0, none⟩ (.int .i64 0)).setCell ⟨w.heap.size, 1, none⟩ (.int .i64 0)).setCell ⟨w.heap.size, 2, none⟩ (.slice none 0 0)).drew.cell? ⟨w.heap.size, 1, none⟩ = some (.int .i64 0) := blk_cell (three_put ht2 (.int .i64 0) (.int .i64 0) (.slice none 0 0)) 1 rfl
                        have c2' : (((wr.setCell ⟨w.heap.size, 0, none⟩ (.int .i64 0)).setCell ⟨w.heap.size, 1, none⟩ (.int .i64 0)).setCell ⟨w.heap.size, 2, none⟩ (.slice none 0 0)).drew.cell? ⟨w.heap.size, 2, none⟩ = some (.slice none 0 0) := blk_cell (three_put ht2 (.int .i64 0) (.int .i64 0) (.slice none 0 0)) 2 rfl
                        exact bodyPost_ret (v := .tuple #[.agg #[.int .i64 0, .int .i64 0, .slice none 0 0], .int .i64 B]) (by simp [results, Try.results69, go_sem, c0', c1', c2']) rfl ⟨_, by rw [hmbv], rfl, (three_below hK.bel (Nat.le_refl _) _ _ _).drew⟩
                    · have hkm : k = m := by omega
                      have hbq := rdSegs_q SS HBS.out p3 b3 HBQ.out k
                      rw [hr] at hbq
                      simp only at hbq
                      have hfin : (rdSegs SS p3 b3 m).2.2 = b := by
                        have h := hstk hbz (m - k)
                        rw [show k + (m - k) = m by omega] at h
                        exact h
                      have HBo := HB.out
                      simp only [hfin] at HBo
                      have hE2 : e0 = mb b ∧ gg = 0 ∧ ff = 0 ∧ oo = none := by
                        rcases hbq with h | h | h | h
                        · exact absurd h hbz
                        · rw [h] at HBo; simpa [mb, h] using HBo
                        · rw [h] at HBo; simpa [mb, h] using HBo
                        · rw [h] at HBo; simpa [mb, h] using HBo
                      obtain ⟨rfl, rfl, rfl, rfl⟩ := hE2
                      have hmz : (mb b == 0) = false := by simpa using mb_ne hbz
                      have hmz2 : (mb b != 0) = true := by simpa using mb_ne hbz
                      have ht2 := hK.t2
                      have hgw2 : w.heap.size ≠ g := by have := hK.o1; omega
                      have z0 := blk_cell (hK).t2 0 (v := some (.int .i64 0)) rfl; have z1 := blk_cell (hK).t2 1 (v := some (.int .i64 0)) rfl; have z2 := blk_cell (hK).t2 2 (v := some (.slice none 0 0)) rfl; have f0 := blk_free (hK).t2 0; have f1 := blk_free (hK).t2 1; have f2 := blk_free (hK).t2 2
                      have hmq : QS wr g (some ad) e c (l.take e) (p + 4) (mb b) := hs
                      generalize hmbv : mb b = B at *
                      clear hr hbds hstk hbq hfin HBo hbz
                      go_wp2_with fail
                      go_region_held3 (fun w' => w'.cell? ⟨g, 2, none⟩ = some (.int .i64 B)) (first | exact c2 | exact blk_cell (blk_set_ne (blk_set_ne (blk_set_ne (show wr.drew.heap[g]? = _ from hs.rd) 0 _ (Ne.symm hgw2)) 1 _ (Ne.symm hgw2)) 2 _ (Ne.symm hgw2)) 2 rfl) (fail)
                      all_goals
                        go_wp2_with fail
                        have c0' : (((wr.setCell ⟨w.heap.size, 0, none⟩ (.int .i64 0)).setCell ⟨w.heap.size, 1, none⟩ (.int .i64 0)).setCell ⟨w.heap.size, 2, none⟩ (.slice none 0 0)).drew.cell? ⟨w.heap.size, 0, none⟩ = some (.int .i64 0) := blk_cell (three_put ht2 (.int .i64 0) (.int .i64 0) (.slice none 0 0)) 0 rfl
                        have c1' : (((wr.setCell ⟨w.heap.size, 0, none⟩ (.int .i64 0)).setCell ⟨w.heap.size, 1, none⟩ (.int .i64 0)).setCell ⟨w.heap.size, 2, none⟩ (.slice none 0 0)).drew.cell? ⟨w.heap.size, 1, none⟩ = some (.int .i64 0) := blk_cell (three_put ht2 (.int .i64 0) (.int .i64 0) (.slice none 0 0)) 1 rfl
                        have c2' : (((wr.setCell ⟨w.heap.size, 0, none⟩ (.int .i64 0)).setCell ⟨w.heap.size, 1, none⟩ (.int .i64 0)).setCell ⟨w.heap.size, 2, none⟩ (.slice none 0 0)).drew.cell? ⟨w.heap.size, 2, none⟩ = some (.slice none 0 0) := blk_cell (three_put ht2 (.int .i64 0) (.int .i64 0) (.slice none 0 0)) 2 rfl
                        exact bodyPost_ret (v := .tuple #[.agg #[.int .i64 0, .int .i64 0, .slice none 0 0], .int .i64 B]) (by simp [results, Try.results69, go_sem, c0', c1', c2']) rfl ⟨_, by rw [hmbv], rfl, (three_below hK.bel (Nat.le_refl _) _ _ _).drew⟩
          · have HCO := Lib.hid hco
            clear hco
            have hx64 : (64 : Int) < xx := h64
            have HBo := HB.out
            simp only [Prod.mk.injEq] at hco3
            obtain ⟨hm0, hpp, rfl⟩ := hco3
            obtain rfl := hpp.symm
            have hm0' : m = 0 := by omega
            subst hm0'
            rw [show rdSegs SS p2 3 0 = ([], p2, 3) from rfl] at HBo
            simp only [show ¬ (3 : Int) = 2 by decide, if_false, ne_eq, show ¬ (3 : Int) = 0 by decide, not_false_eq_true, true_or, if_true, Prod.mk.injEq] at HBo
            obtain ⟨rfl, rfl, rfl, rfl⟩ := HBo
            go_wp2_with (first
              | (go_at_call 114; refine (rnumber_any (w.heap.size + 1) (some ad) e c _ SS hSS' 0 0 _ hq0).mono ?_; rw [H1.out]; rintro e1 w1 ⟨rfl, hs1, hg1⟩; have ht1 := blk_grown hg1 (by omega) ht0; have hz1 := blk_grown hg1 (by omega) HZ0.out; have hw1 := below_grow hw0 hw0.size hg1 (by omega); have y0 := blk_cell hz1 0 (v := some (.int .i64 0)) rfl; have y1 := blk_free hz1 0; have hs1' := hs1.put (hlte.mono (by omega)) (K := w.heap.size + 1 + 1) (by omega) 0 (.int .i64 x1); have hz1' := blk_set hz1 0 (.int .i64 x1); have ht1' := blk_set_ne ht1 (g := w.heap.size + 1 + 1) 0 (.int .i64 x1) (by omega); have hw1' := hw1.setCell (p := ⟨w.heap.size + 1 + 1, 0, none⟩) (by show w.heap.size ≤ w.heap.size + 1 + 1; omega) (.int .i64 x1))
              | (go_at_call 114; refine (rnumber_any (w.heap.size + 1) (some ad) e c _ SS hSS' p1 b1 _ hs1').mono ?_; rw [H2.out]; rintro e2 w2 ⟨rfl, hs2, hg2⟩; have ht2 := blk_grown hg2 (by omega) ht1'; have hz2 := blk_grown hg2 (by omega) hz1'; have hw2 := below_grow hw1' hw1'.size hg2 (by omega); have y2 := blk_cell hz2 1 (v := some (.int .i64 0)) rfl; have y3 := blk_free hz2 1; have hs2' := hs2.put (hlte.mono (by omega)) (K := w.heap.size + 1 + 1) (by omega) 1 (.int .i64 x2); have hz2' := blk_set hz2 1 (.int .i64 x2); have ht2' := blk_set_ne ht2 (g := w.heap.size + 1 + 1) 1 (.int .i64 x2) (by omega); have hw2' := hw2.setCell (p := ⟨w.heap.size + 1 + 1, 1, none⟩) (by show w.heap.size ≤ w.heap.size + 1 + 1; omega) (.int .i64 x2); have hk2 : KS w (w2.setCell ⟨w.heap.size + 1 + 1, 1, none⟩ (.int .i64 x2)) (w.heap.size + 1 + 1) (w.heap.size + 1) x1 x2 (.slice none 0 0) [] := ⟨ht2', hz2', OSg.nil _ _, hw2', by omega, by omega⟩)
              | (go_at_call 88; refine (qvarint_any (w.heap.size + 1) (some ad) e c _ (p2 + 4) (mb b2) 18446744073709551615 _ hs2').mono ?_; rw [HCO.out]; rintro e3 w3 ⟨rfl, hs3, hg3⟩; have hk3 := hk2.grown hg3; have c2 := hs3.rd.c2; have z0 := blk_cell (hk3).t2 0 (v := some (.int .i64 0)) rfl; have z1 := blk_cell (hk3).t2 1 (v := some (.int .i64 0)) rfl; have z2 := blk_cell (hk3).t2 2 (v := some (.slice none 0 0)) rfl; have f0 := blk_free (hk3).t2 0; have f1 := blk_free (hk3).t2 1; have f2 := blk_free (hk3).t2 2))
            have c0' := blk_cell (three_put (hk3).t2 (.int .i64 0) (.int .i64 0) (.slice none 0 0)) 0 (v := some (.int .i64 0)) rfl
            have c1' := blk_cell (three_put (hk3).t2 (.int .i64 0) (.int .i64 0) (.slice none 0 0)) 1 (v := some (.int .i64 0)) rfl
            have c2' := blk_cell (three_put (hk3).t2 (.int .i64 0) (.int .i64 0) (.slice none 0 0)) 2 (v := some (.slice none 0 0)) rfl
            exact bodyPost_ret (v := .tuple #[.agg #[.int .i64 0, .int .i64 0, .slice none 0 0], .int .i64 4]) (by simp [results, Try.results69, go_sem, c0', c1', c2']) rfl ⟨_, rfl, rfl, three_below (hk3).bel (Nat.le_refl _) _ _ _⟩
      · have hxb : (x != y) = true := by simpa using hxy
        have H : Hid (readI l = (5, 0, 0, none)) := Lib.hid (by
          unfold readI
          have hn := HL.out
          rw [if_neg (by omega), if_neg (fun h => h hmg), hn, show e + 4 - 4 = e by omega, HX2.out, HY.out, if_pos hxy])
        rw [H.out]
        go_enter Try.func69, Try.ntmps69
        go_wp2_with fail
        go_region_held3 (fun _ => True) (exact True.intro) (first
          | (go_at_call 113; refine (number_all (some (ad.add e)) 4 (c - e) _ _ (hE.below (Below.drew (Below.refl _ _))) (by omega)).mono ?_; rw [HX.out]; rintro e1 w1 ⟨rfl, rfl⟩)
          | (go_at_call 105; refine (rsum_any (some ad) e c (l.take e) _ (hD.below (Below.drew (Below.refl _ _)))).mono ?_; rw [HY.out]; rintro e3 w3 ⟨rfl, rfl⟩))
        all_goals
          go_wp2_with fail
          have c0' := blk_cell (show (w.alloc (.cells #[.int .i64 0, .int .i64 0, .slice none 0 0] 78)).drew.heap[w.heap.size]? = some (.cells #[.int .i64 0, .int .i64 0, .slice none 0 0] 78) from HT0.out) 0 (v := some (.int .i64 0)) rfl
          have c1' := blk_cell (show (w.alloc (.cells #[.int .i64 0, .int .i64 0, .slice none 0 0] 78)).drew.heap[w.heap.size]? = some (.cells #[.int .i64 0, .int .i64 0, .slice none 0 0] 78) from HT0.out) 1 (v := some (.int .i64 0)) rfl
          have c2' := blk_cell (show (w.alloc (.cells #[.int .i64 0, .int .i64 0, .slice none 0 0] 78)).drew.heap[w.heap.size]? = some (.cells #[.int .i64 0, .int .i64 0, .slice none 0 0] 78) from HT0.out) 2 (v := some (.slice none 0 0)) rfl
          exact bodyPost_ret (v := .tuple #[.agg #[.int .i64 0, .int .i64 0, .slice none 0 0], .int .i64 5]) (by simp [results, Try.results69, go_sem, c0', c1', c2']) rfl ⟨_, rfl, rfl, hb0.drew⟩
    · have hSn : ¬ S = ⟨#[70, 67, 65, 84]⟩ := by rw [← hS]; exact fun h => hmg ((str4_eq l hy (by have := HL.out; omega)).1 h)
      have hSl : (S.toList == [70, 67, 65, 84]) = false := by
        rw [ByteArray.toList_eq]
        apply Bool.eq_false_iff.2
        intro h
        exact hSn (by cases S with | mk d => have h2 := eq_of_beq h; simp only at h2; rw [show d = #[70, 67, 65, 84] from Array.ext' h2])
      have H : Hid (readI l = (4, 0, 0, none)) := Lib.hid (by unfold readI; rw [if_neg (by have := HL.out; omega), if_pos hmg])
      rw [H.out]
      go_enter Try.func69, Try.ntmps69
      go_wp2_with fail
      have c0' := blk_cell HT0.out 0 (v := some (.int .i64 0)) rfl
      have c1' := blk_cell HT0.out 1 (v := some (.int .i64 0)) rfl
      have c2' := blk_cell HT0.out 2 (v := some (.slice none 0 0)) rfl
      exact bodyPost_ret (v := .tuple #[.agg #[.int .i64 0, .int .i64 0, .slice none 0 0], .int .i64 4]) (by simp [results, Try.results69, go_sem, c0', c1', c2']) rfl ⟨_, rfl, rfl, hb0⟩
end Go.Proofs.Ythggicgbcgeggaa
