/- Walk: catalog.body (a catalog's bytes between the mark and the sum) as one plain function. -/
import Derived.Test.YthggicgbcgeggaaVB3
import Derived.Test.YthggicgbcgeggaaVL6
set_option linter.unusedVariables false
set_option linter.unusedSimpArgs false
namespace Go.Proofs.Ythggicgbcgeggaa
open Go.RowKit
/-- what stands at A lies below block K -/
def RBlt (A : Option Addr) (n K : Nat) : Prop := ∀ j, j < n → ∀ ad, A = some ad → (ad.add j).block < K
theorem RB.ltb {w : World} {A : Option Addr} {n : Nat} {l : List Int} (h : RB w A n l) : RBlt A n w.heap.size := fun j hj ad e => by
  obtain ⟨ad', e', hc⟩ := h.cell j hj
  obtain rfl : ad = ad' := by rw [e] at e'; injection e'
  exact World.block_lt_of_cell? w _ hc
theorem RB.put {w : World} {A : Option Addr} {n K : Nat} {l : List Int} (h : RB w A n l) (hl : RBlt A n K) (i : Nat) (u : Value) : RB (w.setCell ⟨K, i, none⟩ u) A n l :=
  ⟨h.len, h.top, fun j hj => by
    obtain ⟨ad, e, hc⟩ := h.cell j hj
    have := hl j hj ad e
    exact ⟨ad, e, (World.cell?_of_block (Below.heap_setCell w ⟨K, i, none⟩ u (ad.add j).block (by show (ad.add j).block ≠ K; omega))).trans hc⟩, h.rng⟩
theorem RS.put {w : World} {g : Nat} {A : Option Addr} {n c : Nat} {l : List Int} {p : Nat} {b : Int} (h : RS w g A n c l p b) {K : Nat} (hl : RBlt A n K) (hg : g ≠ K) (i : Nat) (u : Value) : RS (w.setCell ⟨K, i, none⟩ u) g A n c l p b :=
  ⟨blk_set_ne h.rd i u hg, h.rb.put hl i u, h.hc, h.hp⟩
/-- body's own memory: the result, the catalog that is built, its segments -/
structure KS (w wr : World) (q g : Nat) (x1 x2 : Int) (v : Value) (ss : List Sg) : Prop where
  t2 : wr.heap[w.heap.size]? = some (.cells #[.int .i64 0, .int .i64 0, .slice none 0 0] 78 (0, 0))
  t5 : wr.heap[q]? = some (.cells #[.int .i64 x1, .int .i64 x2, v] 78 (0, 0))
  own : OSg wr (q + 1) v ss
  bel : Below w.heap.size w wr
  o1 : w.heap.size < g
  o2 : g < q
theorem KS.ne {w wr : World} {q g : Nat} {x1 x2 : Int} {v : Value} {ss : List Sg} (h : KS w wr q g x1 x2 v ss) (k : Nat) (hk : k ≤ q ∨ wr.heap.size ≤ k) : v.ownBlock ≠ some k := fun e => by
  have := own_blk_lt h.own k e; omega
theorem KS.grown {w wr w' : World} {q g : Nat} {x1 x2 : Int} {v : Value} {ss : List Sg} (h : KS w wr q g x1 x2 v ss) (hg : wr.grownBy w' (some g)) : KS w w' q g x1 x2 v ss :=
  ⟨blk_grown hg (by have := h.o1; omega) h.t2, blk_grown hg (by have := h.o2; omega) h.t5, World.ownsRow.kept h.own hg (.inr (h.ne g (.inl (by have := h.o2; omega)))), below_grow h.bel h.bel.size hg (by have := h.o1; omega), h.o1, h.o2⟩
theorem KS.below {w wr w' : World} {q g : Nat} {x1 x2 : Int} {v : Value} {ss : List Sg} (h : KS w wr q g x1 x2 v ss) (hb : Below wr.heap.size wr w') : KS w w' q g x1 x2 v ss :=
  ⟨(hb.block _ (lt_of_block h.t2)).trans h.t2, (hb.block _ (lt_of_block h.t5)).trans h.t5, h.own.below hb, below_to h.bel h.bel.size hb, h.o1, h.o2⟩
theorem KS.set {w wr : World} {q g : Nat} {x1 x2 : Int} {v : Value} {ss : List Sg} (h : KS w wr q g x1 x2 v ss) {K : Nat} (hK : q < K) (hv : v.ownBlock ≠ some K) (i : Nat) (u : Value) : KS w (wr.setCell ⟨K, i, none⟩ u) q g x1 x2 v ss :=
  ⟨blk_set_ne h.t2 i u (by have := h.o1; have := h.o2; omega), blk_set_ne h.t5 i u (by omega), h.own.put hv i u, h.bel.setCell (p := ⟨K, i, none⟩) (by have := h.o1; have := h.o2; show w.heap.size ≤ K; omega) u, h.o1, h.o2⟩
theorem KS.app {w wr w1 w2 : World} {q g : Nat} {x1 x2 : Int} {v v2 : Value} {ss s2 : List Sg} (h : KS w wr q g x1 x2 v ss) (hb : Below wr.heap.size wr w1) (ho : OSg w2 (q + 1) v2 s2) (hg : w1.grownBy w2 v.ownBlock) (ha : v2.ownBlock = v.ownBlock ∨ v2.ownBlock = some w1.heap.size) : KS w (w2.setCell ⟨q, 2, none⟩ v2) q g x1 x2 v2 s2 := by
  have h1 := h.below hb
  have hq := lt_of_block h1.t5
  have hk := h1.ne
  have hnq : v2.ownBlock ≠ some q := fun e => by have := own_blk_lt ho q e; omega
  have e1 : w2.heap[w.heap.size]? = some (.cells #[.int .i64 0, .int .i64 0, .slice none 0 0] 78 (0, 0)) := (hg.block _ (lt_of_block h1.t2) (Ne.symm (hk _ (.inl (by have := h.o1; have := h.o2; omega))))).trans h1.t2
  have e2 : w2.heap[q]? = some (.cells #[.int .i64 x1, .int .i64 x2, v] 78 (0, 0)) := (hg.block _ hq (Ne.symm (hk _ (.inl (Nat.le_refl _))))).trans h1.t5
  exact ⟨blk_set_ne e1 2 v2 (by have := h.o1; have := h.o2; omega), (blk_set e2 2 v2).trans (by simp), ho.put hnq 2 v2, ((h1.bel.grown hg h1.bel.size (fun k hk => by have := own_blk_lt h1.own k hk; have := h.o1; have := h.o2; omega))).setCell (p := ⟨q, 2, none⟩) (by have := h.o1; have := h.o2; show w.heap.size ≤ q; omega) v2, h.o1, h.o2⟩
theorem RS.app {w w1 w2 : World} {q g : Nat} {A : Option Addr} {n c : Nat} {l : List Int} {p : Nat} {b : Int} {v v2 : Value} (h : RS w g A n c l p b) (hb : Below w.heap.size w w1) (hg : w1.grownBy w2 v.ownBlock) (hv : ∀ k, v.ownBlock = some k → q < k) (hA : RBlt A n q) (hq : g < q) : RS (w2.setCell ⟨q, 2, none⟩ v2) g A n c l p b := by
  have h1 := h.below hb
  refine ⟨blk_set_ne ((hg.block g (lt_of_block h1.rd) (fun e => by have := hv g e.symm; omega)).trans h1.rd) 2 v2 (by omega), ⟨h.rb.len, h.rb.top, fun j hj => ?_, h.rb.rng⟩, h.hc, h.hp⟩
  obtain ⟨ad, e, hc⟩ := h1.rb.cell j hj
  have hA' := hA j hj ad e
  refine ⟨ad, e, (World.cell?_of_block ((Below.heap_setCell w2 ⟨q, 2, none⟩ v2 (ad.add j).block (by show (ad.add j).block ≠ q; omega)).trans (hg.block _ (World.block_lt_of_cell? w1 _ hc) (fun e => by have := hv _ e.symm; omega)))).trans hc⟩
theorem KS.mid {w wr w1 w2 : World} {q g : Nat} {x1 x2 : Int} {v : Value} {ss : List Sg} (h : KS w wr q g x1 x2 v ss) (hb : Below wr.heap.size wr w1) (hg : w1.grownBy w2 v.ownBlock) : w2.heap[q]? = some (.cells #[.int .i64 x1, .int .i64 x2, v] 78 (0, 0)) :=
  (hg.block _ (lt_of_block (h.below hb).t5) (Ne.symm ((h.below hb).ne _ (.inl (Nat.le_refl _))))).trans (h.below hb).t5
theorem OSg.form {w : World} {base : Nat} {v : Value} {ss : List Sg} (h : OSg w base v ss) : ∃ A n c, v = .slice A n c := by
  rcases h.2 with ⟨e1, _⟩ | ⟨g, cap, cur, e1, _⟩
  · exact ⟨_, _, _, e1⟩
  · exact ⟨_, _, _, e1⟩
theorem KS.drewN {w wr : World} {q g : Nat} {x1 x2 : Int} {v : Value} {ss : List Sg} (h : KS w wr q g x1 x2 v ss) (k : Nat) : KS w (wr.drewN k) q g x1 x2 v ss :=
  ⟨h.t2, h.t5, h.own, below_drewN h.bel k, h.o1, h.o2⟩
theorem KS.own_gt {w wr : World} {q g : Nat} {x1 x2 : Int} {v : Value} {ss : List Sg} (h : KS w wr q g x1 x2 v ss) (k : Nat) (e : v.ownBlock = some k) : q < k := (own_blk_lt h.own k e).1
set_option maxRecDepth 20000 in
set_option maxHeartbeats 4000000 in
theorem body_any (A : Option Addr) (n c : Nat) (l : List Int) (w : World) (hl : RB w A n l) (hc : n ≤ c) :
    Calls Try.prog 112 #[.slice A n c] w fun ex w' => ∃ v, ex = .returned (.tuple #[v, .int .i64 (bodyI l).1]) ∧ CR w' w.heap.size v (bodyI l).2.1 (bodyI l).2.2.1 (bodyI l).2.2.2 ∧ Below w.heap.size w w' := by
  obtain ⟨e0, gg, ff, oo, hbd⟩ : ∃ e0 gg ff oo, bodyI l = (e0, gg, ff, oo) := ⟨_, _, _, _, rfl⟩
  rw [hbd]
  have hby := hl.by_
  have HL := Lib.hid hl.len
  rcases h1 : rdN l 0 0 M63 with ⟨x1, p1, b1⟩
  have q1 := rdN_bd l hby 0 (by omega) 0 M63 (by decide)
  rw [h1] at q1
  rcases h2 : rdN l p1 b1 M63 with ⟨x2, p2, b2⟩
  have q2 := rdN_bd l hby p1 q1.2.2 b1 M63 (by decide)
  rw [h2] at q2
  rcases h3 : rdN l p2 b2 64 with ⟨x3, p3, b3⟩
  have q3 := rdN_bd l hby p2 q2.2.2 b2 64 (by decide)
  rw [h3] at q3
  simp only [M63] at q1 q2 q3
  obtain ⟨⟨x10, x11, -⟩, ⟨x20, x21, -⟩, ⟨x30, x31, hp3⟩⟩ := And.intro q1 (And.intro q2 q3)
  clear q1 q2 q3
  obtain ⟨m, rfl⟩ := Int.eq_ofNat_of_zero_le x30
  have HB : Hid (bodyI l = if (rdSegs l p3 b3 m).2.2 = 2 then (2, 0, 0, none) else if (rdSegs l p3 b3 m).2.2 ≠ 0 ∨ (rdSegs l p3 b3 m).2.1 < l.length ∨ mayB x1 x2 (rdSegs l p3 b3 m).1 = false then (4, 0, 0, none) else (0, x1, x2, some (rdSegs l p3 b3 m).1)) := by
    refine Lib.hid ?_
    unfold bodyI
    simp only [h1, h2, h3]
    rfl
  rw [hbd] at HB
  clear hbd
  have H1 := Lib.hid h1
  have H2 := Lib.hid h2
  have H3 := Lib.hid h3
  have HP3 := Lib.hid hp3
  have HBY := Lib.hid hby
  clear h1 h2 h3 hp3 hby
  have ht0 := heap_alloc_new w (.cells #[.int .i64 0, .int .i64 0, .slice none 0 0] 78)
  have HT0 := Lib.hid ht0
  have hb0 := below_alloc1 w (.cells #[.int .i64 0, .int .i64 0, .slice none 0 0] 78)
  clear ht0
  go_enter Try.func112, Try.ntmps112
  go_wp2_with (first
    | (go_at_call 42; refine (newReader_rs A n c l _ (hl.below hb0)).mono ?_; rintro e w1 ⟨g, A2, c2, rfl, hg, hs1, hB1⟩; have ht1 := (hB1.block w.heap.size (lt_of_block HT0.out)).trans HT0.out; have hg' : w.heap.size < g := Nat.lt_of_lt_of_le (lt_of_block HT0.out) hg; have hw1 := below_to hb0 hb0.size hB1; clear hg hB1)
    | (go_at_call 122; refine (number_any g A2 n c2 l 0 0 _ hs1).mono ?_; rw [H1.out]; rintro e w2 ⟨rfl, hs2, hg2⟩; have ht2 := blk_grown hg2 (by omega) ht1; have hw2 := below_grow hw1 hw1.size hg2 (by omega))
    | (go_at_call 122; refine (number_any g A2 n c2 l p1 b1 _ hs2).mono ?_; rw [H2.out]; rintro e w3 ⟨rfl, hs3, hg3⟩; have ht3 := blk_grown hg3 (by omega) ht2; have hw3 := below_grow hw2 hw2.size hg3 (by omega); have hgl := lt_of_block hs3.rd; have hlt := hs3.rb.ltb; have hk4 : KS w (w3.alloc (.cells #[.int .i64 x1, .int .i64 x2, .slice none 0 0] 78)) w3.heap.size g x1 x2 (.slice none 0 0) [] := ⟨blk_old ht3 _, heap_alloc_new w3 _, OSg.nil _ _, hw3.alloc hw3.size _, hg', hgl⟩)
    | (go_at_call 48; refine (varintR_any g A2 n c2 l p2 b2 64 _ (hs3.below (below_alloc1 w3 _))).mono ?_; rw [H3.out]; rintro e w4 ⟨rfl, hs4, hg4⟩; have hk5 := hk4.grown hg4))
  clear hk4 hg4 hs3 hg3 ht3 hw3 hgl hs2 hg2 ht2 hw2 hs1 ht1 hw1 hg' H1 H2 H3 HT0 hb0
  generalize w3.heap.size = q at *
  clear w3 w2 w1
  go_loopw [20] (fun i wr => ∃ (k : Nat) (v : Value), i = .int .u64 k ∧ k ≤ m ∧ RS wr g A2 n c2 l (rdSegs l p3 b3 k).2.1 (rdSegs l p3 b3 k).2.2 ∧ KS w wr q g x1 x2 v (rdSegs l p3 b3 k).1) (fun i _ => m - (intOf i).toNat)
  case atStart => exact ⟨0, _, rfl, by omega, hs4, hk5⟩
  case round =>
    clear hs4 hk5
    obtain ⟨k, v, rfl, hk, hs, hK⟩ := hrel
    have hbds := rdSegs_bd l HBY.out p3 HP3.out b3 k
    have hlen := rdSegs_len l p3 b3 k
    have hq := lt_of_block hK.t5
    by_cases hlt' : k < m
    · rcases hr : rdSegs l p3 b3 k with ⟨ss, p, b⟩
      rw [hr] at hs hK hbds hlen
      simp only at hs hK hbds hlen
      rcases h1 : rdN l p b M63 with ⟨y1, p4, b4⟩
      rcases h2 : rdN l p4 b4 M63 with ⟨y2, p5, b5⟩
      rcases h3 : rdL l p5 b5 4 with ⟨y3, p6, b6⟩
      rcases h4 : rdN l p6 b6 M63 with ⟨y4, p7, b7⟩
      rcases h5 : rdN l p7 b7 M63 with ⟨y5, p8, b8⟩
      have HN : Hid (rdSegs l p3 b3 (k + 1) = (ss ++ [⟨y1, y2, y3, y4, y5⟩], p8, b8)) := Lib.hid (by
        show ((rdSegs l p3 b3 k).1 ++ [(rdSeg l (rdSegs l p3 b3 k).2.1 (rdSegs l p3 b3 k).2.2).1], (rdSeg l (rdSegs l p3 b3 k).2.1 (rdSegs l p3 b3 k).2.2).2) = _
        rw [hr]; simp only [rdSeg_of h1 h2 h3 h4 h5])
      have H1 := Lib.hid h1
      have H2 := Lib.hid h2
      have H3 := Lib.hid h3
      have H4 := Lib.hid h4
      have H5 := Lib.hid h5
      have HQ := Lib.hid hbds
      clear h1 h2 h3 h4 h5 hr hbds
      have hgq := hK.o2
      go_wp2_with (first
        | (go_at_call 122; refine (number_any g A2 n c2 l p b _ hs).mono ?_; rw [H1.out]; rintro e w5 ⟨rfl, hs5, hg5⟩; have hk5 := hK.grown hg5)
        | (go_at_call 122; refine (number_any g A2 n c2 l p4 b4 _ hs5).mono ?_; rw [H2.out]; rintro e w6 ⟨rfl, hs6, hg6⟩; have hk6 := hk5.grown hg6; have hq6 := lt_of_block hk6.t5; have hK6 := hk6.ne w6.heap.size (.inr (Nat.le_refl _)); have hA6 := hs6.rb.ltb; have ht6 := heap_alloc_new w6 (.cells #[.int .i64 y1, .int .i64 y2, .int .u32 0, .int .i64 0, .int .i64 0] 96))
        | (go_at_call 50; refine (fixed32R_any g A2 n c2 l p5 b5 _ (hs6.below (below_alloc1 w6 _))).mono ?_; rw [H3.out]; rintro e w7 ⟨rfl, hs7, hg7⟩; have hk7 := (hk6.below (below_alloc1 w6 _)).grown hg7; have ht7 := blk_grown hg7 (by omega) ht6; have f7 := blk_free ht7 2; have z7 := blk_cell ht7 2 (v := some (.int .u32 0)) rfl; have hs8 := hs7.put hA6 (by omega) 2 (.int .u32 y3); have hk8 := hk7.set hq6 hK6 2 (.int .u32 y3); have ht8 := blk_set ht7 2 (.int .u32 y3))
        | (go_at_call 122; refine (number_any g A2 n c2 l p6 b6 _ hs8).mono ?_; rw [H4.out]; rintro e w9 ⟨rfl, hs9, hg9⟩; have hk9 := hk8.grown hg9; have ht9 := blk_grown hg9 (by omega) ht8; have f9 := blk_free ht9 3; have z9 := blk_cell ht9 3 (v := some (.int .i64 0)) rfl; have hs10 := hs9.put hA6 (by omega) 3 (.int .i64 y4); have hk10 := hk9.set hq6 hK6 3 (.int .i64 y4); have ht10 := blk_set ht9 3 (.int .i64 y4))
        | (go_at_call 122; refine (number_any g A2 n c2 l p7 b7 _ hs10).mono ?_; rw [H5.out]; rintro e w11 ⟨rfl, hs11, hg11⟩; have hk11 := hk10.grown hg11; have ht11 := blk_grown hg11 (by omega) ht10; have f11 := blk_free ht11 4; have z11 := blk_cell ht11 4 (v := some (.int .i64 0)) rfl; have hs12 := hs11.put hA6 (by omega) 4 (.int .i64 y5); have hk12 := hk11.set hq6 hK6 4 (.int .i64 y5); have ht12 := blk_set ht11 4 (.int .i64 y5); have e0 := blk_cell ht11 0 (v := some (.int .i64 y1)) rfl; have e1 := blk_cell ht11 1 (v := some (.int .i64 y2)) rfl; have e2 := blk_cell ht11 2 (v := some (.int .u32 y3)) rfl; have e3 := blk_cell ht11 3 (v := some (.int .i64 y4)) rfl; have e4 := blk_cell ht12 4 (v := some (.int .i64 y5)) rfl; have e5 := blk_cell hk11.t5 2 (v := some v) rfl; have e6 := blk_cell ht12 0 (v := some (.int .i64 y1)) rfl; have e7 := blk_cell ht12 1 (v := some (.int .i64 y2)) rfl; have e8 := blk_cell ht12 2 (v := some (.int .u32 y3)) rfl; have e9 := blk_cell ht12 3 (v := some (.int .i64 y4)) rfl; have e10 := blk_cell hk12.t5 2 (v := some v) rfl)
        | (at_builtin; refine wpList_append_sg (w0 := w) rfl (q + 1) (.tmp 37) (.tmp 39) rfl v ss rfl (OSg.alloc hk12.own _) (some ⟨w11.heap.size, 0, none⟩) 1 1 [⟨y1, y2, y3, y4, y5⟩] rfl (RV_sg (x := ⟨y1, y2, y3, y4, y5⟩) (heap_new3 (by simp) _)) (hk12.bel.alloc hk12.bel.size (.cells #[.int .i64 y1, .int .i64 y2, .int .u32 y3, .int .i64 y4, .int .i64 y5] 96)) (by have := hk12.o1; omega) (by have := lt_of_block hk12.t5; simp at this ⊢; omega) rfl (by simp; omega) ?_; intro v13 w13 hO13 hB13 hg13 ha13; have hk13 := hk12.app (below_alloc1 _ _) hO13 hg13 ha13; have hs13 := hs12.app (v2 := v13) (below_alloc1 _ _) hg13 hk12.own_gt hlt hgq; have hm13 := hk12.mid (below_alloc1 _ _) hg13; obtain ⟨A13, n13, c13, rfl⟩ := OSg.form hO13; have g13 := blk_cell hm13 2 (v := some v) rfl; have g14 := blk_free hm13 2))
      go_roundw
      case rel => exact ⟨k + 1, _, by simp, by omega, by rw [HN.out]; exact hs13, by rw [HN.out]; exact hk13⟩
      case measure => simp [intOf]; omega
    · obtain rfl : k = m := by omega
      rcases hr : rdSegs l p3 b3 k with ⟨ss, p, b⟩
      rw [hr] at hs hK hbds hlen HB
      simp only at hs hK hbds hlen
      simp only [Hid] at HB
      have hpn := hs.hp
      clear hr
      by_cases hb2 : b = 2
      · have HE : Hid (erI p b = ((p : Int), 2)) := Lib.hid (by subst hb2; rfl)
        simp only [hb2, if_true, Prod.mk.injEq] at HB
        obtain ⟨rfl, rfl, rfl, rfl⟩ := HB
        go_wp2_with (first | (go_at_call 44; refine (err_any g A2 n c2 l p b _ hs).mono ?_; rw [HE.out]; rintro e w5 ⟨rfl, kk, hkk⟩; have hk5 : KS w w5 q g x1 x2 v ss := (by rw [hkk]; exact hK.drewN kk); have hs5 : RS w5 g A2 n c2 l p b := (by rw [hkk]; exact hs.drewN kk); clear hkk; have z0 := blk_cell (hk5).t2 0 (v := some (.int .i64 0)) rfl; have z1 := blk_cell (hk5).t2 1 (v := some (.int .i64 0)) rfl; have z2 := blk_cell (hk5).t2 2 (v := some (.slice none 0 0)) rfl; have f0 := blk_free (hk5).t2 0; have f1 := blk_free (hk5).t2 1; have f2 := blk_free (hk5).t2 2))
        have c0' := blk_cell (three_put (hk5).t2 (.int .i64 0) (.int .i64 0) (.slice none 0 0)) 0 (v := some (.int .i64 0)) rfl
        have c1' := blk_cell (three_put (hk5).t2 (.int .i64 0) (.int .i64 0) (.slice none 0 0)) 1 (v := some (.int .i64 0)) rfl
        have c2' := blk_cell (three_put (hk5).t2 (.int .i64 0) (.int .i64 0) (.slice none 0 0)) 2 (v := some (.slice none 0 0)) rfl
        exact bodyPost_ret (v := .tuple #[.agg #[.int .i64 0, .int .i64 0, .slice none 0 0], .int .i64 2]) (by simp [results, Try.results112, go_sem, c0', c1', c2']) rfl ⟨_, rfl, rfl, three_below (hk5).bel (Nat.le_refl _) _ _ _⟩
      · by_cases hb0 : b = 0
        · have HE : Hid (erI p b = (0, 0)) := Lib.hid (by subst hb0; rfl)
          by_cases hpl : p < n
          · rw [if_neg hb2, if_pos (.inr (.inl (by have := HL.out; omega)))] at HB
            simp only [Prod.mk.injEq] at HB
            obtain ⟨rfl, rfl, rfl, rfl⟩ := HB
            have hgt : (0 : Int) < (n : Int) - p := by omega
            go_wp2_with (first | (go_at_call 44; refine (err_any g A2 n c2 l p b _ hs).mono ?_; rw [HE.out]; rintro e w5 ⟨rfl, kk, hkk⟩; have hk5 : KS w w5 q g x1 x2 v ss := (by rw [hkk]; exact hK.drewN kk); have hs5 : RS w5 g A2 n c2 l p b := (by rw [hkk]; exact hs.drewN kk); clear hkk; have z0 := blk_cell (hk5).t2 0 (v := some (.int .i64 0)) rfl; have z1 := blk_cell (hk5).t2 1 (v := some (.int .i64 0)) rfl; have z2 := blk_cell (hk5).t2 2 (v := some (.slice none 0 0)) rfl; have f0 := blk_free (hk5).t2 0; have f1 := blk_free (hk5).t2 1; have f2 := blk_free (hk5).t2 2) | (go_at_call 47; refine (left_rs g A2 n c2 l p b _ hs5).mono ?_; rintro e w6 ⟨rfl, kk, hkk⟩; have hk6 : KS w w6 q g x1 x2 v ss := (by rw [hkk]; exact hk5.drewN kk); clear hkk; have z0 := blk_cell (hk6).t2 0 (v := some (.int .i64 0)) rfl; have z1 := blk_cell (hk6).t2 1 (v := some (.int .i64 0)) rfl; have z2 := blk_cell (hk6).t2 2 (v := some (.slice none 0 0)) rfl; have f0 := blk_free (hk6).t2 0; have f1 := blk_free (hk6).t2 1; have f2 := blk_free (hk6).t2 2; have y0 := blk_cell hk6.t5 0 (v := some (.int .i64 x1)) rfl; have y1 := blk_cell hk6.t5 1 (v := some (.int .i64 x2)) rfl; have y2 := blk_cell hk6.t5 2 (v := some (v)) rfl))
            have c0' := blk_cell (three_put (hk6).t2 (.int .i64 0) (.int .i64 0) (.slice none 0 0)) 0 (v := some (.int .i64 0)) rfl
            have c1' := blk_cell (three_put (hk6).t2 (.int .i64 0) (.int .i64 0) (.slice none 0 0)) 1 (v := some (.int .i64 0)) rfl
            have c2' := blk_cell (three_put (hk6).t2 (.int .i64 0) (.int .i64 0) (.slice none 0 0)) 2 (v := some (.slice none 0 0)) rfl
            exact bodyPost_ret (v := .tuple #[.agg #[.int .i64 0, .int .i64 0, .slice none 0 0], .int .i64 4]) (by simp [results, Try.results112, go_sem, c0', c1', c2']) rfl ⟨_, rfl, rfl, three_below (hk6).bel (Nat.le_refl _) _ _ _⟩
          · obtain rfl : n = p := by omega
            have hgt : ¬ (0 : Int) < (n : Int) - n := by omega
            obtain ⟨Av, nv, cv, rfl, hnv, hcv, hsv⟩ := hK.own.read hbds.1 (by omega)
            clear hnv hlen
            cases hm : mayB x1 x2 ss
            · rw [if_neg hb2, if_pos (.inr (.inr hm))] at HB
              simp only [Prod.mk.injEq] at HB
              obtain ⟨rfl, rfl, rfl, rfl⟩ := HB
              have HM := Lib.hid hm
              clear hm
              go_wp2_with (first | (go_at_call 44; refine (err_any g A2 n c2 l n b _ hs).mono ?_; rw [HE.out]; rintro e w5 ⟨rfl, kk, hkk⟩; have hk5 : KS w w5 q g x1 x2 (.slice Av nv cv) ss := (by rw [hkk]; exact hK.drewN kk); have hs5 : RS w5 g A2 n c2 l n b := (by rw [hkk]; exact hs.drewN kk); have hv5 : RSg w5 Av nv ss := (by rw [hkk]; exact hsv.drewN kk); clear hkk; have z0 := blk_cell (hk5).t2 0 (v := some (.int .i64 0)) rfl; have z1 := blk_cell (hk5).t2 1 (v := some (.int .i64 0)) rfl; have z2 := blk_cell (hk5).t2 2 (v := some (.slice none 0 0)) rfl; have f0 := blk_free (hk5).t2 0; have f1 := blk_free (hk5).t2 1; have f2 := blk_free (hk5).t2 2) | (go_at_call 47; refine (left_rs g A2 n c2 l n b _ hs5).mono ?_; rintro e w6 ⟨rfl, kk, hkk⟩; have hk6 : KS w w6 q g x1 x2 (.slice Av nv cv) ss := (by rw [hkk]; exact hk5.drewN kk); have hv6 : RSg w6 Av nv ss := (by rw [hkk]; exact hv5.drewN kk); clear hkk; have z0 := blk_cell (hk6).t2 0 (v := some (.int .i64 0)) rfl; have z1 := blk_cell (hk6).t2 1 (v := some (.int .i64 0)) rfl; have z2 := blk_cell (hk6).t2 2 (v := some (.slice none 0 0)) rfl; have f0 := blk_free (hk6).t2 0; have f1 := blk_free (hk6).t2 1; have f2 := blk_free (hk6).t2 2; have y0 := blk_cell hk6.t5 0 (v := some (.int .i64 x1)) rfl; have y1 := blk_cell hk6.t5 1 (v := some (.int .i64 x2)) rfl; have y2 := blk_cell hk6.t5 2 (v := some ((.slice Av nv cv))) rfl) | (go_at_call 59; with_reducible refine (may_any x1 x2 Av nv cv ss _ hv6 hcv).mono ?_; rw [HM.out]; rintro e w7 ⟨rfl, hb7⟩; have hk7 := hk6.below hb7; have z0 := blk_cell (hk7).t2 0 (v := some (.int .i64 0)) rfl; have z1 := blk_cell (hk7).t2 1 (v := some (.int .i64 0)) rfl; have z2 := blk_cell (hk7).t2 2 (v := some (.slice none 0 0)) rfl; have f0 := blk_free (hk7).t2 0; have f1 := blk_free (hk7).t2 1; have f2 := blk_free (hk7).t2 2))
              have c0' := blk_cell (three_put (hk7).t2 (.int .i64 0) (.int .i64 0) (.slice none 0 0)) 0 (v := some (.int .i64 0)) rfl
              have c1' := blk_cell (three_put (hk7).t2 (.int .i64 0) (.int .i64 0) (.slice none 0 0)) 1 (v := some (.int .i64 0)) rfl
              have c2' := blk_cell (three_put (hk7).t2 (.int .i64 0) (.int .i64 0) (.slice none 0 0)) 2 (v := some (.slice none 0 0)) rfl
              exact bodyPost_ret (v := .tuple #[.agg #[.int .i64 0, .int .i64 0, .slice none 0 0], .int .i64 4]) (by simp [results, Try.results112, go_sem, c0', c1', c2']) rfl ⟨_, rfl, rfl, three_below (hk7).bel (Nat.le_refl _) _ _ _⟩
            · rw [if_neg hb2, if_neg (by intro h; rcases h with h | h | h; exact h hb0; (have := HL.out; omega); (rw [hm] at h; cases h))] at HB
              simp only [Prod.mk.injEq] at HB
              obtain ⟨ea, eb, ec, ed⟩ := HB
              subst ea; subst ed; subst gg; subst ff
              have HM := Lib.hid hm
              clear hm
              go_wp2_with (first | (go_at_call 44; refine (err_any g A2 n c2 l n b _ hs).mono ?_; rw [HE.out]; rintro e w5 ⟨rfl, kk, hkk⟩; have hk5 : KS w w5 q g x1 x2 (.slice Av nv cv) ss := (by rw [hkk]; exact hK.drewN kk); have hs5 : RS w5 g A2 n c2 l n b := (by rw [hkk]; exact hs.drewN kk); have hv5 : RSg w5 Av nv ss := (by rw [hkk]; exact hsv.drewN kk); clear hkk; have z0 := blk_cell (hk5).t2 0 (v := some (.int .i64 0)) rfl; have z1 := blk_cell (hk5).t2 1 (v := some (.int .i64 0)) rfl; have z2 := blk_cell (hk5).t2 2 (v := some (.slice none 0 0)) rfl; have f0 := blk_free (hk5).t2 0; have f1 := blk_free (hk5).t2 1; have f2 := blk_free (hk5).t2 2) | (go_at_call 47; refine (left_rs g A2 n c2 l n b _ hs5).mono ?_; rintro e w6 ⟨rfl, kk, hkk⟩; have hk6 : KS w w6 q g x1 x2 (.slice Av nv cv) ss := (by rw [hkk]; exact hk5.drewN kk); have hv6 : RSg w6 Av nv ss := (by rw [hkk]; exact hv5.drewN kk); clear hkk; have z0 := blk_cell (hk6).t2 0 (v := some (.int .i64 0)) rfl; have z1 := blk_cell (hk6).t2 1 (v := some (.int .i64 0)) rfl; have z2 := blk_cell (hk6).t2 2 (v := some (.slice none 0 0)) rfl; have f0 := blk_free (hk6).t2 0; have f1 := blk_free (hk6).t2 1; have f2 := blk_free (hk6).t2 2; have y0 := blk_cell hk6.t5 0 (v := some (.int .i64 x1)) rfl; have y1 := blk_cell hk6.t5 1 (v := some (.int .i64 x2)) rfl; have y2 := blk_cell hk6.t5 2 (v := some ((.slice Av nv cv))) rfl) | (go_at_call 59; with_reducible refine (may_any x1 x2 Av nv cv ss _ hv6 hcv).mono ?_; rw [HM.out]; rintro e w7 ⟨rfl, hb7⟩; have hk7 := hk6.below hb7; have z0 := blk_cell (hk7).t2 0 (v := some (.int .i64 0)) rfl; have z1 := blk_cell (hk7).t2 1 (v := some (.int .i64 0)) rfl; have z2 := blk_cell (hk7).t2 2 (v := some (.slice none 0 0)) rfl; have f0 := blk_free (hk7).t2 0; have f1 := blk_free (hk7).t2 1; have f2 := blk_free (hk7).t2 2; have y3 := blk_cell hk7.t5 0 (v := some (.int .i64 x1)) rfl; have y4 := blk_cell hk7.t5 1 (v := some (.int .i64 x2)) rfl; have y5 := blk_cell hk7.t5 2 (v := some (.slice Av nv cv)) rfl))
              have c0' := blk_cell (three_put hk7.t2 (.int .i64 x1) (.int .i64 x2) (.slice Av nv cv)) 0 (v := some (.int .i64 x1)) rfl
              have c1' := blk_cell (three_put hk7.t2 (.int .i64 x1) (.int .i64 x2) (.slice Av nv cv)) 1 (v := some (.int .i64 x2)) rfl
              have c2' := blk_cell (three_put hk7.t2 (.int .i64 x1) (.int .i64 x2) (.slice Av nv cv)) 2 (v := some (.slice Av nv cv)) rfl
              exact bodyPost_ret (v := .tuple #[.agg #[.int .i64 x1, .int .i64 x2, .slice Av nv cv], .int .i64 0]) (by simp [results, Try.results112, go_sem, c0', c1', c2']) rfl ⟨_, rfl, ⟨_, rfl, (hk7.own.lower (by have := hk7.o1; have := hk7.o2; omega)).put3 (hk7.ne _ (.inl (by have := hk7.o1; have := hk7.o2; omega))) _ _ _⟩, three_below hk7.bel (Nat.le_refl _) _ _ _⟩
        · have HE : Hid (erI p b = ((p : Int), b)) := Lib.hid (by unfold erI; rw [if_neg hb0])
          have d1 : (b == 2) = false := by simpa using hb2
          have d2 : (b == 0) = false := by simpa using hb0
          rw [if_neg hb2, if_pos (.inl hb0)] at HB
          simp only [Prod.mk.injEq] at HB
          obtain ⟨rfl, rfl, rfl, rfl⟩ := HB
          go_wp2_with (first | (go_at_call 44; refine (err_any g A2 n c2 l p b _ hs).mono ?_; rw [HE.out]; rintro e w5 ⟨rfl, kk, hkk⟩; have hk5 : KS w w5 q g x1 x2 v ss := (by rw [hkk]; exact hK.drewN kk); have hs5 : RS w5 g A2 n c2 l p b := (by rw [hkk]; exact hs.drewN kk); clear hkk; have z0 := blk_cell (hk5).t2 0 (v := some (.int .i64 0)) rfl; have z1 := blk_cell (hk5).t2 1 (v := some (.int .i64 0)) rfl; have z2 := blk_cell (hk5).t2 2 (v := some (.slice none 0 0)) rfl; have f0 := blk_free (hk5).t2 0; have f1 := blk_free (hk5).t2 1; have f2 := blk_free (hk5).t2 2))
          have c0' := blk_cell (three_put (hk5).t2 (.int .i64 0) (.int .i64 0) (.slice none 0 0)) 0 (v := some (.int .i64 0)) rfl
          have c1' := blk_cell (three_put (hk5).t2 (.int .i64 0) (.int .i64 0) (.slice none 0 0)) 1 (v := some (.int .i64 0)) rfl
          have c2' := blk_cell (three_put (hk5).t2 (.int .i64 0) (.int .i64 0) (.slice none 0 0)) 2 (v := some (.slice none 0 0)) rfl
          exact bodyPost_ret (v := .tuple #[.agg #[.int .i64 0, .int .i64 0, .slice none 0 0], .int .i64 4]) (by simp [results, Try.results112, go_sem, c0', c1', c2']) rfl ⟨_, rfl, rfl, three_below (hk5).bel (Nat.le_refl _) _ _ _⟩
end Go.Proofs.Ythggicgbcgeggaa
