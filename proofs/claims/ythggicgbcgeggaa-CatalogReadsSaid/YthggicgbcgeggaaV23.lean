/- Walk: flumelaw1.WireReader returns true. -/
import Derived.Test.YthggicgbcgeggaaV22
import Derived.Test.YthggicgbcgeggaaVA
set_option linter.unusedVariables false
set_option linter.unusedSimpArgs false
namespace Go.Proofs.Ythggicgbcgeggaa
open Go.RowKit
set_option maxHeartbeats 400000 in
theorem newReader_own (A : Option Addr) (n c : Nat) (l : List Int) (w : World) (hl : RB w A n l) :
    Calls Try.prog 42 #[.slice A n c] w fun e w' => ∃ g A2 c2, e = .returned (.pointer (some ⟨g, 0, none⟩)) ∧ w.heap.size ≤ g ∧ RS w' g A2 n c2 l 0 0 ∧ (∀ ad, A2 = some ad → w.heap.size ≤ ad.block ∧ ad.block < g) ∧ Below w.heap.size w w' := by
  have HLL := Lib.hid hl.len
  have ht := hl.top
  go_enter Try.func42, Try.ntmps42
  go_wp2_with (at_builtin; refine wpList_append_by (w0 := w) rfl w.heap.size (.const (.slice none 0 0)) (.tmp 3) 25 5 rfl Try.underlying25 info5 (.slice none 0 0) [] rfl (OB.nil _ _ _) A n c l rfl hl (Below.refl _ _) (Nat.le_refl _) ?_ ?_; (simp; omega); intro v1 w1 hown1 hB1 hg1 hat1; rw [List.nil_append] at hown1; obtain ⟨A2, n2, c2, rfl, hc2, hb2⟩ := hown1.readN hl.by_ (by rw [HLL.out]; exact ht); obtain rfl : n2 = n := (by rw [← hb2.len, HLL.out]))
  go_ret
  have hn := heap_alloc_new w1 (.cells #[.slice A2 n2 c2, .int .i64 0, .int .i64 0] 65)
  refine ⟨_, A2, c2, rfl, hB1.size, ⟨hn, hb2.below (below_alloc1 _ _), hc2, by omega⟩, fun ad e => ?_, hB1.alloc hB1.size _⟩
  subst e
  exact own_blk_lt hown1 _ rfl
/-- a slice of reading calls that is read -/
structure RO (w : World) (A : Option Addr) (n : Nat) (os : List (Int × Int × Int)) : Prop where
  len : os.length = n
  top : n ≤ 140737488351232
  cell : ∀ j, j < n → ∃ ad, A = some ad ∧ w.cell? (ad.add (j * 3)) = some (.int .i64 (os.getD j (0, 0, 0)).1) ∧ w.cell? ⟨(ad.add (j * 3)).block, (ad.add (j * 3)).off + 1, none⟩ = some (.int .u64 (os.getD j (0, 0, 0)).2.1) ∧ w.cell? ⟨(ad.add (j * 3)).block, (ad.add (j * 3)).off + 2, none⟩ = some (.int .i64 (os.getD j (0, 0, 0)).2.2)
  rng : ∀ j, j < n → -9223372036854775808 ≤ (os.getD j (0, 0, 0)).2.2 ∧ (os.getD j (0, 0, 0)).2.2 ≤ 9223372036854775807
theorem RB.farB {w w' : World} {g : Nat} {A : Option Addr} {n : Nat} {l : List Int} (h : RB w A n l) (ha : 0 < n → ∀ ad, A = some ad → ad.block ≠ g) (hg : w.grownBy w' (some g)) : RB w' A n l :=
  ⟨h.len, h.top, fun j hj => by
    obtain ⟨ad, e, hc⟩ := h.cell j hj
    refine ⟨ad, e, (World.cell?_of_block (hg.block _ (World.block_lt_of_cell? w _ hc) (fun e2 => ha (by omega) ad e ?_))).trans hc⟩
    injection e2 with e2
    rw [block_of_add] at e2
    exact e2, h.rng⟩
/-- both readers stand at the start -/
theorem st_start (w w1 w2 w3 w5 : World) (g gl : Nat) (A A2 : Option Addr) (n c c2 : Nat) (l : List Int) (hb : RB w A n l) (hc : n ≤ c) (h1 : w.heap.size ≤ w1.heap.size) (hgl : w1.heap.size ≤ gl) (hgl2 : gl < w2.heap.size) (hw2 : Below w.heap.size w w2) (hw3 : Below w.heap.size w w3)
    (hg : w2.heap.size ≤ g) (hs3 : RS w3 g A2 n c2 l 0 0) (hA2 : ∀ ad, A2 = some ad → w2.heap.size ≤ ad.block ∧ ad.block < g) (h23 : w2.heap.size ≤ w3.heap.size) (hg5 : (w3.alloc (.cells #[.slice A n c, .int .i64 0, .int .i64 0] 56)).grownBy w5 (some gl)) :
    ST w (w5.alloc (.cells #[.slice none 0 0, .int .i64 0] 43)) w5.heap.size g w3.heap.size w5.heap.size A2 A n c2 c l 0 0 0 0 (.slice none 0 0) 0 [] := by
  have hs : (w3.alloc (.cells #[.slice A n c, .int .i64 0, .int .i64 0] 56)).heap.size = w3.heap.size + 1 := by simp
  have hgt : g < w3.heap.size := lt_of_block hs3.rd
  have h5 := hg5.size
  have hq : QD (w3.alloc (.cells #[.slice A n c, .int .i64 0, .int .i64 0] 56)) w3.heap.size (.slice A n c) 0 0 := heap_alloc_new w3 _
  have hr4 := hs3.below (below_alloc1 w3 (.cells #[.slice A n c, .int .i64 0, .int .i64 0] 56))
  have hw4 := hw3.alloc hw3.size (.cells #[.slice A n c, .int .i64 0, .int .i64 0] 56)
  have hb4 := hb.below hw4
  have hw5 : Below w.heap.size w w5 := below_grow hw4 hw4.size hg5 (by omega)
  have e1 : RS w5 g A2 n c2 l 0 0 := ⟨far_row hg5 hr4.rd (by omega), hr4.rb.farB (fun _ ad e => by have := (hA2 ad e).1; omega) hg5, hr4.hc, hr4.hp⟩
  have e2 : QS w5 w3.heap.size A n c l 0 0 := ⟨far_row hg5 hq (by omega), hb4.farB (fun h0 ad e => by have := hb.lt h0 ad e; omega) hg5, hc, by omega⟩
  refine ⟨e1.below (below_alloc1 _ _), e2.below (below_alloc1 _ _), KB.new w5 _ _ (Nat.le_refl _), by omega, by omega, by omega, fun _ ad e => by have := (hA2 ad e).2; omega, fun h0 ad e => by have := hb.lt h0 ad e; omega, by omega, by omega, by simp, Fr.of_below (hw5.alloc hw5.size _) _⟩
set_option maxRecDepth 20000 in
set_option maxHeartbeats 4000000 in
theorem reader_law (A : Option Addr) (n c : Nat) (l : List Int) (AO : Option Addr) (no co : Nat) (os : List (Int × Int × Int)) (w : World)
    (hb : RB w A n l) (hn : n ≤ 140737488351232) (hc : n ≤ c) (hO : RO w AO no os) :
    Calls Try.prog 8 #[.slice A n c, .slice AO no co] w fun e w' => e = .returned (.bool true) ∧ Below w.heap.size w w' := by
  have HLL := Lib.hid hb.len
  have hby := hb.by_
  have HBY := Lib.hid hby
  clear hby
  have to := hO.top
  go_enter Try.func8, Try.ntmps8
  go_wp2_with (first
    | (go_at_call 20; refine (begun_any _).mono ?_; rintro e w1 ⟨rfl, hw1⟩)
    | (go_at_call 21; refine (lent_any A n c l hn _ (hb.below hw1)).mono ?_; rintro e w2 ⟨gl, cap, rfl, hgl, hcap, hL, hw2'⟩; have hlr := (show RB w2 (some ⟨gl, 0, none⟩) n l from OB.rb hL HLL.out HBY.out (by omega)); have hw2 := below_step hw1 hw2'; have hgl2 := own_blk_lt hL gl rfl)
    | (go_at_call 42; refine (newReader_own _ n cap l _ hlr).mono ?_; rintro e w3 ⟨g, A2, c2, rfl, hg, hs3, hA2, hw3'⟩; have hw3 := below_to hw2 hw2.size hw3'; have hL3 := hL.below hw3')
    | (go_at_call 27; refine (back_any A n c gl cap l hn hcap w (w3.alloc (.cells #[.slice A n c, .int .i64 0, .int .i64 0] 56)) (hw3.alloc hw3.size _) hb (Nat.le_trans hw1.size hgl) ((hL3.below (below_alloc1 w3 _)).lower hw1.size)).mono ?_; rintro e w5 ⟨rfl, hg5⟩; have hsz := Lib.hid (show (w3.alloc (.cells #[.slice A n c, .int .i64 0, .int .i64 0] 56)).heap.size = w3.heap.size + 1 by simp); have hS5 := Lib.hid (st_start w w1 w2 w3 w5 g gl A A2 n c c2 l hb hc hw1.size hgl hgl2.2 hw2 hw3 hg hs3 hA2 hw3'.size hg5)))
  generalize hW : (w5.alloc (.cells #[.slice none 0 0, .int .i64 0] 43)) = W at *
  obtain ⟨kb, hkb⟩ : ∃ kb, kb = w5.heap.size := ⟨_, rfl⟩
  obtain ⟨h, hh⟩ : ∃ h, h = w3.heap.size := ⟨_, rfl⟩
  have hS0 : ST w W kb g h kb A2 A n c2 c l 0 0 0 0 (.slice none 0 0) 0 [] := by
    have := hS5.out
    rw [← hkb, ← hh] at this
    exact this
  have HG0 := Lib.hid (show w.heap.size ≤ g from Nat.le_trans hw2.size hg)
  rw [← hkb, ← hh]
  clear hS5 hsz hg5 hW hkb hh hs3 hA2 hw3' hL3 hL hlr hw2' hw3 hw2 hw1
  go_loopw [9] (fun i wr => ∃ (j p : Nat) (b : Int) (lv : Value) (sz : Int) (ks : List KL), j ≤ no ∧ i = .int .i64 j ∧ ST w wr kb g h kb A2 A n c2 c l p b p b lv sz ks) (fun i _ => no - (intOf i).toNat)
  case atStart => exact ⟨0, 0, 0, _, 0, [], by omega, rfl, hS0⟩
  case round =>
    clear hS0
    obtain ⟨j, p, b, lv, sz, ks, hj, rfl, hS⟩ := hrel
    by_cases hlt : j < no
    · obtain ⟨od, rfl, hk1, hk2, hk3⟩ := hO.cell j hlt
      obtain ⟨z0, z1⟩ := hO.rng j hlt
      obtain ⟨⟨kind, most, size⟩, ho⟩ : ∃ o, o = os.getD j (0, 0, 0) := ⟨_, rfl⟩
      rw [← ho] at hk1 hk2 hk3 z0 z1
      simp only at hk1 hk2 hk3 z0 z1
      clear ho
      have hq1 := cell_keep (hS.belw HG0.out) hk1
      have hq2 := cell_keep (hS.belw HG0.out) hk2
      have hq3 := cell_keep (hS.belw HG0.out) hk3
      have j0 : (0 : Int) ≤ (j : Int) := by omega
      have j1 : (j : Int) < (no : Int) := by omega
      go_wp2_with (first
        | (go_at_call 43; refine (one_any kind most size z0 z1 hS).mono ?_; rintro e w6 ⟨rfl, p', b', lv', sz', ks', hS6⟩)
        | (go_at_call 44; refine (err_any g A2 n c2 l p' b' _ hS6.rs).mono ?_; rintro e w7 ⟨rfl, k7, hw7⟩; have hS7 : ST w w7 kb g h kb A2 A n c2 c l p' b' p' b' lv' sz' ks' := (by rw [hw7]; exact hS6.drewN k7); clear hw7)
        | (go_at_call 45; refine (place_any h A n c l p' b' _ hS7.qs).mono ?_; rintro e w8 ⟨rfl, k8, hw8⟩; have hS8 : ST w w8 kb g h kb A2 A n c2 c l p' b' p' b' lv' sz' ks' := (by rw [hw8]; exact hS7.drewN k8); clear hw8))
      have e1 : ((erI p' b').1 != (erI p' b').1) = false := by simp
      have e2 : ((erI p' b').2 != (erI p' b').2) = false := by simp
      have e3 : ((p' : Int) != (p' : Int)) = false := by simp
      have e4 : (((n : Int) - p') != ((n : Int) - p')) = false := by simp
      have hp8 := hS8.rs.hp
      have hw : IntKind.i64.wrap ((n : Int) - p') = (n : Int) - p' := by rw [IntKind.wrap_i64]; omega
      have hq8 := hS8.qs.rd.c1
      go_quiet ((first | (go_at_call 46; exact Calls.quiet_of_same ((at_any g A2 n c2 l p' b' _ (hS8.rs.drewN _)).mono fun _ _ h => ⟨h.1, h.2.symm⟩)) | (go_at_call 47; exact Calls.quiet_of (left_rs g A2 n c2 l p' b' _ (hS8.rs.drewN _)))))
      go_wp2_with fail
      go_roundw
      case rel => exact ⟨j + 1, p', b', lv', sz', ks', by omega, by go_num, hS8.drewN nq⟩
      case measure => simp [intOf]; omega
    · go_wp2_with (go_at_call 36; refine (apart_any kb kb lv sz ks _ hS.kb_).mono ?_; rintro e w6 ⟨rfl, hF⟩; have hw6 := hF.below (hS.belw HG0.out) (fun k hk => Nat.le_trans hS.low hk))
      go_ret
      exact ⟨rfl, hw6⟩
end Go.Proofs.Ythggicgbcgeggaa
