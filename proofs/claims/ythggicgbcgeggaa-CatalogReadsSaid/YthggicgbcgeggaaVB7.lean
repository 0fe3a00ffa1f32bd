/- Walk: flumelaw10.begun answers true. -/
import Derived.Test.YthggicgbcgeggaaVB6
import Derived.Test.YthggicgbcgeggaaVL8
set_option linter.unusedVariables false
set_option linter.unusedSimpArgs false
namespace Go.Proofs.Ythggicgbcgeggaa
open Go.RowKit
open K
def bs1 : List Sg := [⟨1, 1, 7, 0, 0⟩]
def bs2 : List Sg := [⟨1, 1, 7, 11, 300⟩, ⟨2, 11, 9, 0, 0⟩]
def bs3 : List Sg := [⟨2, 11, 9, 0, 0⟩]
theorem sw_list (ss : List Sg) (h : ∀ s ∈ ss, SW s) (j : Nat) : SW (sg ss j) := by
  unfold sg
  by_cases hj : j < ss.length
  · rw [List.getD_eq_getElem?_getD, List.getElem?_eq_getElem hj]; exact h _ (List.getElem_mem hj)
  · rw [List.getD_eq_getElem?_getD, List.getElem?_eq_none (by omega)]; exact SW.d
theorem sw_lit (a b c d e : Int) (ha : i64r a) (hb : i64r b) (hc : 0 ≤ c ∧ c < 4294967296) (hd : i64r d) (he : i64r e) : SW ⟨a, b, c, d, e⟩ := ⟨ha, hb, hc, hd, he⟩
theorem bs1_sw (j : Nat) : SW (sg bs1 j) := sw_list _ (by intro s hs; simp only [bs1, List.mem_cons, List.not_mem_nil, or_false] at hs; subst hs; exact sw_lit _ _ _ _ _ (by unfold i64r; decide) (by unfold i64r; decide) (by decide) (by unfold i64r; decide) (by unfold i64r; decide)) j
theorem bs2_sw (j : Nat) : SW (sg bs2 j) := sw_list _ (by
  intro s hs; simp only [bs2, List.mem_cons, List.not_mem_nil, or_false] at hs
  rcases hs with rfl | rfl <;> exact sw_lit _ _ _ _ _ (by unfold i64r; decide) (by unfold i64r; decide) (by decide) (by unfold i64r; decide) (by unfold i64r; decide)) j
theorem bs3_sw (j : Nat) : SW (sg bs3 j) := sw_list _ (by intro s hs; simp only [bs3, List.mem_cons, List.not_mem_nil, or_false] at hs; subst hs; exact sw_lit _ _ _ _ _ (by unfold i64r; decide) (by unfold i64r; decide) (by decide) (by unfold i64r; decide) (by unfold i64r; decide)) j
theorem roll_b : rollI 1 1 bs1 11 300 9 = (0, some bs2) := by decide
theorem at_b : atI 2 1 bs2 11 = (1, true) := by decide
theorem cut_b : cutI 2 1 bs2 11 = (0, some bs3, [1]) := by decide
theorem may_b : mayB 1 1 bs1 = true := by decide
theorem cat_b : (catI 1 1 bs1).2 = 0 := by unfold catI; rw [if_pos may_b]
theorem eq_b : eqC 1 1 bs1 1 1 bs1 = true := by decide
theorem rd_b : readI (catI 1 1 bs1).1 = (0, 1, 1, some bs1) := read_catI may_b bs1_sw (by unfold i64r; decide) (by unfold i64r; decide)
/-- a row of one segment just made -/
theorem RSg_one {w : World} {g : Nat} {s : Sg} {fr : Nat × Nat} (h : w.heap[g]? = some (.cells s.cs 96 fr)) (hs : SW s) : RSg w (some ⟨g, 0, none⟩) 1 [s] := by
  refine ⟨rfl, by omega, fun j hj => ⟨_, rfl, ?_⟩, sw_list _ (by intro x hx; simp only [List.mem_cons, List.not_mem_nil, or_false] at hx; subst hx; exact hs)⟩
  obtain rfl : j = 0 := by omega
  have e : (⟨g, 0, none⟩ : Addr).add (0 * 5) = ⟨g, 0, none⟩ := by unfold Addr.add; split <;> simp_all
  rw [e]
  exact ⟨blk_cell h 0 rfl, blk_cell h 1 rfl, blk_cell h 2 rfl, blk_cell h 3 rfl, blk_cell h 4 rfl⟩
theorem rollB (A : Option Addr) (n c : Nat) (w : World) (hs : RSg w A n bs1) (hc : n ≤ c) : Calls Try.prog 61 #[.agg #[.int .i64 1, .int .i64 1, .slice A n c], .int .i64 11, .int .i64 300, .int .u32 9] w fun ex w' => ∃ A2 c2, ex = .returned (.tuple #[.agg #[.int .i64 2, .int .i64 1, .slice A2 2 c2], .int .i64 0]) ∧ 2 ≤ c2 ∧ RSg w' A2 2 bs2 ∧ Below w.heap.size w w' := by
  refine (roll_any 1 1 11 300 9 A n c bs1 w hs hc (by unfold i64r; decide) (by unfold i64r; decide) (by decide) (by decide) (by unfold i64r; decide)).mono ?_
  rw [roll_b]
  rintro ex w' ⟨v, rfl, ⟨u, rfl, hO⟩, hB⟩
  obtain ⟨A2, n2, c2, rfl, rfl, hc2, hs2⟩ := hO.read bs2_sw (by decide)
  exact ⟨A2, c2, rfl, hc2, hs2, hB⟩
theorem cutB (A : Option Addr) (n c : Nat) (w : World) (hs : RSg w A n bs2) (hc : n ≤ c) : Calls Try.prog 63 #[.agg #[.int .i64 2, .int .i64 1, .slice A n c], .int .i64 11] w fun ex w' => ∃ A2 c2 g c3, ex = .returned (.tuple #[.agg #[.int .i64 3, .int .i64 11, .slice A2 1 c2], .slice (some ⟨g, 0, none⟩) 1 c3, .int .i64 0]) ∧ w'.cell? ⟨g, 0, none⟩ = some (.int .i64 1) ∧ Below w.heap.size w w' := by
  refine (cut_any 2 1 11 A n c bs2 w hs hc (by unfold i64r; decide) (by unfold i64r; decide)).mono ?_
  rw [cut_b]
  rintro ex w' ⟨v, u, rfl, ⟨u2, rfl, hO⟩, hI, hB⟩
  obtain ⟨A2, n2, c2, rfl, rfl, hc2, hs2⟩ := hO.read bs3_sw (by decide)
  obtain ⟨g, c3, rfl, -, -, -⟩ := own_form hI (by decide)
  exact ⟨A2, c2, g, c3, rfl, World.ownsRow.cellAt hI 0 (by decide), hB⟩
theorem segB_by {s : Sg} (h : SW s) : BY (segB s) ∧ (segB s).length ≤ 44 := by
  obtain ⟨⟨-, h1⟩, ⟨-, h2⟩, -, ⟨-, h4⟩, ⟨-, h5⟩⟩ := h
  have h1' : s.num ≤ 9223372036854775807 := h1
  have h2' : s.base ≤ 9223372036854775807 := h2
  have h4' : s.end_ ≤ 9223372036854775807 := h4
  have h5' : s.size ≤ 9223372036854775807 := h5
  refine ⟨((((vb_by _ (by omega)).append (vb_by _ (by omega))).append (fb_by 4 _)).append (vb_by _ (by omega))).append (vb_by _ (by omega)), ?_⟩
  have a1 := vb_le s.num.toNat
  have a2 := vb_le s.base.toNat
  have a3 := vb_le s.end_.toNat
  have a4 := vb_le s.size.toNat
  simp [segB, fb_len]; omega
theorem segs_by : ∀ (ss : List Sg), (∀ s ∈ ss, SW s) → BY (ss.map segB).flatten ∧ ((ss.map segB).flatten).length ≤ 44 * ss.length
  | [], _ => ⟨by intro x hx; simp at hx, by simp⟩
  | s :: ss, h => by
    have h1 := segB_by (h s (by simp))
    have h2 := segs_by ss (fun x hx => h x (by simp [hx]))
    rw [List.map_cons, List.flatten_cons]
    exact ⟨h1.1.append h2.1, by have := h1.2; have := h2.2; simp only [List.length_append, List.length_cons]; omega⟩
theorem sw_all {ss : List Sg} (h : ∀ j, SW (sg ss j)) : ∀ s ∈ ss, SW s := fun s hs => by
  obtain ⟨j, hj, rfl⟩ := List.getElem_of_mem hs
  have := h j
  rwa [sg_at ss j hj] at this
theorem cat_by {gen first : Int} {ss : List Sg} (hg : i64r gen) (hf : i64r first) (hw : ∀ j, SW (sg ss j)) : BY (catI gen first ss).1 ∧ ((catI gen first ss).1).length ≤ 10000 := by
  have g2 : gen ≤ 9223372036854775807 := hg.2
  have f2 : first ≤ 9223372036854775807 := hf.2
  unfold catI
  split
  · rename_i hm
    have hm := may_out hm
    have h := segs_by ss (sw_all hw)
    have a1 := vb_le gen.toNat
    have a2 := vb_le first.toNat
    have a3 := vb_le ss.length
    refine ⟨((((by_fcat.append (vb_by _ (by omega))).append (vb_by _ (by omega))).append (vb_by _ (by omega))).append h.1).append (fb_by 4 _), ?_⟩
    have := h.2
    simp only [bodyB, headB, List.length_append, fb_len, List.length_cons, List.length_nil]
    omega
  · exact ⟨by intro x hx; simp at hx, by simp⟩
/-- Write, its bytes read -/
theorem writeR (gen first : Int) (A : Option Addr) (n c : Nat) (ss : List Sg) (w : World) (hs : RSg w A n ss) (hc : n ≤ c) (hg : i64r gen) (hf : i64r first) :
    Calls Try.prog 55 #[.agg #[.int .i64 gen, .int .i64 first, .slice A n c]] w fun ex w' => ∃ A2 n2 c2, ex = .returned (.tuple #[.slice A2 n2 c2, .int .i64 (catI gen first ss).2]) ∧ RB w' A2 n2 (catI gen first ss).1 ∧ n2 ≤ c2 ∧ Below w.heap.size w w' := by
  refine (write_any gen first A n c ss w hs hc hg hf).mono ?_
  rintro ex w' ⟨v, rfl, hO, hB⟩
  have h := cat_by hg hf hs.rng
  obtain ⟨A2, n2, c2, rfl, hc2, hr⟩ := hO.readN h.1 (by omega)
  exact ⟨A2, n2, c2, rfl, hr, hc2, hB⟩
/-- Read of what was written -/
theorem readR {gen first : Int} {ss : List Sg} (hm : mayB gen first ss = true) (hw : ∀ j, SW (sg ss j)) (hg : i64r gen) (hf : i64r first) (A : Option Addr) (n c : Nat) (w : World) (hl : RB w A n (catI gen first ss).1) (hc : n ≤ c) :
    Calls Try.prog 68 #[.slice A n c] w fun ex w' => ∃ A2 n2 c2, ex = .returned (.tuple #[.agg #[.int .i64 gen, .int .i64 first, .slice A2 n2 c2], .int .i64 0]) ∧ n2 ≤ c2 ∧ RSg w' A2 n2 ss ∧ Below w.heap.size w w' := by
  refine (cread_any A n c _ w hl hc).mono ?_
  rw [read_catI hm hw hg hf]
  rintro ex w' ⟨v, rfl, ⟨u, rfl, hO⟩, hB⟩
  obtain ⟨A2, n2, c2, rfl, -, hc2, hs2⟩ := hO.read hw (by have := may_out hm; omega)
  exact ⟨A2, n2, c2, rfl, hc2, hs2, hB⟩
set_option maxRecDepth 20000 in
set_option maxHeartbeats 4000000 in
theorem begun10_any (w : World) :
    Calls Try.prog 53 #[] w fun e w' => e = .returned (.bool true) ∧ Below w.heap.size w w' := by
  have hA := below_alloc1 w (.cells #[.int .i64 1, .int .i64 1, .int .u32 7, .int .i64 0, .int .i64 0] 96)
  have hA2 := hA.alloc hA.size (.cells #[.int .i64 1, .int .i64 1, .slice (some ⟨w.heap.size, 0, none⟩) 1 1] 78)
  have hs1 : RSg (w.alloc (.cells #[.int .i64 1, .int .i64 1, .int .u32 7, .int .i64 0, .int .i64 0] 96)) (some ⟨w.heap.size, 0, none⟩) 1 bs1 := RSg_one (s := ⟨1, 1, 7, 0, 0⟩) (heap_alloc_new w _) (bs1_sw 0)
  have hs1' := hs1.below (below_alloc1 _ (.cells #[.int .i64 1, .int .i64 1, .slice (some ⟨w.heap.size, 0, none⟩) 1 1] 78))
  have ht : ((w.alloc (.cells #[.int .i64 1, .int .i64 1, .int .u32 7, .int .i64 0, .int .i64 0] 96)).alloc (.cells #[.int .i64 1, .int .i64 1, .slice (some ⟨w.heap.size, 0, none⟩) 1 1] 78)).heap[w.heap.size + 1]? = some (.cells #[.int .i64 1, .int .i64 1, .slice (some ⟨w.heap.size, 0, none⟩) 1 1] 78) := heap_new3 (by simp) _
  have HT := Lib.hid ht
  clear ht hs1 hA
  go_enter Try.func53, Try.ntmps53
  go_wp2_with (first
    | (go_at_call 61; refine (rollB (some ⟨w.heap.size, 0, none⟩) 1 1 _ hs1' (by omega)).mono ?_; rintro e w2 ⟨A2, c2, rfl, hc2, hs2, hB2⟩; have h12 := (hB2.block _ (lt_of_block HT.out)).trans HT.out; have hr2 := hs1'.below hB2; have hw2 := below_to hA2 hA2.size hB2; have h2A := heap_alloc_new w2 (.cells #[.int .i64 2, .int .i64 1, .slice A2 2 c2] 78); have h1A := blk_old h12 (.cells #[.int .i64 2, .int .i64 1, .slice A2 2 c2] 78); have hs2A := hs2.below (below_alloc1 w2 (.cells #[.int .i64 2, .int .i64 1, .slice A2 2 c2] 78)); have hr2A := hr2.below (below_alloc1 w2 (.cells #[.int .i64 2, .int .i64 1, .slice A2 2 c2] 78)); have hw2A := hw2.alloc hw2.size (.cells #[.int .i64 2, .int .i64 1, .slice A2 2 c2] 78))
    | (go_at_call 57; refine (atC_any 2 1 11 A2 2 c2 bs2 _ hs2A hc2).mono ?_; rw [at_b]; rintro e w3 ⟨rfl, hB3⟩; have h13 := (hB3.block _ (lt_of_block h1A)).trans h1A; have h23 := (hB3.block _ (lt_of_block h2A)).trans h2A; have hs3 := hs2A.below hB3; have hr3 := hr2A.below hB3; have hw3 := below_to hw2A hw2A.size hB3; have y0 := blk_cell h23 0 (v := some (.int .i64 2)) rfl; have y1 := blk_cell h23 1 (v := some (.int .i64 1)) rfl; have y2 := blk_cell h23 2 (v := some (.slice A2 2 c2)) rfl)
    | (go_at_call 63; refine (cutB A2 2 c2 _ hs3 hc2).mono ?_; rintro e w4 ⟨A4, c4, g4, d4, rfl, hn4, hB4⟩; have h14 := (hB4.block _ (lt_of_block h13)).trans h13; have h24 := (hB4.block _ (lt_of_block h23)).trans h23; have hr4 := hr3.below hB4; have hw4 := below_to hw3 hw3.size hB4; have h64 := heap_alloc_new w4 (.cells #[.int .i64 3, .int .i64 11, .slice A4 1 c4] 78); have h1B := blk_old h14 (.cells #[.int .i64 3, .int .i64 11, .slice A4 1 c4] 78); have h2B := blk_old h24 (.cells #[.int .i64 3, .int .i64 11, .slice A4 1 c4] 78); have hrB := hr4.below (below_alloc1 w4 (.cells #[.int .i64 3, .int .i64 11, .slice A4 1 c4] 78)); have hnB := cell_keep (below_alloc1 w4 (.cells #[.int .i64 3, .int .i64 11, .slice A4 1 c4] 78)) hn4; have hwB := hw4.alloc hw4.size (.cells #[.int .i64 3, .int .i64 11, .slice A4 1 c4] 78); have x0 := blk_cell h14 0 (v := some (.int .i64 1)) rfl; have x1 := blk_cell h14 1 (v := some (.int .i64 1)) rfl; have x2 := blk_cell h14 2 (v := some (.slice (some ⟨w.heap.size, 0, none⟩) 1 1)) rfl; have x3 := blk_cell h1B 0 (v := some (.int .i64 1)) rfl; have x4 := blk_cell h1B 1 (v := some (.int .i64 1)) rfl; have x5 := blk_cell h1B 2 (v := some (.slice (some ⟨w.heap.size, 0, none⟩) 1 1)) rfl)
    | (go_at_call 55; refine (writeR 1 1 _ 1 1 bs1 _ hrB (by omega) (by unfold i64r; decide) (by unfold i64r; decide)).mono ?_; rw [cat_b]; rintro e w5 ⟨A5, n5, c5, rfl, hb5, hc5, hB5⟩; have h15 := (hB5.block _ (lt_of_block h1B)).trans h1B; have h25 := (hB5.block _ (lt_of_block h2B)).trans h2B; have h65 := (hB5.block _ (lt_of_block h64)).trans h64; have hr5 := hrB.below hB5; have hn5 := cell_keep hB5 hnB; have hw5 := below_to hwB hwB.size hB5)
    | (go_at_call 68; refine (readR may_b bs1_sw (by unfold i64r; decide) (by unfold i64r; decide) A5 n5 c5 _ hb5 hc5).mono ?_; rintro e w6 ⟨A6, n6, c6, rfl, hc6, hs6, hB6⟩; have h16 := (hB6.block _ (lt_of_block h15)).trans h15; have h26 := (hB6.block _ (lt_of_block h25)).trans h25; have h66 := (hB6.block _ (lt_of_block h65)).trans h65; have hr6 := hr5.below hB6; have hn6 := cell_keep hB6 hn5; have hw6 := below_to hw5 hw5.size hB6; have hcC := heap_alloc_new w6 (.cells #[.int .i64 1, .int .i64 1, .slice A6 n6 c6] 78); have h1C := blk_old h16 (.cells #[.int .i64 1, .int .i64 1, .slice A6 n6 c6] 78); have h2C := blk_old h26 (.cells #[.int .i64 1, .int .i64 1, .slice A6 n6 c6] 78); have h6C := blk_old h66 (.cells #[.int .i64 1, .int .i64 1, .slice A6 n6 c6] 78); have hsC := hs6.below (below_alloc1 w6 (.cells #[.int .i64 1, .int .i64 1, .slice A6 n6 c6] 78)); have hrC := hr6.below (below_alloc1 w6 (.cells #[.int .i64 1, .int .i64 1, .slice A6 n6 c6] 78)); have hnC := cell_keep (below_alloc1 w6 (.cells #[.int .i64 1, .int .i64 1, .slice A6 n6 c6] 78)) hn6; have hwC := hw6.alloc hw6.size (.cells #[.int .i64 1, .int .i64 1, .slice A6 n6 c6] 78); have v0 := blk_cell h16 0 (v := some (.int .i64 1)) rfl; have v1 := blk_cell h16 1 (v := some (.int .i64 1)) rfl; have v2 := blk_cell h16 2 (v := some (.slice (some ⟨w.heap.size, 0, none⟩) 1 1)) rfl; have v3 := blk_cell h1C 0 (v := some (.int .i64 1)) rfl; have v4 := blk_cell h1C 1 (v := some (.int .i64 1)) rfl; have v5 := blk_cell h1C 2 (v := some (.slice (some ⟨w.heap.size, 0, none⟩) 1 1)) rfl)
    | (go_at_call 59; refine (may_any 1 1 _ 1 1 bs1 _ hrC (by omega)).mono ?_; rw [may_b]; rintro e w7 ⟨rfl, hB7⟩; have h17 := (hB7.block _ (lt_of_block h1C)).trans h1C; have h27 := (hB7.block _ (lt_of_block h2C)).trans h2C; have h67 := (hB7.block _ (lt_of_block h6C)).trans h6C; have hc7 := (hB7.block _ (lt_of_block hcC)).trans hcC; have hr7 := hrC.below hB7; have hs7 := hsC.below hB7; have hn7 := cell_keep hB7 hnC; have hw7 := below_to hwC hwC.size hB7; have a0 := blk_cell h17 0 (v := some (.int .i64 1)) rfl; have a1 := blk_cell h17 1 (v := some (.int .i64 1)) rfl; have a2 := blk_cell h17 2 (v := some (.slice (some ⟨w.heap.size, 0, none⟩) 1 1)) rfl; have b2 := blk_cell h27 2 (v := some (.slice A2 2 c2)) rfl; have d0 := blk_cell h67 0 (v := some (.int .i64 3)) rfl; have e0 := blk_cell hc7 0 (v := some (.int .i64 1)) rfl; have e1 := blk_cell hc7 1 (v := some (.int .i64 1)) rfl; have e2 := blk_cell hc7 2 (v := some (.slice A6 n6 c6)) rfl)
    | (go_at_call 65; refine (eqC_any 1 1 1 1 A6 _ n6 c6 1 1 bs1 bs1 _ hs7 hc6 hr7 (by omega)).mono ?_; rw [eq_b]; rintro e w8 ⟨rfl, hB8⟩; have hw8 := below_to hw7 hw7.size hB8))
  go_ret
  exact ⟨rfl, hw8⟩
end Go.Proofs.Ythggicgbcgeggaa
