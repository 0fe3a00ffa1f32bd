/- Walk: catalog.May computes mayB. -/
import Derived.Test.YthggicgbcgeggaaVL
set_option linter.unusedVariables false
set_option linter.unusedSimpArgs false
namespace Go.Proofs.Ythggicgbcgeggaa
open Go.RowKit
/-- segment i is a sealed one, and the next one goes on behind it -/
def chkB (ss : List Sg) (i : Nat) : Bool := seB (sg ss i) && decide ((sg ss i).num ≠ 9223372036854775807) && decide ((sg ss (i + 1)).num = (sg ss i).num + 1) && decide ((sg ss (i + 1)).base = (sg ss i).end_)
/-- may the catalog be? -/
def mayB (gen first : Int) (ss : List Sg) : Bool :=
  decide (1 ≤ gen ∧ 1 ≤ first ∧ 1 ≤ ss.length ∧ ss.length ≤ 64 ∧ opB (sg ss (ss.length - 1)) = true ∧ (∀ i, i < ss.length - 1 → chkB ss i = true) ∧ (sg ss 0).base ≤ first ∧ (ss.length = 1 ∨ first ≤ (sg ss 0).end_))
theorem may_false {gen first : Int} {ss : List Sg} (h : ¬ (1 ≤ gen ∧ 1 ≤ first ∧ 1 ≤ ss.length ∧ ss.length ≤ 64 ∧ opB (sg ss (ss.length - 1)) = true ∧ (∀ i, i < ss.length - 1 → chkB ss i = true) ∧ (sg ss 0).base ≤ first ∧ (ss.length = 1 ∨ first ≤ (sg ss 0).end_))) : mayB gen first ss = false := by
  unfold mayB; exact decide_eq_false h
theorem may_nchk {gen first : Int} {ss : List Sg} (i : Nat) (hi : i < ss.length - 1) (h : chkB ss i = false) : mayB gen first ss = false := may_false fun hh => by
  have := hh.2.2.2.2.2.1 i hi
  rw [h] at this; cases this
theorem may_end {gen first : Int} {ss : List Sg} (h1 : 1 ≤ gen) (h2 : 1 ≤ first) (h3 : 1 ≤ ss.length) (h4 : ss.length ≤ 64) (h5 : opB (sg ss (ss.length - 1)) = true) (h6 : ∀ i, i < ss.length - 1 → chkB ss i = true) :
    mayB gen first ss = decide ((sg ss 0).base ≤ first ∧ (ss.length = 1 ∨ first ≤ (sg ss 0).end_)) := by
  unfold mayB
  congr 1
  apply propext
  exact ⟨fun h => ⟨h.2.2.2.2.2.2.1, h.2.2.2.2.2.2.2⟩, fun h => ⟨h1, h2, h3, h4, h5, h6, h.1, h.2⟩⟩
set_option maxRecDepth 20000 in
set_option maxHeartbeats 4000000 in
theorem may_any (gen first : Int) (A : Option Addr) (n c : Nat) (ss : List Sg) (w : World) (hs : RSg w A n ss) (hc : n ≤ c) :
    Calls Try.prog 59 #[.agg #[.int .i64 gen, .int .i64 first, .slice A n c]] w fun e w' => e = .returned (.bool (mayB gen first ss)) ∧ Below w.heap.size w w' := by
  have hl := hs.len
  have ht := hs.top
  have HL := Lib.hid hl
  have hb1 := below_alloc1 w (.cells #[.int .i64 gen, .int .i64 first, .slice A n c] 78)
  clear hl
  by_cases h1 : 1 ≤ gen
  · by_cases h2 : 1 ≤ first
    · by_cases h3 : n = 0
      · subst h3
        have H := Lib.hid (show mayB gen first ss = false from may_false fun h => by have := HL.out; omega)
        go_enter Try.func59, Try.ntmps59
        go_wp2_with fail
        go_ret
        exact ⟨by rw [H.out]; rfl, hb1⟩
      · obtain ⟨m, rfl⟩ : ∃ m, n = m + 1 := ⟨n - 1, by omega⟩
        clear h3
        by_cases h4 : 64 ≤ m
        · have H := Lib.hid (show mayB gen first ss = false from may_false fun h => by have := HL.out; omega)
          have d4 : decide ((m : Int) ≥ 64) = true := by simp; omega
          go_enter Try.func59, Try.ntmps59
          go_wp2_with fail
          go_ret
          exact ⟨by rw [H.out]; rfl, hb1⟩
        · have hml : sg ss (ss.length - 1) = sg ss m := by rw [HL.out]; rfl
          obtain ⟨ad, rfl, q1, q2, q3, q4, q5⟩ := hs.cell m (by omega)
          have d4 : decide ((m : Int) ≥ 64) = false := by simp; omega
          have m0 : (0 : Int) ≤ (m : Int) := by omega
          have m1 : (m : Int) < (m : Int) + 1 := by omega
          have e1 := cell_keep hb1 q1
          have e2 := cell_keep hb1 q2
          have e3 := cell_keep hb1 q3
          have e4 := cell_keep hb1 q4
          have e5 := cell_keep hb1 q5
          have HML := Lib.hid hml
          have H4 := Lib.hid h4
          clear hml h4
          by_cases h5 : opB (sg ss m) = true
          · have H5 := Lib.hid h5
            go_enter Try.func59, Try.ntmps59
            go_wp2_with (go_at_call 108; refine (open_any (sg ss m) _).mono ?_; rw [H5.out]; rintro e w2 ⟨rfl, hb2⟩; have hb3 := below_to hb1 hb1.size hb2; have hx2 : w2.heap[w.heap.size]? = some (.cells #[.int .i64 gen, .int .i64 first, .slice (some ad) (m + 1) c] 78 (0, 0)) := (hb2.block _ (by simp)).trans (heap_alloc_new w _); have HX2 := Lib.hid hx2; have x2 := blk_cell hx2 2 (v := some (.slice (some ad) (m + 1) c)) rfl; clear hx2)
            clear x2 e1 e2 e3 e4 e5 q1 q2 q3 q4 q5
            go_loopw [42] (fun i wr => ∃ (k : Nat), k ≤ m ∧ i = .int .i64 k ∧ Hid (wr.heap[w.heap.size]? = some (.cells #[.int .i64 gen, .int .i64 first, .slice (some ad) (m + 1) c] 78 (0, 0))) ∧ Hid (∀ j, j < k → chkB ss j = true) ∧ Below w.heap.size w wr) (fun i _ => m - (intOf i).toNat)
            case atStart => exact ⟨0, by omega, rfl, HX2.out, fun j hj => by omega, hb3⟩
            case round =>
              clear hb2 hb3 HX2
              obtain ⟨k, hk, rfl, HX, HC, hw⟩ := hrel
              have x1 := blk_cell HX.out 1 (v := some (.int .i64 first)) rfl
              have x2 := blk_cell HX.out 2 (v := some (.slice (some ad) (m + 1) c)) rfl
              have hxl := Lib.hid (lt_of_block HX.out)
              by_cases hlt : k < m
              · obtain ⟨ad', e', p1, p2, p3, p4, p5⟩ := hs.cell k (by omega)
                obtain rfl : ad = ad' := by injection e'
                obtain ⟨ad', e'', n1, n2, n3, n4, n5⟩ := hs.cell (k + 1) (by omega)
                obtain rfl : ad = ad' := by injection e''
                obtain ⟨⟨a0, b0, c0, d0, f0⟩, hsk⟩ : ∃ s, s = sg ss k := ⟨_, rfl⟩
                obtain ⟨⟨a1, b1, c1, d1, f1⟩, hsn⟩ : ∃ s, s = sg ss (k + 1) := ⟨_, rfl⟩
                have hrk := hs.rng k
                have hrn := hs.rng (k + 1)
                rw [← hsk] at p1 p2 p3 p4 p5 hrk
                rw [← hsn] at n1 n2 n3 n4 n5 hrn
                simp only at p1 p2 p3 p4 p5 n1 n2 n3 n4 n5
                have k0 : (0 : Int) ≤ (k : Int) := by omega
                have k1 : (k : Int) < (m : Int) := by omega
                have k2 : (k : Int) + 1 < (m : Int) + 1 := by omega
                have hwA := hw.alloc hw.size (.cells #[.int .i64 a0, .int .i64 b0, .int .u32 c0, .int .i64 d0, .int .i64 f0] 96)
                have g1 := cell_keep hw p1
                have g2 := cell_keep hw p2
                have g3 := cell_keep hw p3
                have g4 := cell_keep hw p4
                have g5 := cell_keep hw p5
                have t1 := cell_keep hwA n1
                have t2 := cell_keep hwA n2
                have t3 := cell_keep hwA n3
                have t4 := cell_keep hwA n4
                have t5 := cell_keep hwA n5
                have y2 : (wr.alloc (.cells #[.int .i64 a0, .int .i64 b0, .int .u32 c0, .int .i64 d0, .int .i64 f0] 96)).cell? ⟨w.heap.size, 2, none⟩ = some (.slice (some ad) (m + 1) c) := blk_cell (blk_old HX.out _) 2 rfl
                clear p1 p2 p3 p4 p5 n1 n2 n3 n4 n5 hs
                have hwB := hwA.alloc hwA.size (.cells #[.int .i64 a1, .int .i64 b1, .int .u32 c1, .int .i64 d1, .int .i64 f1] 96)
                obtain ⟨tn1, tn2⟩ := two_new wr (.cells #[.int .i64 a0, .int .i64 b0, .int .u32 c0, .int .i64 d0, .int .i64 f0] 96) (.cells #[.int .i64 a1, .int .i64 b1, .int .u32 c1, .int .i64 d1, .int .i64 f1] 96)
                have HTN := Lib.hid (And.intro tn1 tn2)
                have hlen := Lib.hid (show k < ss.length - 1 by rw [HL.out]; omega)
                obtain ⟨ra1, ra2⟩ := hrk.num
                simp only at ra1 ra2
                clear tn1 tn2 e' e''
                have hchk : Hid (chkB ss k = (seB ⟨a0, b0, c0, d0, f0⟩ && decide (a0 ≠ 9223372036854775807) && decide (a1 = a0 + 1) && decide (b1 = d0))) := by refine Lib.hid ?_; unfold chkB; rw [← hsk, ← hsn]
                clear hsk hsn hrk hrn
                have HXB : Hid (((wr.alloc (.cells #[.int .i64 a0, .int .i64 b0, .int .u32 c0, .int .i64 d0, .int .i64 f0] 96)).alloc (.cells #[.int .i64 a1, .int .i64 b1, .int .u32 c1, .int .i64 d1, .int .i64 f1] 96)).heap[w.heap.size]? = some (.cells #[.int .i64 gen, .int .i64 first, .slice (some ad) (m + 1) c] 78 (0, 0))) := Lib.hid (blk_old (blk_old HX.out _) _)
                by_cases q1 : seB ⟨a0, b0, c0, d0, f0⟩ = true
                · have HQ1 := Lib.hid q1
                  clear q1
                  by_cases q2 : a0 = 9223372036854775807
                  · have H := Lib.hid (show mayB gen first ss = false from may_nchk k hlen.out (by rw [hchk.out, HQ1.out]; simp [q2]))
                    have d2 : (a0 == 9223372036854775807) = true := by simpa using q2
                    clear q2
                    go_wp2_with (go_at_call 109; refine (sealed_any ⟨a0, b0, c0, d0, f0⟩ ((wr.alloc (.cells #[.int .i64 a0, .int .i64 b0, .int .u32 c0, .int .i64 d0, .int .i64 f0] 96)).alloc (.cells #[.int .i64 a1, .int .i64 b1, .int .u32 c1, .int .i64 d1, .int .i64 f1] 96))).mono ?_; rw [HQ1.out]; rintro e w4 ⟨rfl, hb4⟩; have hw4 := below_to hwB hwB.size hb4; have ht1 := (hb4.block _ (lt_of_block HTN.out.1)).trans HTN.out.1; have ht2 := (hb4.block _ (lt_of_block HTN.out.2)).trans HTN.out.2; have u0 := blk_cell ht1 0 (v := some (.int .i64 a0)) rfl; have u3 := blk_cell ht1 3 (v := some (.int .i64 d0)) rfl; have v0 := blk_cell ht2 0 (v := some (.int .i64 a1)) rfl; have v1 := blk_cell ht2 1 (v := some (.int .i64 b1)) rfl; clear ht1 ht2)
                    go_ret
                    exact ⟨by rw [H.out]; rfl, hw4⟩
                  · have d2 : (a0 == 9223372036854775807) = false := by simpa using q2
                    have ra3 : a0 < 9223372036854775807 := by omega
                    have HQ2 := Lib.hid q2
                    clear q2
                    by_cases q3 : a1 = a0 + 1
                    · have d3 : (a1 != a0 + 1) = false := by simpa using q3
                      have HQ3 := Lib.hid q3
                      clear q3
                      by_cases q4 : b1 = d0
                      · have d4' : (b1 != d0) = false := by simpa using q4
                        have HQ4 := Lib.hid q4
                        clear q4
                        go_wp2_with (go_at_call 109; refine (sealed_any ⟨a0, b0, c0, d0, f0⟩ ((wr.alloc (.cells #[.int .i64 a0, .int .i64 b0, .int .u32 c0, .int .i64 d0, .int .i64 f0] 96)).alloc (.cells #[.int .i64 a1, .int .i64 b1, .int .u32 c1, .int .i64 d1, .int .i64 f1] 96))).mono ?_; rw [HQ1.out]; rintro e w4 ⟨rfl, hb4⟩; have hw4 := below_to hwB hwB.size hb4; have ht1 := (hb4.block _ (lt_of_block HTN.out.1)).trans HTN.out.1; have ht2 := (hb4.block _ (lt_of_block HTN.out.2)).trans HTN.out.2; have u0 := blk_cell ht1 0 (v := some (.int .i64 a0)) rfl; have u3 := blk_cell ht1 3 (v := some (.int .i64 d0)) rfl; have v0 := blk_cell ht2 0 (v := some (.int .i64 a1)) rfl; have v1 := blk_cell ht2 1 (v := some (.int .i64 b1)) rfl; clear ht1 ht2)
                        go_roundw
                        case rel =>
                          refine ⟨k + 1, by omega, by go_num, ?_, Lib.hid fun j hj => ?_, hw4⟩
                          · exact Lib.hid ((hb4.block _ (lt_of_block HXB.out)).trans HXB.out)
                          · by_cases e : j = k
                            · subst e; rw [hchk.out, HQ1.out]; simp [HQ2.out, HQ3.out, HQ4.out]
                            · exact HC.out j (by omega)
                        case measure => simp [intOf]; omega
                      · have H := Lib.hid (show mayB gen first ss = false from may_nchk k hlen.out (by rw [hchk.out]; simp [q4]))
                        have d4' : (b1 != d0) = true := by simpa using q4
                        clear q4
                        go_wp2_with (go_at_call 109; refine (sealed_any ⟨a0, b0, c0, d0, f0⟩ ((wr.alloc (.cells #[.int .i64 a0, .int .i64 b0, .int .u32 c0, .int .i64 d0, .int .i64 f0] 96)).alloc (.cells #[.int .i64 a1, .int .i64 b1, .int .u32 c1, .int .i64 d1, .int .i64 f1] 96))).mono ?_; rw [HQ1.out]; rintro e w4 ⟨rfl, hb4⟩; have hw4 := below_to hwB hwB.size hb4; have ht1 := (hb4.block _ (lt_of_block HTN.out.1)).trans HTN.out.1; have ht2 := (hb4.block _ (lt_of_block HTN.out.2)).trans HTN.out.2; have u0 := blk_cell ht1 0 (v := some (.int .i64 a0)) rfl; have u3 := blk_cell ht1 3 (v := some (.int .i64 d0)) rfl; have v0 := blk_cell ht2 0 (v := some (.int .i64 a1)) rfl; have v1 := blk_cell ht2 1 (v := some (.int .i64 b1)) rfl; clear ht1 ht2)
                        go_ret
                        exact ⟨by rw [H.out]; rfl, hw4⟩
                    · have H := Lib.hid (show mayB gen first ss = false from may_nchk k hlen.out (by rw [hchk.out]; simp [q3]))
                      have d3 : (a1 != a0 + 1) = true := by simpa using q3
                      clear q3
                      go_wp2_with (go_at_call 109; refine (sealed_any ⟨a0, b0, c0, d0, f0⟩ ((wr.alloc (.cells #[.int .i64 a0, .int .i64 b0, .int .u32 c0, .int .i64 d0, .int .i64 f0] 96)).alloc (.cells #[.int .i64 a1, .int .i64 b1, .int .u32 c1, .int .i64 d1, .int .i64 f1] 96))).mono ?_; rw [HQ1.out]; rintro e w4 ⟨rfl, hb4⟩; have hw4 := below_to hwB hwB.size hb4; have ht1 := (hb4.block _ (lt_of_block HTN.out.1)).trans HTN.out.1; have ht2 := (hb4.block _ (lt_of_block HTN.out.2)).trans HTN.out.2; have u0 := blk_cell ht1 0 (v := some (.int .i64 a0)) rfl; have u3 := blk_cell ht1 3 (v := some (.int .i64 d0)) rfl; have v0 := blk_cell ht2 0 (v := some (.int .i64 a1)) rfl; have v1 := blk_cell ht2 1 (v := some (.int .i64 b1)) rfl; clear ht1 ht2)
                      go_ret
                      exact ⟨by rw [H.out]; rfl, hw4⟩
                · have q1' : seB ⟨a0, b0, c0, d0, f0⟩ = false := by simpa using q1
                  have HQ1 := Lib.hid q1'
                  have H := Lib.hid (show mayB gen first ss = false from may_nchk k hlen.out (by rw [hchk.out, q1']; simp))
                  clear q1 q1'
                  go_wp2_with (go_at_call 109; refine (sealed_any ⟨a0, b0, c0, d0, f0⟩ ((wr.alloc (.cells #[.int .i64 a0, .int .i64 b0, .int .u32 c0, .int .i64 d0, .int .i64 f0] 96)).alloc (.cells #[.int .i64 a1, .int .i64 b1, .int .u32 c1, .int .i64 d1, .int .i64 f1] 96))).mono ?_; rw [HQ1.out]; rintro e w4 ⟨rfl, hb4⟩; have hw4 := below_to hwB hwB.size hb4; have ht1 := (hb4.block _ (lt_of_block HTN.out.1)).trans HTN.out.1; have ht2 := (hb4.block _ (lt_of_block HTN.out.2)).trans HTN.out.2; have u0 := blk_cell ht1 0 (v := some (.int .i64 a0)) rfl; have u3 := blk_cell ht1 3 (v := some (.int .i64 d0)) rfl; have v0 := blk_cell ht2 0 (v := some (.int .i64 a1)) rfl; have v1 := blk_cell ht2 1 (v := some (.int .i64 b1)) rfl; clear ht1 ht2)
                  go_ret
                  exact ⟨by rw [H.out]; rfl, hw4⟩
              · obtain rfl : k = m := by omega
                have H := Lib.hid (may_end (gen := gen) (first := first) (ss := ss) h1 h2 (by rw [HL.out]; omega) (by rw [HL.out]; have := H4.out; omega) (by rw [HML.out]; exact H5.out) (by rw [HL.out]; exact HC.out))
                obtain ⟨ad', e', p1, p2, p3, p4, p5⟩ := hs.cell 0 (by omega)
                obtain rfl : ad = ad' := by injection e'
                obtain ⟨⟨a0, b0, c0, d0, f0⟩, hsk⟩ : ∃ s, s = sg ss 0 := ⟨_, rfl⟩
                rw [← hsk] at p1 p2 p3 p4 p5 H
                rw [HL.out] at H
                simp only [Nat.zero_mul] at p1 p2 p3 p4 p5 H
                have e0 : ad.add 0 = ad := rfl
                rw [e0] at p1 p2 p3 p4 p5
                have HH := Lib.hid H
                have g1 := cell_keep hw p1
                have g2 := cell_keep hw p2
                have g3 := cell_keep hw p3
                have g4 := cell_keep hw p4
                have g5 := cell_keep hw p5
                have y1 : (wr.alloc (.cells #[.int .i64 a0, .int .i64 b0, .int .u32 c0, .int .i64 d0, .int .i64 f0] 96)).cell? ⟨w.heap.size, 1, none⟩ = some (.int .i64 first) := blk_cell (blk_old HX.out _) 1 rfl
                have hwA := hw.alloc hw.size (.cells #[.int .i64 a0, .int .i64 b0, .int .u32 c0, .int .i64 d0, .int .i64 f0] 96)
                clear p1 p2 p3 p4 p5 hsk H e' e0 hs
                by_cases q1 : b0 ≤ first
                · by_cases q2 : k = 0
                  · have d2 : ((k : Int) == 0) = true := by simp; omega
                    have HR := Lib.hid (show decide (b0 ≤ first ∧ (k + 1 = 1 ∨ first ≤ d0)) = true by simp [q1, q2])
                    clear q2
                    go_wp2_with fail
                    go_ret
                    exact ⟨by rw [HH.out, HR.out]; first | rfl | simp | (simp; omega), hwA⟩
                  · have d2 : ((k : Int) == 0) = false := by simp; omega
                    have HR := Lib.hid (show decide (b0 ≤ first ∧ (k + 1 = 1 ∨ first ≤ d0)) = decide (first ≤ d0) by simp [q1, q2])
                    clear q2
                    go_wp2_with fail
                    go_ret
                    exact ⟨by rw [HH.out, HR.out]; first | rfl | simp | (simp; omega), hwA⟩
                · have d1 : decide (first ≥ b0) = false := by simp; omega
                  have HR := Lib.hid (show decide (b0 ≤ first ∧ (k + 1 = 1 ∨ first ≤ d0)) = false by simp [q1])
                  go_wp2_with fail
                  go_ret
                  exact ⟨by rw [HH.out, HR.out]; first | rfl | simp | (simp; omega), hwA⟩
          · have h5' : opB (sg ss m) = false := by simpa using h5
            have H5 := Lib.hid h5'
            have H := Lib.hid (show mayB gen first ss = false from may_false fun h => by rw [HML.out] at h; exact h5 h.2.2.2.2.1)
            clear h5 h5'
            go_enter Try.func59, Try.ntmps59
            go_wp2_with (go_at_call 108; refine (open_any (sg ss m) _).mono ?_; rw [H5.out]; rintro e w2 ⟨rfl, hb2⟩; have hb3 := below_to hb1 hb1.size hb2)
            go_ret
            exact ⟨by rw [H.out]; rfl, hb3⟩
    · have H := Lib.hid (show mayB gen first ss = false from may_false fun h => by omega)
      have d2 : decide (first < 1) = true := by simp; omega
      go_enter Try.func59, Try.ntmps59
      go_wp2_with fail
      go_ret
      exact ⟨by rw [H.out]; rfl, hb1⟩
  · have H := Lib.hid (show mayB gen first ss = false from may_false fun h => by omega)
    have d1 : decide (gen < 1) = true := by simp; omega
    go_enter Try.func59, Try.ntmps59
    go_wp2_with fail
    go_ret
    exact ⟨by rw [H.out]; rfl, hb1⟩
end Go.Proofs.Ythggicgbcgeggaa
