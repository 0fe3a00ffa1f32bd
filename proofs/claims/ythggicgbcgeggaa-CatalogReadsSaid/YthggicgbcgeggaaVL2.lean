/- Walk: the document's own May computes mayB, too. -/
import Derived.Test.YthggicgbcgeggaaVL1
set_option linter.unusedVariables false
set_option linter.unusedSimpArgs false
namespace Go.Proofs.Ythggicgbcgeggaa
open Go.RowKit
/-- what the document's text asks of segment j -/
def rck1 (ss : List Sg) (j : Nat) : Prop := 1 ≤ (sg ss j).num ∧ 1 ≤ (sg ss j).base
def rck2 (ss : List Sg) (j : Nat) : Prop := (sg ss j).base ≤ (sg ss j).end_ ∧ 32 ≤ (sg ss j).size ∧ (sg ss j).size ≤ 2147483647 ∧ IntKind.i64.wrap ((sg ss (j + 1)).num - 1) = (sg ss j).num ∧ (sg ss (j + 1)).base = (sg ss j).end_
theorem chk_rck {ss : List Sg} {j : Nat} (hr : ∀ j, SW (sg ss j)) (h : chkB ss j = true) : rck1 ss j ∧ rck2 ss j := by
  simp only [chkB, seB, Bool.and_eq_true, decide_eq_true_eq] at h
  obtain ⟨⟨⟨⟨h1, h2, h3, h4, h5⟩, h6⟩, h7⟩, h8⟩ := h
  have hn := (hr j).num
  unfold i64r at hn
  exact ⟨⟨h1, h2⟩, h3, h4, h5, by rw [h7, IntKind.wrap_i64]; omega, h8⟩
theorem rck_chk {ss : List Sg} {j : Nat} (hr : ∀ j, SW (sg ss j)) (h1 : rck1 ss j) (h2 : rck2 ss j) (h3 : rck1 ss (j + 1)) : chkB ss j = true := by
  simp only [chkB, seB, Bool.and_eq_true, decide_eq_true_eq]
  obtain ⟨a1, a2, a3, a4, a5⟩ := h2
  have hn := (hr (j + 1)).num
  unfold i64r at hn
  have h5 := h3.1
  rw [IntKind.wrap_i64] at a4
  exact ⟨⟨⟨⟨h1.1, h1.2, a1, a2, a3⟩, by omega⟩, by omega⟩, a5⟩
theorem may_nr1 {gen first : Int} {ss : List Sg} (hr : ∀ j, SW (sg ss j)) (j : Nat) (hj : j < ss.length) (h : ¬ rck1 ss j) : mayB gen first ss = false := by
  by_cases e : j < ss.length - 1
  · refine may_nchk j e ?_
    cases hc : chkB ss j
    · rfl
    · exact absurd (chk_rck hr hc).1 h
  · refine may_false fun hh => ?_
    obtain rfl : j = ss.length - 1 := by omega
    have := hh.2.2.2.2.1
    simp only [opB, decide_eq_true_eq] at this
    exact h ⟨this.1, this.2.1⟩
theorem may_nr2 {gen first : Int} {ss : List Sg} (hr : ∀ j, SW (sg ss j)) (j : Nat) (hj : j < ss.length - 1) (h : ¬ rck2 ss j) : mayB gen first ss = false := by
  refine may_nchk j hj ?_
  cases hc : chkB ss j
  · rfl
  · exact absurd (chk_rck hr hc).2 h
set_option maxRecDepth 20000 in
set_option maxHeartbeats 8000000 in
theorem rmay_any (gen first : Int) (A : Option Addr) (n c : Nat) (ss : List Sg) (w : World) (hs : RSg w A n ss) (hc : n ≤ c) :
    Calls Try.prog 60 #[.agg #[.int .i64 gen, .int .i64 first, .slice A n c]] w fun e w' => e = .returned (.bool (mayB gen first ss)) ∧ Below w.heap.size w w' := by
  have hl := hs.len
  have ht := hs.top
  have HL := Lib.hid hl
  have hb1 := below_alloc1 w (.cells #[.int .i64 gen, .int .i64 first, .slice A n c] 78)
  clear hl
  by_cases h1 : 1 ≤ gen
  · by_cases h2 : 1 ≤ first
    · by_cases h3 : n = 0
      · subst h3
        have H := Lib.hid (show mayB gen first ss = false from may_false fun h => by have := HL.out; omega)
        go_enter Try.func60, Try.ntmps60
        go_wp2_with fail
        go_ret
        exact ⟨by rw [H.out]; rfl, hb1⟩
      · obtain ⟨m, rfl⟩ : ∃ m, n = m + 1 := ⟨n - 1, by omega⟩
        clear h3
        by_cases h4 : 64 ≤ m
        · have H := Lib.hid (show mayB gen first ss = false from may_false fun h => by have := HL.out; omega)
          have d4 : decide ((m : Int) + 1 > 64) = true := by simp; omega
          go_enter Try.func60, Try.ntmps60
          go_wp2_with fail
          go_ret
          exact ⟨by rw [H.out]; rfl, hb1⟩
        · have hml : sg ss (ss.length - 1) = sg ss m := by rw [HL.out]; rfl
          obtain ⟨ad, rfl, -⟩ := hs.cell m (by omega)
          have d4 : decide ((m : Int) + 1 > 64) = false := by simp; omega
          have HML := Lib.hid hml
          have H4 := Lib.hid h4
          have hx := heap_alloc_new w (.cells #[.int .i64 gen, .int .i64 first, .slice (some ad) (m + 1) c] 78)
          have HX0 := Lib.hid hx
          clear hml h4 hx
          go_enter Try.func60, Try.ntmps60
          go_wp2_with fail
          go_loopw [4] (fun i wr => ∃ (k : Nat), k ≤ m + 1 ∧ i = .int .i64 k ∧ Hid (wr.heap[w.heap.size]? = some (.cells #[.int .i64 gen, .int .i64 first, .slice (some ad) (m + 1) c] 78 (0, 0))) ∧ Hid (∀ j, j < k → rck1 ss j ∧ (j < m → rck2 ss j)) ∧ Hid (m < k → opB (sg ss m) = true) ∧ Below w.heap.size w wr) (fun i _ => m + 1 - (intOf i).toNat)
          case atStart => exact ⟨0, by omega, rfl, HX0.out, fun j hj => by omega, fun h => by omega, hb1⟩
          case round =>
            clear hb1 HX0
            obtain ⟨k, hk, rfl, HX, HC, HOP, hw⟩ := hrel
            have x1 := blk_cell HX.out 1 (v := some (.int .i64 first)) rfl
            have x2 := blk_cell HX.out 2 (v := some (.slice (some ad) (m + 1) c)) rfl
            by_cases hlt : k < m + 1
            · obtain ⟨ad', e', p1, p2, p3, p4, p5⟩ := hs.cell k (by omega)
              obtain rfl : ad = ad' := by injection e'
              obtain ⟨⟨a0, b0, c0, d0, f0⟩, hsk⟩ : ∃ s, s = sg ss k := ⟨_, rfl⟩
              rw [← hsk] at p1 p2 p3 p4 p5
              simp only at p1 p2 p3 p4 p5
              have HSK := Lib.hid hsk
              have k0 : (0 : Int) ≤ (k : Int) := by omega
              have k1 : (k : Int) < (m : Int) + 1 := by omega
              have g1 := cell_keep hw p1
              have g2 := cell_keep hw p2
              have g3 := cell_keep hw p3
              have g4 := cell_keep hw p4
              have g5 := cell_keep hw p5
              have hwA := hw.alloc hw.size (.cells #[.int .i64 a0, .int .i64 b0, .int .u32 c0, .int .i64 d0, .int .i64 f0] 96)
              have hn1 := heap_alloc_new wr (.cells #[.int .i64 a0, .int .i64 b0, .int .u32 c0, .int .i64 d0, .int .i64 f0] 96)
              have HN1 := Lib.hid hn1
              have HXA : Hid ((wr.alloc (.cells #[.int .i64 a0, .int .i64 b0, .int .u32 c0, .int .i64 d0, .int .i64 f0] 96)).heap[w.heap.size]? = some (.cells #[.int .i64 gen, .int .i64 first, .slice (some ad) (m + 1) c] 78 (0, 0))) := Lib.hid (blk_old HX.out _)
              have y2 : (wr.alloc (.cells #[.int .i64 a0, .int .i64 b0, .int .u32 c0, .int .i64 d0, .int .i64 f0] 96)).cell? ⟨w.heap.size, 2, none⟩ = some (.slice (some ad) (m + 1) c) := blk_cell HXA.out 2 rfl
              have hrng := hs.rng
              have HRNG := Lib.hid hrng
              clear p1 p2 p3 p4 p5 hsk e' hn1 hrng
              by_cases q1 : 1 ≤ a0
              · by_cases q2 : 1 ≤ b0
                · have hr1 : Hid (rck1 ss k) := Lib.hid (by unfold rck1; rw [← HSK.out]; exact ⟨q1, q2⟩)
                  by_cases hkm : k = m
                  · have dk : ((k : Int) == (m : Int)) = true := by simp; omega
                    by_cases q3 : d0 = 0
                    · have d3 : (d0 != 0) = false := by simpa using q3
                      by_cases q4 : f0 = 0
                      · have d5 : (f0 != 0) = false := by simpa using q4
                        have hop : Hid (opB (sg ss m) = true) := Lib.hid (by rw [← hkm, ← HSK.out]; simp [opB, q1, q2, q3, q4])
                        have HKM := Lib.hid hkm
                        clear hkm q3 q4
                        go_wp2_with fail
                        go_roundw
                        case rel => exact ⟨k + 1, by omega, by go_num, HXA.out, fun j hj => ⟨(by by_cases e : j = k; (subst e; exact hr1.out); exact (HC.out j (by omega)).1), fun hjm => (HC.out j (by have := HKM.out; omega)).2 hjm⟩, fun _ => hop.out, hwA⟩
                        case measure => simp [intOf]; omega
                      · have d5 : (f0 != 0) = true := by simpa using q4
                        have H := Lib.hid (show mayB gen first ss = false from may_false fun h => by have h5 := h.2.2.2.2.1; rw [HML.out, ← hkm, ← HSK.out] at h5; simp only [opB, decide_eq_true_eq] at h5; exact q4 h5.2.2.2)
                        clear hkm q3 q4
                        go_wp2_with fail
                        go_ret
                        exact ⟨by rw [H.out]; rfl, hwA⟩
                    · have d3 : (d0 != 0) = true := by simpa using q3
                      have H := Lib.hid (show mayB gen first ss = false from may_false fun h => by have h5 := h.2.2.2.2.1; rw [HML.out, ← hkm, ← HSK.out] at h5; simp only [opB, decide_eq_true_eq] at h5; exact q3 h5.2.2.1)
                      clear hkm q3
                      go_wp2_with fail
                      go_ret
                      exact ⟨by rw [H.out]; rfl, hwA⟩
                  · have dk : ((k : Int) == (m : Int)) = false := by simp; omega
                    have hkm' : k < m := by omega
                    clear hkm
                    obtain ⟨ad', e', n1, n2, -⟩ := hs.cell (k + 1) (by omega)
                    obtain rfl : ad = ad' := by injection e'
                    obtain ⟨⟨a1, b1, c1, d1, f1⟩, hsn⟩ : ∃ s, s = sg ss (k + 1) := ⟨_, rfl⟩
                    rw [← hsn] at n1 n2
                    simp only at n1 n2
                    have HSN := Lib.hid hsn
                    have t1 := cell_keep hwA n1
                    have t2 := cell_keep hwA n2
                    have k2 : (k : Int) + 1 < (m : Int) + 1 := by omega
                    have k3 : (0 : Int) ≤ (k : Int) + 1 := by omega
                    have ki : IntKind.i64.wrap ((k : Int) + 1) = (k : Int) + 1 := by rw [IntKind.wrap_i64]; omega
                    have kt : ((k : Int) + 1).toNat = k + 1 := by omega
                    have u0 := blk_cell HN1.out 0 (v := some (.int .i64 a0)) rfl
                    have u1 := blk_cell HN1.out 1 (v := some (.int .i64 b0)) rfl
                    have u3 := blk_cell HN1.out 3 (v := some (.int .i64 d0)) rfl
                    have u4 := blk_cell HN1.out 4 (v := some (.int .i64 f0)) rfl
                    obtain ⟨x, hx⟩ : ∃ x, x = IntKind.i64.wrap (a1 - 1) := ⟨_, rfl⟩
                    have hx' := hx.symm
                    have hrc : Hid (rck2 ss k ↔ (b0 ≤ d0 ∧ 32 ≤ f0 ∧ f0 ≤ 2147483647 ∧ x = a0 ∧ b1 = d0)) := Lib.hid (by unfold rck2; rw [← HSK.out, ← HSN.out, hx])
                    have hll := Lib.hid (show k < ss.length - 1 by rw [HL.out]; omega)
                    clear hsn n1 n2 e' hx
                    by_cases r1 : b0 ≤ d0
                    · have er1 : decide (d0 < b0) = false := by simp; omega
                      by_cases r2 : 32 ≤ f0
                      · have er2 : decide (f0 < 32) = false := by simp; omega
                        by_cases r3 : f0 ≤ 2147483647
                        · have er3 : decide (f0 > 2147483647) = false := by simp; omega
                          by_cases r4 : x = a0
                          · have er4 : (x != a0) = false := by simp; omega
                            have Hr4 := Lib.hid r4
                            by_cases r5 : b1 = d0
                            · have er5 : (b1 != d0) = false := by simp; omega
                              have Hr5 := Lib.hid r5
                              have hr2 : Hid (rck2 ss k) := Lib.hid (hrc.out.2 ⟨r1, r2, r3, r4, r5⟩)
                              clear r4 r5
                              go_wp2_with fail
                              go_quiet (fail)
                              go_wp2_with fail
                              go_roundw
                              case rel => exact ⟨k + 1, by omega, by go_num, HXA.out, fun j hj => ⟨(by by_cases e : j = k; (subst e; exact hr1.out); exact (HC.out j (by omega)).1), fun hjm => (by by_cases e : j = k; (subst e; exact hr2.out); exact (HC.out j (by omega)).2 hjm)⟩, fun h => absurd h (by omega), below_drewN hwA nq⟩
                              case measure => simp [intOf]; omega
                            · have er5 : (b1 != d0) = true := by simp; omega
                              have H := Lib.hid (show mayB gen first ss = false from may_nr2 HRNG.out k hll.out (fun h => r5 (hrc.out.1 h).2.2.2.2))
                              clear r5 r4
                              go_wp2_with fail
                              go_quiet (fail)
                              go_wp2_with fail
                              go_ret
                              exact ⟨by rw [H.out]; rfl, below_drewN hwA nq⟩
                          · have er4 : (x != a0) = true := by simp; omega
                            have H := Lib.hid (show mayB gen first ss = false from may_nr2 HRNG.out k hll.out (fun h => r4 (hrc.out.1 h).2.2.2.1))
                            clear r4
                            go_wp2_with fail
                            go_quiet (fail)
                            go_wp2_with fail
                            go_ret
                            exact ⟨by rw [H.out]; rfl, below_drewN hwA nq⟩
                        · have er3 : decide (f0 > 2147483647) = true := by simp; omega
                          have H := Lib.hid (show mayB gen first ss = false from may_nr2 HRNG.out k hll.out (fun h => r3 (hrc.out.1 h).2.2.1))
                          clear r3
                          go_wp2_with fail
                          go_quiet (fail)
                          go_wp2_with fail
                          go_ret
                          exact ⟨by rw [H.out]; rfl, below_drewN hwA nq⟩
                      · have er2 : decide (f0 < 32) = true := by simp; omega
                        have H := Lib.hid (show mayB gen first ss = false from may_nr2 HRNG.out k hll.out (fun h => r2 (hrc.out.1 h).2.1))
                        clear r2
                        go_wp2_with fail
                        go_quiet (fail)
                        go_wp2_with fail
                        go_ret
                        exact ⟨by rw [H.out]; rfl, below_drewN hwA nq⟩
                    · have er1 : decide (d0 < b0) = true := by simp; omega
                      have H := Lib.hid (show mayB gen first ss = false from may_nr2 HRNG.out k hll.out (fun h => r1 (hrc.out.1 h).1))
                      clear r1
                      go_wp2_with fail
                      go_quiet (fail)
                      go_wp2_with fail
                      go_ret
                      exact ⟨by rw [H.out]; rfl, below_drewN hwA nq⟩
                · have d2 : decide (b0 < 1) = true := by simp; omega
                  have H := Lib.hid (show mayB gen first ss = false from may_nr1 HRNG.out k (by rw [HL.out]; omega) (by unfold rck1; rw [← HSK.out]; exact fun h => q2 h.2))
                  go_wp2_with fail
                  go_ret
                  exact ⟨by rw [H.out]; rfl, hwA⟩
              · have d1 : decide (a0 < 1) = true := by simp; omega
                have H := Lib.hid (show mayB gen first ss = false from may_nr1 HRNG.out k (by rw [HL.out]; omega) (by unfold rck1; rw [← HSK.out]; exact fun h => q1 h.1))
                go_wp2_with fail
                go_ret
                exact ⟨by rw [H.out]; rfl, hwA⟩
            · obtain rfl : k = m + 1 := by omega
              have H := may_end (gen := gen) (first := first) (ss := ss) h1 h2 (by rw [HL.out]; omega) (by rw [HL.out]; have := H4.out; omega) (by rw [HML.out]; exact HOP.out (by omega)) (by rw [HL.out]; exact fun j hj => rck_chk hs.rng (HC.out j (by omega)).1 ((HC.out j (by omega)).2 (by omega)) (HC.out (j + 1) (by omega)).1)
              obtain ⟨ad', e', p1, p2, p3, p4, p5⟩ := hs.cell 0 (by omega)
              obtain rfl : ad = ad' := by injection e'
              obtain ⟨⟨a0, b0, c0, d0, f0⟩, hsk⟩ : ∃ s, s = sg ss 0 := ⟨_, rfl⟩
              rw [← hsk] at p1 p2 p3 p4 p5 H
              rw [HL.out] at H
              simp only [Nat.zero_mul] at p1 p2 p3 p4 p5 H
              have e0 : ad.add 0 = ad := rfl
              rw [e0] at p1 p2 p3 p4 p5
              have HH := Lib.hid H
              have g1 := cell_keep hw p1
              have g2 := cell_keep hw p2
              have g4 := cell_keep hw p4
              clear p1 p2 p3 p4 p5 hsk H e' e0 hs
              by_cases q1 : b0 ≤ first
              · have e1 : decide (first ≥ b0) = true := by simp; omega
                by_cases q2 : m = 0
                · have d2 : ((m : Int) + 1 == 1) = true := by simp; omega
                  have HR := Lib.hid (show decide (b0 ≤ first ∧ (m + 1 = 1 ∨ first ≤ d0)) = true by simp [q1, q2])
                  clear q2
                  go_wp2_with fail
                  go_quiet (fail)
                  go_wp2_with fail
                  go_ret
                  exact ⟨by rw [HH.out, HR.out]; first | rfl | simp | (simp; omega), below_drewN hw nq⟩
                · have d2 : ((m : Int) + 1 == 1) = false := by simp; omega
                  have HR := Lib.hid (show decide (b0 ≤ first ∧ (m + 1 = 1 ∨ first ≤ d0)) = decide (first ≤ d0) by simp [q1, q2])
                  clear q2
                  go_wp2_with fail
                  go_quiet (fail)
                  go_wp2_with fail
                  go_ret
                  exact ⟨by rw [HH.out, HR.out]; first | rfl | simp | (simp; omega), below_drewN hw nq⟩
              · have d1 : decide (first ≥ b0) = false := by simp; omega
                have HR := Lib.hid (show decide (b0 ≤ first ∧ (m + 1 = 1 ∨ first ≤ d0)) = false by simp [q1])
                go_wp2_with fail
                go_quiet (fail)
                go_wp2_with fail
                go_ret
                exact ⟨by rw [HH.out, HR.out]; first | rfl | simp | (simp; omega), below_drewN hw nq⟩
    · have H := Lib.hid (show mayB gen first ss = false from may_false fun h => by omega)
      have d2 : decide (first < 1) = true := by simp; omega
      go_enter Try.func60, Try.ntmps60
      go_wp2_with fail
      go_ret
      exact ⟨by rw [H.out]; rfl, hb1⟩
  · have H := Lib.hid (show mayB gen first ss = false from may_false fun h => by omega)
    have d1 : decide (gen < 1) = true := by simp; omega
    go_enter Try.func60, Try.ntmps60
    go_wp2_with fail
    go_ret
    exact ⟨by rw [H.out]; rfl, hb1⟩
end Go.Proofs.Ythggicgbcgeggaa
