/- Walks: catalog.At and the document's At: one plain function. -/
import Derived.Test.YthggicgbcgeggaaVL2
import Derived.Test.YthggicgbcgeggaaVS
set_option linter.unusedVariables false
set_option linter.unusedSimpArgs false
namespace Go.Proofs.Ythggicgbcgeggaa
open Go.RowKit
/-- the last one of the first k segments whose Base is at most lsn -/
def lastLe (ss : List Sg) (lsn : Int) : Nat → Nat
  | 0 => 0
  | k + 1 => if (sg ss k).base ≤ lsn then k else lastLe ss lsn k
/-- which segment has a record -/
def atI (gen first : Int) (ss : List Sg) (lsn : Int) : Int × Bool := if mayB gen first ss = true ∧ first ≤ lsn then ((lastLe ss lsn ss.length : Nat), true) else (0, false)
theorem may_out {gen first : Int} {ss : List Sg} (h : mayB gen first ss = true) : 1 ≤ gen ∧ 1 ≤ first ∧ 1 ≤ ss.length ∧ ss.length ≤ 64 ∧ opB (sg ss (ss.length - 1)) = true ∧ (∀ i, i < ss.length - 1 → chkB ss i = true) ∧ (sg ss 0).base ≤ first ∧ (ss.length = 1 ∨ first ≤ (sg ss 0).end_) := by
  unfold mayB at h; exact of_decide_eq_true h
theorem chk_out {ss : List Sg} {i : Nat} (h : chkB ss i = true) : 1 ≤ (sg ss i).num ∧ 1 ≤ (sg ss i).base ∧ (sg ss i).base ≤ (sg ss i).end_ ∧ 32 ≤ (sg ss i).size ∧ (sg ss i).size ≤ 2147483647 ∧ (sg ss i).num ≠ 9223372036854775807 ∧ (sg ss (i + 1)).num = (sg ss i).num + 1 ∧ (sg ss (i + 1)).base = (sg ss i).end_ := by
  simp only [chkB, seB, Bool.and_eq_true, decide_eq_true_eq] at h
  obtain ⟨⟨⟨⟨h1, h2, h3, h4, h5⟩, h6⟩, h7⟩, h8⟩ := h
  exact ⟨h1, h2, h3, h4, h5, h6, h7, h8⟩
theorem may_mono {gen first : Int} {ss : List Sg} (h : mayB gen first ss = true) (i : Nat) : ∀ d, i + d < ss.length → (sg ss i).base ≤ (sg ss (i + d)).base
  | 0, _ => Int.le_refl _
  | d + 1, hd => by
    have h1 := may_mono h i d (by omega)
    have h2 := chk_out ((may_out h).2.2.2.2.2.1 (i + d) (by omega))
    have h3 := h2.2.2.2.2.2.2.2
    have h4 := h2.2.2.1
    rw [show i + (d + 1) = i + d + 1 by omega]
    omega
theorem lastLe_at (ss : List Sg) (lsn : Int) (r : Nat) (h0 : (sg ss r).base ≤ lsn) : ∀ k, r < k → (∀ j, r < j → j < k → lsn < (sg ss j).base) → lastLe ss lsn k = r
  | 0, h, _ => by omega
  | k + 1, h, hh => by
    unfold lastLe
    by_cases e : r = k
    · subst e; rw [if_pos h0]
    · rw [if_neg (by have := hh k (by omega) (by omega); omega)]
      exact lastLe_at ss lsn r h0 k (by omega) (fun j h1 h2 => hh j h1 (by omega))
theorem at_yes {gen first : Int} {ss : List Sg} {lsn r : Int} (h : mayB gen first ss = true) (hf : first ≤ lsn) (h0 : 0 ≤ r) (h1 : r ≤ (ss.length : Int)) (h2 : 0 < r → decide ((sg ss (r - 1).toNat).base > lsn) = false) (h3 : r < (ss.length : Int) → decide ((sg ss r.toNat).base > lsn) = true) :
    0 < r ∧ atI gen first ss lsn = (r - 1, true) := by
  have hm := may_out h
  have hr : 0 < r := by
    by_cases e : r = 0
    · subst e
      have := h3 (by omega)
      simp at this
      omega
    · omega
  have h4 := h2 hr
  simp only [gt_iff_lt, decide_eq_false_iff_not, Int.not_lt] at h4
  refine ⟨hr, ?_⟩
  unfold atI
  rw [if_pos ⟨h, hf⟩, lastLe_at ss lsn (r - 1).toNat h4 ss.length (by omega) ?_]
  · congr 1; omega
  · intro j hj hj2
    have h5 := h3 (by omega)
    simp only [gt_iff_lt, decide_eq_true_eq] at h5
    have h6 := may_mono h r.toNat (j - r.toNat) (by omega)
    rw [show r.toNat + (j - r.toNat) = j by omega] at h6
    omega
set_option maxHeartbeats 1000000 in
theorem at1_any (i : Int) (pb qb : Nat) (gen first lsn : Int) (A : Option Addr) (n c : Nat) (ss : List Sg) (w : World) (hs : RSg w A n ss) (hc : n ≤ c) (i0 : 0 ≤ i) (i1 : i < n)
    (hp : w.heap[pb]? = some (.cells #[.int .i64 gen, .int .i64 first, .slice A n c] 78 (0, 0))) (hq : w.heap[qb]? = some (.cells #[.int .i64 lsn] 2 (0, 0))) :
    Calls Try.prog 107 #[.int .i64 i, .pointer (some ⟨pb, 0, none⟩), .pointer (some ⟨qb, 0, none⟩)] w fun e w' => e = .returned (.bool (decide ((sg ss i.toNat).base > lsn))) ∧ ∃ k, w' = w.drewN k := by
  obtain ⟨k, rfl⟩ := Int.eq_ofNat_of_zero_le i0
  obtain ⟨ad, rfl, p1, p2, -⟩ := hs.cell k (by omega)
  have x2 := blk_cell hp 2 (v := some (.slice (some ad) n c)) rfl
  have y0 := blk_cell hq 0 (v := some (.int .i64 lsn)) rfl
  go_enter Try.func107, Try.ntmps107
  go_wp2_with fail
  go_quiet (fail)
  go_wp2_with fail
  go_ret
  exact ⟨by rw [Int.toNat_natCast]; rfl, nq, rfl⟩
set_option maxRecDepth 20000 in
set_option maxHeartbeats 2000000 in
theorem atC_any (gen first lsn : Int) (A : Option Addr) (n c : Nat) (ss : List Sg) (w : World) (hs : RSg w A n ss) (hc : n ≤ c) :
    Calls Try.prog 57 #[.agg #[.int .i64 gen, .int .i64 first, .slice A n c], .int .i64 lsn] w fun e w' => e = .returned (.tuple #[.int .i64 (atI gen first ss lsn).1, .bool (atI gen first ss lsn).2]) ∧ Below w.heap.size w w' := by
  have hl := hs.len
  have HL := Lib.hid hl
  have ht := hs.top
  have hb1 := (below_alloc1 w (.cells #[.int .i64 gen, .int .i64 first, .slice A n c] 78)).alloc (by simp) (.cells #[.int .i64 lsn] 2)
  obtain ⟨tn1, tn2⟩ := two_new w (.cells #[.int .i64 gen, .int .i64 first, .slice A n c] 78) (.cells #[.int .i64 lsn] 2)
  have HTN := Lib.hid (And.intro tn1 tn2)
  have hs1 := hs.below hb1
  clear hl tn1 tn2
  cases hm : mayB gen first ss
  · have HM := Lib.hid hm
    have H := Lib.hid (show atI gen first ss lsn = (0, false) by unfold atI; rw [if_neg]; rw [hm]; simp)
    clear hm
    rw [H.out]
    go_enter Try.func57, Try.ntmps57
    go_wp2_with (go_at_call 59; refine (may_any gen first A n c ss _ hs1 hc).mono ?_; rw [HM.out]; rintro e w2 ⟨rfl, hb2⟩)
    go_ret2
    exact ⟨rfl, below_to hb1 hb1.size hb2⟩
  · have HM := Lib.hid hm
    clear hm
    by_cases hf : first ≤ lsn
    · have d1 : decide (lsn < first) = false := by simp; omega
      go_enter Try.func57, Try.ntmps57
      go_wp2_with (first
        | (go_at_call 59; refine (may_any gen first A n c ss _ hs1 hc).mono ?_; rw [HM.out]; rintro e w2 ⟨rfl, hb2⟩; have hw2 := below_to hb1 hb1.size hb2; have ht1 := (hb2.block _ (lt_of_block HTN.out.1)).trans HTN.out.1; have ht2 := (hb2.block _ (lt_of_block HTN.out.2)).trans HTN.out.2; have HT1 := Lib.hid ht1; have HT2 := Lib.hid ht2; have u1 := blk_cell ht1 1 (v := some (.int .i64 first)) rfl; have u2 := blk_cell ht1 2 (v := some (.slice A n c)) rfl; have v0 := blk_cell ht2 0 (v := some (.int .i64 lsn)) rfl; have hs2 := hs1.below hb2; clear ht1 ht2)
        | (go_at_call 106; refine (search107 (n : Int) (by omega) (by omega) ⟨w.heap.size, 0, none⟩ ⟨w.heap.size + 1, 0, none⟩ (fun i => decide ((sg ss i.toNat).base > lsn)) _ (fun i k h0 h1 => (at1_any i w.heap.size (w.heap.size + 1) gen first lsn A n c ss _ (hs2.drewN k) hc h0 h1 HT1.out HT2.out).mono fun _ _ h => ⟨h.1, by obtain ⟨_, k', hk⟩ := h; exact ⟨k + k', by rw [hk, World.drewN_drewN]⟩⟩)).mono ?_; rintro e w3 ⟨r, rfl, r0, r1, r2, r3, k, hk⟩; have HR := Lib.hid (at_yes (gen := gen) (first := first) (lsn := lsn) (r := r) HM.out hf r0 (by rw [HL.out]; exact r1) r2 (by rw [HL.out]; exact r3)); have HK := Lib.hid hk; clear hk r2 r3))
      go_ret2
      have e1 := HR.out.2
      exact ⟨by rw [e1]; rfl, by rw [HK.out]; exact below_drewN hw2 k⟩
    · have d1 : decide (lsn < first) = true := by simp; omega
      have H := Lib.hid (show atI gen first ss lsn = (0, false) by unfold atI; rw [if_neg]; intro h; exact hf h.2)
      rw [H.out]
      go_enter Try.func57, Try.ntmps57
      go_wp2_with (go_at_call 59; refine (may_any gen first A n c ss _ hs1 hc).mono ?_; rw [HM.out]; rintro e w2 ⟨rfl, hb2⟩; have ht1 := (hb2.block _ (lt_of_block HTN.out.1)).trans HTN.out.1; have ht2 := (hb2.block _ (lt_of_block HTN.out.2)).trans HTN.out.2; have u1 := blk_cell ht1 1 (v := some (.int .i64 first)) rfl; have v0 := blk_cell ht2 0 (v := some (.int .i64 lsn)) rfl; clear ht1 ht2)
      go_ret2
      exact ⟨rfl, below_to hb1 hb1.size hb2⟩
set_option maxRecDepth 20000 in
set_option maxHeartbeats 2000000 in
theorem ratC_any (gen first lsn : Int) (A : Option Addr) (n c : Nat) (ss : List Sg) (w : World) (hs : RSg w A n ss) (hc : n ≤ c) :
    Calls Try.prog 58 #[.agg #[.int .i64 gen, .int .i64 first, .slice A n c], .int .i64 lsn] w fun e w' => e = .returned (.tuple #[.int .i64 (atI gen first ss lsn).1, .bool (atI gen first ss lsn).2]) ∧ Below w.heap.size w w' := by
  have hl := hs.len
  have HL := Lib.hid hl
  have ht := hs.top
  have hb1 := below_alloc1 w (.cells #[.int .i64 gen, .int .i64 first, .slice A n c] 78)
  have HN := Lib.hid (heap_alloc_new w (.cells #[.int .i64 gen, .int .i64 first, .slice A n c] 78))
  have hs1 := hs.below hb1
  clear hl
  cases hm : mayB gen first ss
  · have HM := Lib.hid hm
    have H := Lib.hid (show atI gen first ss lsn = (0, false) by unfold atI; rw [if_neg]; rw [hm]; simp)
    clear hm
    rw [H.out]
    go_enter Try.func58, Try.ntmps58
    go_wp2_with (go_at_call 60; refine (rmay_any gen first A n c ss _ hs1 hc).mono ?_; rw [HM.out]; rintro e w2 ⟨rfl, hb2⟩)
    go_ret2
    exact ⟨rfl, below_to hb1 hb1.size hb2⟩
  · have HM := Lib.hid hm
    clear hm
    by_cases hf : first ≤ lsn
    · have d1 : decide (lsn < first) = false := by simp; omega
      have H := Lib.hid (show atI gen first ss lsn = (((lastLe ss lsn n : Nat) : Int), true) by unfold atI; rw [if_pos ⟨HM.out, hf⟩, HL.out])
      go_enter Try.func58, Try.ntmps58
      go_wp2_with (go_at_call 60; refine (rmay_any gen first A n c ss _ hs1 hc).mono ?_; rw [HM.out]; rintro e w2 ⟨rfl, hb2⟩; have hw2 := below_to hb1 hb1.size hb2; have ht1 := (hb2.block _ (lt_of_block HN.out)).trans HN.out; have HT1 := Lib.hid ht1; have u1 := blk_cell ht1 1 (v := some (.int .i64 first)) rfl; have hs2 := hs1.below hb2; clear ht1)
      clear u1
      have u2 := blk_cell HT1.out 2 (v := some (.slice A n c)) rfl
      go_loopw [6, 7] (fun q i wr => ∃ (k : Nat) (z : Int), k ≤ n ∧ i = .int .i64 k ∧ q = .int .i64 z ∧ Hid (z = ((lastLe ss lsn k : Nat) : Int)) ∧ Hid (wr = w2)) (fun _ i _ => n - (intOf i).toNat)
      case atStart => exact ⟨0, 0, by omega, rfl, rfl, rfl, rfl⟩
      case round =>
        obtain ⟨k, z, hk, rfl, rfl, HZ, HW⟩ := hrel
        obtain rfl := HW.out
        by_cases hlt : k < n
        · obtain ⟨ad, rfl, p1, p2, -⟩ := hs2.cell k hlt
          have k0 : (0 : Int) ≤ (k : Int) := by omega
          have k1 : (k : Int) < (n : Int) := by omega
          by_cases hq : (sg ss k).base ≤ lsn
          · have HQ := Lib.hid (show lastLe ss lsn (k + 1) = k by simp only [lastLe]; rw [if_pos hq])
            go_wp2_with fail
            go_roundw
            case rel => exact ⟨k + 1, _, by omega, by go_num, rfl, by rw [HQ.out]; first | rfl | exact trivial, by first | rfl | exact trivial⟩
            case measure => simp [intOf]; omega
          · have HQ := Lib.hid (show lastLe ss lsn (k + 1) = lastLe ss lsn k by simp only [lastLe]; rw [if_neg hq])
            go_wp2_with fail
            go_roundw
            case rel => exact ⟨k + 1, _, by omega, by go_num, rfl, by rw [HQ.out]; exact HZ.out, by first | rfl | exact trivial⟩
            case measure => simp [intOf]; omega
        · obtain rfl : k = n := by omega
          go_wp2_with fail
          go_ret2
          exact ⟨by rw [H.out, HZ.out]; rfl, hw2⟩
    · have d1 : decide (lsn < first) = true := by simp; omega
      have H := Lib.hid (show atI gen first ss lsn = (0, false) by unfold atI; rw [if_neg]; intro h; exact hf h.2)
      rw [H.out]
      go_enter Try.func58, Try.ntmps58
      go_wp2_with (go_at_call 60; refine (rmay_any gen first A n c ss _ hs1 hc).mono ?_; rw [HM.out]; rintro e w2 ⟨rfl, hb2⟩; have ht1 := (hb2.block _ (lt_of_block HN.out)).trans HN.out; have u1 := blk_cell ht1 1 (v := some (.int .i64 first)) rfl; clear ht1)
      go_ret2
      exact ⟨rfl, below_to hb1 hb1.size hb2⟩
end Go.Proofs.Ythggicgbcgeggaa
