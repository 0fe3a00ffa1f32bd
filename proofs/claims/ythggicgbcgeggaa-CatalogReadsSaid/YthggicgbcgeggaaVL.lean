/- Words on segments and catalogs; walks: catalog.open and catalog.sealed. -/
import Derived.Test.YthggicgbcgeggaaV23
import Derived.Test.YthggicgbcgeggaaVR2
set_option linter.unusedVariables false
set_option linter.unusedSimpArgs false
namespace Go.Proofs.Ythggicgbcgeggaa
open Go.RowKit
/-- a segment -/
structure Sg where
  num : Int
  base : Int
  seed : Int
  end_ : Int
  size : Int
def sgd : Sg := ⟨0, 0, 0, 0, 0⟩
def Sg.cs (s : Sg) : Array Value := #[.int .i64 s.num, .int .i64 s.base, .int .u32 s.seed, .int .i64 s.end_, .int .i64 s.size]
def Sg.v (s : Sg) : Value := .agg #[.int .i64 s.num, .int .i64 s.base, .int .u32 s.seed, .int .i64 s.end_, .int .i64 s.size]
def Sg.vals (s : Sg) : List Value := [.int .i64 s.num, .int .i64 s.base, .int .u32 s.seed, .int .i64 s.end_, .int .i64 s.size]
def i64r (x : Int) : Prop := -9223372036854775808 ≤ x ∧ x ≤ 9223372036854775807
/-- a segment's numbers are of their kinds -/
structure SW (s : Sg) : Prop where
  num : i64r s.num
  base : i64r s.base
  seed : 0 ≤ s.seed ∧ s.seed < 4294967296
  end_ : i64r s.end_
  size : i64r s.size
theorem SW.d : SW sgd := ⟨by unfold i64r; decide, by unfold i64r; decide, by decide, by unfold i64r; decide, by unfold i64r; decide⟩
def sg (ss : List Sg) (i : Nat) : Sg := ss.getD i sgd
theorem sg_at (ss : List Sg) (i : Nat) (h : i < ss.length) : sg ss i = ss[i] := by
  unfold sg; rw [List.getD_eq_getElem?_getD, List.getElem?_eq_getElem h]; rfl
/-- a slice of segments that is read -/
structure RSg (w : World) (A : Option Addr) (n : Nat) (ss : List Sg) : Prop where
  len : ss.length = n
  top : n ≤ 3518437208883
  cell : ∀ j, j < n → ∃ ad, A = some ad ∧ w.cell? (ad.add (j * 5)) = some (.int .i64 (sg ss j).num) ∧ w.cell? ⟨(ad.add (j * 5)).block, (ad.add (j * 5)).off + 1, none⟩ = some (.int .i64 (sg ss j).base) ∧
    w.cell? ⟨(ad.add (j * 5)).block, (ad.add (j * 5)).off + 2, none⟩ = some (.int .u32 (sg ss j).seed) ∧ w.cell? ⟨(ad.add (j * 5)).block, (ad.add (j * 5)).off + 3, none⟩ = some (.int .i64 (sg ss j).end_) ∧
    w.cell? ⟨(ad.add (j * 5)).block, (ad.add (j * 5)).off + 4, none⟩ = some (.int .i64 (sg ss j).size)
  rng : ∀ j, SW (sg ss j)
theorem RSg.below {w w' : World} {A : Option Addr} {n : Nat} {ss : List Sg} (h : RSg w A n ss) (hb : Below w.heap.size w w') : RSg w' A n ss :=
  ⟨h.len, h.top, fun j hj => by
    obtain ⟨ad, e, h1, h2, h3, h4, h5⟩ := h.cell j hj
    exact ⟨ad, e, cell_keep hb h1, cell_keep hb h2, cell_keep hb h3, cell_keep hb h4, cell_keep hb h5⟩, h.rng⟩
theorem RSg.drewN {w : World} {A : Option Addr} {n : Nat} {ss : List Sg} (h : RSg w A n ss) (k : Nat) : RSg (w.drewN k) A n ss := ⟨h.len, h.top, h.cell, h.rng⟩
theorem RSg.drew {w : World} {A : Option Addr} {n : Nat} {ss : List Sg} (h : RSg w A n ss) : RSg w.drew A n ss := ⟨h.len, h.top, h.cell, h.rng⟩
/-- may it be the open one? a sealed one? -/
def opB (s : Sg) : Bool := decide (1 ≤ s.num ∧ 1 ≤ s.base ∧ s.end_ = 0 ∧ s.size = 0)
def seB (s : Sg) : Bool := decide (1 ≤ s.num ∧ 1 ≤ s.base ∧ s.base ≤ s.end_ ∧ 32 ≤ s.size ∧ s.size ≤ 2147483647)
set_option maxHeartbeats 1000000 in
theorem open_any (s : Sg) (w : World) : Calls Try.prog 108 #[s.v] w fun e w' => e = .returned (.bool (opB s)) ∧ Below w.heap.size w w' := by
  obtain ⟨a, b, c, d, f⟩ := s
  show Calls Try.prog 108 #[.agg #[.int .i64 a, .int .i64 b, .int .u32 c, .int .i64 d, .int .i64 f]] w _
  have hr : ∀ r, opB ⟨a, b, c, d, f⟩ = r → Hid (opB ⟨a, b, c, d, f⟩ = r) := fun _ h => h
  by_cases h1 : 1 ≤ a
  · by_cases h2 : 1 ≤ b
    · by_cases h3 : d = 0
      · have H := hr (decide (f = 0)) (by simp [opB, h1, h2, h3])
        have d3 : (d == 0) = true := by simpa using h3
        clear hr h3
        go_enter Try.func108, Try.ntmps108
        go_wp2_with fail
        go_ret
        exact ⟨by rw [H.out]; first | rfl | simp [BEq.beq], below_alloc1 _ _⟩
      · have H := hr false (by simp [opB, h3])
        have d3 : (d == 0) = false := by simpa using h3
        clear hr h3
        go_enter Try.func108, Try.ntmps108
        go_wp2_with fail
        go_ret
        exact ⟨by rw [H.out]; rfl, below_alloc1 _ _⟩
    · have H := hr false (by simp [opB, h2])
      have d2 : decide (b ≥ 1) = false := by simp; omega
      clear hr
      go_enter Try.func108, Try.ntmps108
      go_wp2_with fail
      go_ret
      exact ⟨by rw [H.out]; rfl, below_alloc1 _ _⟩
  · have H := hr false (by simp [opB, h1])
    have d2 : decide (a ≥ 1) = false := by simp; omega
    clear hr
    go_enter Try.func108, Try.ntmps108
    go_wp2_with fail
    go_ret
    exact ⟨by rw [H.out]; rfl, below_alloc1 _ _⟩
set_option maxHeartbeats 1000000 in
theorem sealed_any (s : Sg) (w : World) : Calls Try.prog 109 #[s.v] w fun e w' => e = .returned (.bool (seB s)) ∧ Below w.heap.size w w' := by
  obtain ⟨a, b, c, d, f⟩ := s
  show Calls Try.prog 109 #[.agg #[.int .i64 a, .int .i64 b, .int .u32 c, .int .i64 d, .int .i64 f]] w _
  have hr : ∀ r, seB ⟨a, b, c, d, f⟩ = r → Hid (seB ⟨a, b, c, d, f⟩ = r) := fun _ h => h
  by_cases h0 : 1 ≤ a
  · skip
    by_cases h1 : 1 ≤ b
    · skip
      by_cases h2 : b ≤ d
      · skip
        by_cases h3 : 32 ≤ f
        · skip
          have H := hr (decide (f ≤ 2147483647)) (by simp [seB, h0, h1, h2, h3])
          clear hr
          go_enter Try.func109, Try.ntmps109
          go_wp2_with fail
          go_ret
          exact ⟨by rw [H.out]; first | rfl | simp, below_alloc1 _ _⟩
        · have H := hr false (by simp [seB, h3])
          have d2 : decide (f ≥ 32) = false := by simp; omega
          clear hr
          go_enter Try.func109, Try.ntmps109
          go_wp2_with fail
          go_ret
          exact ⟨by rw [H.out]; rfl, below_alloc1 _ _⟩
      · have H := hr false (by simp [seB, h2])
        have d2 : decide (d ≥ b) = false := by simp; omega
        clear hr
        go_enter Try.func109, Try.ntmps109
        go_wp2_with fail
        go_ret
        exact ⟨by rw [H.out]; rfl, below_alloc1 _ _⟩
    · have H := hr false (by simp [seB, h1])
      have d2 : decide (b ≥ 1) = false := by simp; omega
      clear hr
      go_enter Try.func109, Try.ntmps109
      go_wp2_with fail
      go_ret
      exact ⟨by rw [H.out]; rfl, below_alloc1 _ _⟩
  · have H := hr false (by simp [seB, h0])
    have d2 : decide (a ≥ 1) = false := by simp; omega
    clear hr
    go_enter Try.func109, Try.ntmps109
    go_wp2_with fail
    go_ret
    exact ⟨by rw [H.out]; rfl, below_alloc1 _ _⟩
end Go.Proofs.Ythggicgbcgeggaa
