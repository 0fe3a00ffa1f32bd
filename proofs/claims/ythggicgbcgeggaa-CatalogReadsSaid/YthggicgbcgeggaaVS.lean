/- Walk: sort.Search over the two closures that only read. -/
import Derived.Test.YthggicgbcgeggaaV23
set_option linter.unusedVariables false
set_option linter.unusedSimpArgs false
namespace Go.Proofs.Ythggicgbcgeggaa
open Go.RowKit
/-- what Search finds -/
def SeR (n : Int) (P : Int → Bool) (w : World) (e : Ending) (w' : World) : Prop := ∃ r : Int, e = .returned (.int .i64 r) ∧ 0 ≤ r ∧ r ≤ n ∧ (0 < r → P (r - 1) = false) ∧ (r < n → P r = true) ∧ ∃ k, w' = w.drewN k
set_option maxRecDepth 20000 in
set_option maxHeartbeats 1000000 in
theorem search107 (n : Int) (n0 : 0 ≤ n) (n1 : n ≤ 140737488355328) (p q : Addr) (P : Int → Bool) (w : World)
    (hf : ∀ (i : Int) (k : Nat), 0 ≤ i → i < n → Calls Try.prog 107 #[.int .i64 i, .pointer (some p), .pointer (some q)] (w.drewN k) fun e w' => e = .returned (.bool (P i)) ∧ ∃ k', w' = w.drewN k') :
    Calls Try.prog 106 #[.int .i64 n, .func (.func 107) #[] #[.pointer (some p), .pointer (some q)]] w fun e w' => SeR n P w e w' := by
  have HF := Lib.hid hf
  clear hf
  go_enter Try.func106, Try.ntmps106
  go_wp2_with fail
  go_loopw [5, 6] (fun i j wr => ∃ (a b : Int) (k : Nat), i = .int .i64 a ∧ j = .int .i64 b ∧ 0 ≤ a ∧ a ≤ b ∧ b ≤ n ∧ Hid (0 < a → P (a - 1) = false) ∧ Hid (b < n → P b = true) ∧ Hid (wr = w.drewN k)) (fun i j _ => (intOf j - intOf i).toNat)
  case atStart => exact ⟨0, n, 0, rfl, rfl, by omega, n0, by omega, fun h => by omega, fun h => by omega, rfl⟩
  case round =>
    obtain ⟨a, b, k, rfl, rfl, ha, hab, hb, HA, HB, HW⟩ := hrel
    by_cases hlt : a < b
    · have e1 := wrap_u64 (a + b) (by omega) (by omega)
      have e2 : IntKind.i64.wrap ((a + b) / 2) = (a + b) / 2 := by rw [IntKind.wrap_i64]; omega
      have c0 : 0 ≤ (a + b) / 2 := by omega
      have c1 : (a + b) / 2 < n := by omega
      have HC := Lib.hid (HF.out ((a + b) / 2) k c0 c1)
      rw [← HW.out] at HC
      have HMID := Lib.hid (show a ≤ (a + b) / 2 ∧ (a + b) / 2 < b by omega)
      cases hP : P ((a + b) / 2)
      · have HP := Lib.hid hP
        clear hP
        go_wp2_with (go_at_call 107; refine (HC.out).mono ?_; rw [HP.out]; rintro e w2 ⟨rfl, k2, hw2⟩; have HW2 := Lib.hid hw2; clear hw2)
        go_roundw
        case rel => exact ⟨(a + b) / 2 + 1, b, k2, rfl, rfl, by omega, by have := HMID.out; omega, hb, fun _ => by rw [Int.add_sub_cancel]; exact HP.out, HB.out, HW2.out⟩
        case measure => simp [intOf]; have := HMID.out; omega
      · have HP := Lib.hid hP
        clear hP
        go_wp2_with (go_at_call 107; refine (HC.out).mono ?_; rw [HP.out]; rintro e w2 ⟨rfl, k2, hw2⟩; have HW2 := Lib.hid hw2; clear hw2)
        go_roundw
        case rel => exact ⟨a, (a + b) / 2, k2, rfl, rfl, ha, HMID.out.1, by omega, HA.out, fun _ => HP.out, HW2.out⟩
        case measure => simp [intOf]; have := HMID.out; omega
    · obtain rfl : a = b := by omega
      go_wp2_with fail
      go_ret
      exact ⟨a, rfl, ha, hb, HA.out, HB.out, k, HW.out⟩
set_option maxRecDepth 20000 in
set_option maxHeartbeats 1000000 in
theorem search123 (n : Int) (n0 : 0 ≤ n) (n1 : n ≤ 140737488355328) (p q : Addr) (P : Int → Bool) (w : World)
    (hf : ∀ (i : Int) (k : Nat), 0 ≤ i → i < n → Calls Try.prog 123 #[.int .i64 i, .pointer (some p), .pointer (some q)] (w.drewN k) fun e w' => e = .returned (.bool (P i)) ∧ ∃ k', w' = w.drewN k') :
    Calls Try.prog 106 #[.int .i64 n, .func (.func 123) #[] #[.pointer (some p), .pointer (some q)]] w fun e w' => SeR n P w e w' := by
  have HF := Lib.hid hf
  clear hf
  go_enter Try.func106, Try.ntmps106
  go_wp2_with fail
  go_loopw [5, 6] (fun i j wr => ∃ (a b : Int) (k : Nat), i = .int .i64 a ∧ j = .int .i64 b ∧ 0 ≤ a ∧ a ≤ b ∧ b ≤ n ∧ Hid (0 < a → P (a - 1) = false) ∧ Hid (b < n → P b = true) ∧ Hid (wr = w.drewN k)) (fun i j _ => (intOf j - intOf i).toNat)
  case atStart => exact ⟨0, n, 0, rfl, rfl, by omega, n0, by omega, fun h => by omega, fun h => by omega, rfl⟩
  case round =>
    obtain ⟨a, b, k, rfl, rfl, ha, hab, hb, HA, HB, HW⟩ := hrel
    by_cases hlt : a < b
    · have e1 := wrap_u64 (a + b) (by omega) (by omega)
      have e2 : IntKind.i64.wrap ((a + b) / 2) = (a + b) / 2 := by rw [IntKind.wrap_i64]; omega
      have c0 : 0 ≤ (a + b) / 2 := by omega
      have c1 : (a + b) / 2 < n := by omega
      have HC := Lib.hid (HF.out ((a + b) / 2) k c0 c1)
      rw [← HW.out] at HC
      have HMID := Lib.hid (show a ≤ (a + b) / 2 ∧ (a + b) / 2 < b by omega)
      cases hP : P ((a + b) / 2)
      · have HP := Lib.hid hP
        clear hP
        go_wp2_with (go_at_call 123; refine (HC.out).mono ?_; rw [HP.out]; rintro e w2 ⟨rfl, k2, hw2⟩; have HW2 := Lib.hid hw2; clear hw2)
        go_roundw
        case rel => exact ⟨(a + b) / 2 + 1, b, k2, rfl, rfl, by omega, by have := HMID.out; omega, hb, fun _ => by rw [Int.add_sub_cancel]; exact HP.out, HB.out, HW2.out⟩
        case measure => simp [intOf]; have := HMID.out; omega
      · have HP := Lib.hid hP
        clear hP
        go_wp2_with (go_at_call 123; refine (HC.out).mono ?_; rw [HP.out]; rintro e w2 ⟨rfl, k2, hw2⟩; have HW2 := Lib.hid hw2; clear hw2)
        go_roundw
        case rel => exact ⟨a, (a + b) / 2, k2, rfl, rfl, ha, HMID.out.1, by omega, HA.out, fun _ => HP.out, HW2.out⟩
        case measure => simp [intOf]; have := HMID.out; omega
    · obtain rfl : a = b := by omega
      go_wp2_with fail
      go_ret
      exact ⟨a, rfl, ha, hb, HA.out, HB.out, k, HW.out⟩
end Go.Proofs.Ythggicgbcgeggaa
