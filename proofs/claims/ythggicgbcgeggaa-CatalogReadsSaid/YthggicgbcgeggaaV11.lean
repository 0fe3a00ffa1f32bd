/- Plain law: the bytes of a fixed number tell it again. -/
import Derived.Test.YthggicgbcgeggaaV10
import Derived.Test.YthggicgbcgeggaaVW
set_option linter.unusedVariables false
set_option linter.unusedSimpArgs false
namespace Go.Proofs.Ythggicgbcgeggaa
open Go.RowKit
theorem lo_mod (l : List Int) (n : Nat) : ∀ i, (∀ j, j < i → nth l j = (n : Int) / 2 ^ (8 * j) % 256) → lo l i = ((n % 2 ^ (8 * i) : Nat) : Int)
  | 0, _ => by simp [lo, Nat.mod_one]
  | i + 1, h => by
    have ih := lo_mod l n i (fun j hj => h j (by omega))
    have e : (2 : Nat) ^ (8 * (i + 1)) = 2 ^ (8 * i) * 256 := by rw [Nat.mul_add, Nat.pow_add]
    have c2 : ((2 : Int) ^ (8 * i)) = ((2 ^ (8 * i) : Nat) : Int) := by simp
    simp only [lo]
    rw [ih, h i (by omega), e, Nat.mod_mul, c2]
    rw [Int.natCast_add, Int.natCast_mul, Int.mul_comm]
    congr 1
theorem lo_fb (n : Int) (k : Nat) (rest : List Int) (h0 : 0 ≤ n) (h1 : n < 2 ^ (8 * k)) : lo (fb n k ++ rest) k = n := by
  obtain ⟨m, rfl⟩ := Int.eq_ofNat_of_zero_le h0
  have hh : m < 2 ^ (8 * k) := by
    have c2 : ((2 : Int) ^ (8 * k)) = ((2 ^ (8 * k) : Nat) : Int) := by simp
    rw [c2] at h1; exact Int.ofNat_lt.1 h1
  rw [lo_mod _ m k (fun j hj => by rw [nth_app1 _ _ _ (by rw [fb_len]; exact hj)]; exact fb_nth k _ j (by omega) hj), Nat.mod_eq_of_lt hh]
end Go.Proofs.Ythggicgbcgeggaa
