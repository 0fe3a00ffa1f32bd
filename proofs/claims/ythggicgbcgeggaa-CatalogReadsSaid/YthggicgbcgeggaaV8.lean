/- Walk: the reader's low where the bytes are there. -/
import Derived.Test.YthggicgbcgeggaaV7
set_option linter.unusedVariables false
set_option linter.unusedSimpArgs false
namespace Go.Proofs.Ythggicgbcgeggaa
open Go.RowKit
/-- the number that the first i bytes tell, the lowest first -/
def lo (l : List Int) : Nat → Int
  | 0 => 0
  | i + 1 => lo l i + nth l i * 2 ^ (8 * i)
theorem lo_rng {l : List Int} (hb : ∀ j, 0 ≤ nth l j ∧ nth l j ≤ 255) : ∀ i, 0 ≤ lo l i ∧ lo l i < 2 ^ (8 * i)
  | 0 => by simp [lo]
  | i + 1 => by
    have h := lo_rng hb i
    obtain ⟨h1, h2⟩ := hb i
    have hp : (0 : Int) < 2 ^ (8 * i) := Int.pow_pos (by omega)
    have h3 : 0 ≤ nth l i * 2 ^ (8 * i) := Int.mul_nonneg h1 (by omega)
    have h4 : nth l i * 2 ^ (8 * i) ≤ 255 * 2 ^ (8 * i) := Int.mul_le_mul_of_nonneg_right h2 (by omega)
    have h5 : (2 : Int) ^ (8 * (i + 1)) = 2 ^ (8 * i) * 256 := by rw [Nat.mul_add, Int.pow_add]; rfl
    simp only [lo]
    rw [h5]
    omega
theorem lo_or {l : List Int} (hb : ∀ j, 0 ≤ nth l j ∧ nth l j ≤ 255) (k : Nat) (hk : k ≤ 7) :
    bits .or .u64 (lo l k) (IntKind.u64.wrap (nth l k * 2 ^ (8 * k))) = lo l (k + 1) ∧ 0 ≤ lo l (k + 1) ∧ lo l (k + 1) < 18446744073709551616 := by
  obtain ⟨h0, h1⟩ := lo_rng hb k
  obtain ⟨g0, g1⟩ := lo_rng hb (k + 1)
  obtain ⟨x0, x1⟩ := hb k
  obtain ⟨a, ha⟩ := Int.eq_ofNat_of_zero_le h0
  obtain ⟨b, hbb⟩ := Int.eq_ofNat_of_zero_le x0
  have hle : (2 : Nat) ^ (8 * (k + 1)) ≤ 2 ^ 64 := Nat.pow_le_pow_right (by omega) (by omega)
  have c1 : ((2 : Int) ^ (8 * (k + 1))) = ((2 ^ (8 * (k + 1)) : Nat) : Int) := by simp
  have c2 : ((2 : Int) ^ (8 * k)) = ((2 ^ (8 * k) : Nat) : Int) := by simp
  have e1 : (nth l k * 2 ^ (8 * k) : Int) = ((b * 2 ^ (8 * k) : Nat) : Int) := by rw [hbb]; simp
  have e2 : lo l (k + 1) = ((a + b * 2 ^ (8 * k) : Nat) : Int) := by simp only [lo]; rw [ha, hbb]; simp
  have ha1 : a < 2 ^ (8 * k) := by rw [ha, c2] at h1; omega
  have hs : a + b * 2 ^ (8 * k) < 2 ^ 64 := by rw [e2, c1] at g1; omega
  rw [e1, e2, wrap_u64 _ (by omega) (by omega), ha]
  exact ⟨or64 a b _ ha1 (by omega) (by omega), by omega, by omega⟩
set_option maxHeartbeats 1000000 in
theorem low_ok (g : Nat) (A : Option Addr) (n c : Nat) (l : List Int) (p sz : Nat) (w : World) (hr : RD w g (.slice A n c) p 0) (hl : RB w A n l) (hc : n ≤ c) (hp : p ≤ n) (hs : sz ≤ n - p) (h8 : sz ≤ 8) :
    Calls Try.prog 98 #[.pointer (some ⟨g, 0, none⟩), .int .i64 sz] w fun e w' => e = .returned (.int .u64 (lo (l.drop p) sz)) ∧ RD w' g (.slice A n c) ((p : Int) + sz) 0 ∧ w.grownBy w' (some g) := by
  have ht := hl.top
  have d1 : ¬ (((n - p : Nat) : Int) < (sz : Int)) := by omega
  have d2 : decide (((n - p : Nat) : Int) < (sz : Int)) = false := by simp; omega
  go_enter Try.func98, Try.ntmps98
  go_wp2_with (go_at_call 101; refine (rest_ok g A n c l p _ hr hl hc hp).mono ?_; rintro e w1 ⟨A', c', k, rfl, hb, hcc, rfl⟩)
  obtain ⟨q, hq⟩ : ∃ q, q = n - p := ⟨_, rfl⟩
  rw [← hq] at hb hcc hs ⊢
  clear d1 d2
  have hrng := hb.rng
  have HR := Lib.hid hrng
  clear hrng
  go_loopw [6, 7, 17] (fun s _ i wr => ∃ (m : Nat) (z : Int), i = .int .i64 m ∧ m ≤ sz ∧ s = .int .u64 z ∧ Hid (z = lo (l.drop p) m) ∧ wr = w.drewN k) (fun _ _ i _ => sz - (intOf i).toNat)
  case atStart => exact ⟨0, 0, rfl, by omega, rfl, rfl, rfl⟩
  case round =>
    obtain ⟨m, z, rfl, hm, rfl, HZ, rfl⟩ := hrel
    by_cases hlt : m < sz
    · obtain ⟨ad, rfl, hcell⟩ := (hb.drewN k).cell m (by omega)
      obtain ⟨x0, x1⟩ := HR.out m
      have hO := (lo_or HR.out m (by omega)).1
      rw [← HZ.out] at hO
      have hW := wrap_u64 (nth (l.drop p) m) (by omega) (by omega)
      have i0 : (0 : Int) ≤ (m : Int) := by omega
      have i1 : (m : Int) < (q : Int) := by omega
      have i2 : (m : Int) < (sz : Int) := by omega
      obtain ⟨y, hy⟩ : ∃ y, y = lo (l.drop p) (m + 1) := ⟨_, rfl⟩
      rw [← hy] at hO
      have HY := Lib.hid hy
      clear hy
      go_wp2_with fail
      go_roundw
      case rel => exact ⟨m + 1, y, by go_num, by omega, rfl, HY.out, trivial⟩
      case measure => simp [intOf]; omega
    · obtain rfl : m = sz := by omega
      have HP := Lib.hid (And.intro hp hq)
      go_wp2_with (go_at_call 102; (refine (took_ok g (.slice A n c) p m (w.drewN k) hr (by omega) (by omega) (by have := HP.out; omega)).mono ?_; rintro e w3 ⟨rfl, hr3, hg3⟩))
      go_ret
      exact ⟨by rw [HZ.out]; rfl, hr3, ⟨hg3.os, hg3.tape, hg3.output, hg3.size, hg3.block⟩⟩
end Go.Proofs.Ythggicgbcgeggaa
