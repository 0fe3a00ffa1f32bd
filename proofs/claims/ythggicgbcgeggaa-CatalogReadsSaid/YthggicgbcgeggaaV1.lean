/- Walks: wire.ReadVarint and its document's twin compute rvI; Eq tells whether two byte strings are one. -/
import Derived.Test.YthggicgbcgeggaaProg
import Derived.Test.YthggicgbcgeggaaVB
import Derived.WalkKit
import Derived.WalkSpells
import Derived.Lib.Hide
import Derived.WalkLawsBesides
import Derived.Deep.QuietTactic
import Derived.BigQuiet
import Derived.OwnWalk
set_option linter.unusedVariables false
set_option linter.unusedSimpArgs false
namespace Go.Proofs.Ythggicgbcgeggaa
open Go.RowKit

/-- the number that the first i groups of seven bits tell -/
def acc (l : List Int) : Nat → Int
  | 0 => 0
  | i + 1 => acc l i + nth l i % 128 * 128 ^ i
theorem acc_rng (l : List Int) : ∀ i, 0 ≤ acc l i ∧ acc l i < 128 ^ i
  | 0 => by simp [acc]
  | i + 1 => by
    have h := acc_rng l i
    have h1 : 0 ≤ nth l i % 128 ∧ nth l i % 128 ≤ 127 := by omega
    have hp : (0 : Int) < 128 ^ i := Int.pow_pos (by omega)
    have h2 : 0 ≤ nth l i % 128 * 128 ^ i := Int.mul_nonneg h1.1 (by omega)
    have h3 : nth l i % 128 * 128 ^ i ≤ 127 * 128 ^ i := Int.mul_le_mul_of_nonneg_right h1.2 (by omega)
    have h4 : (128 : Int) ^ (i + 1) = 128 ^ i * 128 := Int.pow_succ _ _
    simp only [acc]
    rw [h4]
    omega
/-- what is read from place k on, at most f bytes further: the number, how many bytes, the error -/
def rvAt (l : List Int) : Nat → Nat → Int × Int × Int
  | _, 0 => (0, 0, 4)
  | k, f + 1 => if l.length ≤ k then (0, 0, 2) else if k = 9 ∧ 1 < nth l k then (0, 0, 4) else if nth l k < 128 then (if 0 < k ∧ nth l k = 0 then (0, 0, 4) else (acc l (k + 1), (k : Int) + 1, 0)) else rvAt l (k + 1) f
def rvI (l : List Int) : Int × Int × Int := rvAt l 0 10
theorem rvAt_step (l : List Int) (k : Nat) (hk : k ≤ 9) : rvAt l k (10 - k) = if l.length ≤ k then (0, 0, 2) else if k = 9 ∧ 1 < nth l k then (0, 0, 4) else if nth l k < 128 then (if 0 < k ∧ nth l k = 0 then (0, 0, 4) else (acc l (k + 1), (k : Int) + 1, 0)) else rvAt l (k + 1) (10 - (k + 1)) := by
  obtain ⟨f, hf⟩ : ∃ f, 10 - k = f + 1 := ⟨9 - k, by omega⟩
  have hg : 10 - (k + 1) = f := by omega
  rw [hf, hg, rvAt]
theorem and127 (x : Int) (h0 : 0 ≤ x) (h1 : x ≤ 255) : bits .and .u8 x 127 = x % 128 := by
  obtain ⟨a, rfl⟩ := Int.eq_ofNat_of_zero_le h0
  have ha : a < 256 := by omega
  have : ∀ a : Fin 256, bits .and .u8 (a.val : Int) 127 = (a.val : Int) % 128 := by decide +kernel
  exact this ⟨a, ha⟩
theorem wrap_u64 (x : Int) (h0 : 0 ≤ x) (h1 : x < 18446744073709551616) : IntKind.u64.wrap x = x := by
  rw [IntKind.wrap_u64]; omega
theorem or64 (a b i : Nat) (ha : a < 2 ^ i) (hb : b * 2 ^ i < 2 ^ 64) (ha2 : a < 2 ^ 64) : bits .or .u64 (a : Int) ((b * 2 ^ i : Nat) : Int) = ((a + b * 2 ^ i : Nat) : Int) := by
  have h5 : (a ||| b * 2 ^ i) < 2 ^ 64 := Nat.or_lt_two_pow ha2 hb
  have h6 : a ||| b * 2 ^ i = a + b * 2 ^ i := by
    have := Nat.two_pow_add_eq_or_of_lt ha b
    rw [Nat.or_comm, Nat.mul_comm b, ← this, Nat.add_comm]
  show IntKind.u64.wrap (((BitVec.ofInt 64 (a : Int) ||| BitVec.ofInt 64 ((b * 2 ^ i : Nat) : Int) : BitVec 64).toNat : Nat) : Int) = _
  rw [BitVec.toNat_or, BitVec.ofInt_natCast, BitVec.ofInt_natCast, BitVec.toNat_ofNat, BitVec.toNat_ofNat, Nat.mod_eq_of_lt ha2, Nat.mod_eq_of_lt hb, h6, wrap_u64 _ (by omega) (by rw [h6] at h5; omega)]
theorem pow7 (k : Nat) : (2 : Nat) ^ (7 * k) = 128 ^ k := by rw [Nat.pow_mul]
theorem pow128_le {k : Nat} (hk : k ≤ 8) : (128 : Nat) ^ k ≤ 72057594037927936 := by
  have := Nat.pow_le_pow_right (n := 128) (by omega) hk
  simpa using this
theorem acc_or (l : List Int) (k : Nat) (x0 : 0 ≤ nth l k) (x1 : nth l k ≤ 255) (hk : k ≤ 8 ∨ k = 9 ∧ nth l k ≤ 1) :
    bits .or .u64 (acc l k) (IntKind.u64.wrap (nth l k % 128 * 2 ^ (7 * k))) = acc l (k + 1) ∧ 0 ≤ acc l (k + 1) ∧ acc l (k + 1) < 18446744073709551616 := by
  obtain ⟨h0, h1⟩ := acc_rng l k
  obtain ⟨a, ha⟩ := Int.eq_ofNat_of_zero_le h0
  obtain ⟨b, hb⟩ := Int.eq_ofNat_of_zero_le (show 0 ≤ nth l k % 128 by omega)
  have hb1 : b ≤ 127 := by omega
  have hb2 : k = 9 → b ≤ 1 := by omega
  have e1 : (nth l k % 128 * 2 ^ (7 * k) : Int) = ((b * 2 ^ (7 * k) : Nat) : Int) := by rw [hb]; simp
  have e2 : acc l (k + 1) = ((a + b * 2 ^ (7 * k) : Nat) : Int) := by
    simp only [acc]
    rw [hb, ha, pow7]; simp
  have ha1 : a < 128 ^ k := by rw [ha] at h1; have e : ((128 : Int) ^ k) = ((128 ^ k : Nat) : Int) := by simp
                               rw [e] at h1; omega
  have hbb : b * 2 ^ (7 * k) + 128 ^ k ≤ 2 ^ 64 ∧ 128 ^ k ≤ 2 ^ 64 ∧ b * 2 ^ (7 * k) < 2 ^ 64 := by
    rw [pow7]
    rcases hk with hk | ⟨rfl, _⟩
    · have hp := pow128_le hk
      have := Nat.mul_le_mul hb1 hp
      omega
    · have := hb2 rfl
      omega
  rw [e1, e2, wrap_u64 _ (by omega) (by omega), ha]
  exact ⟨or64 a b _ (by rw [pow7]; exact ha1) (by omega) (by omega), by omega, by omega⟩
theorem rvAt_end {l : List Int} {n k : Nat} (hl : l.length = n) (h : rvI l = rvAt l k (10 - k)) (hk9 : k ≤ 9) (hlt : ¬ k < n) : rvI l = (0, 0, 2) := by
  rw [h, rvAt_step l k hk9, if_pos (by omega)]
theorem rvAt_big {l : List Int} {n : Nat} (hl : l.length = n) (h : rvI l = rvAt l 9 (10 - 9)) (hlt : 9 < n) (hx : 1 < nth l 9) : rvI l = (0, 0, 4) := by
  rw [h, rvAt_step l 9 (by omega), if_neg (by omega), if_pos ⟨rfl, hx⟩]
theorem rvAt_zero {l : List Int} {n k : Nat} (hl : l.length = n) (h : rvI l = rvAt l k (10 - k)) (hk9 : k ≤ 9) (hlt : k < n) (h0 : 0 < k) (hx : nth l k = 0) : rvI l = (0, 0, 4) := by
  rw [h, rvAt_step l k hk9, if_neg (by omega), if_neg (by omega), if_pos (by omega), if_pos ⟨h0, hx⟩]
theorem rvAt_done {l : List Int} {n k : Nat} (hl : l.length = n) (h : rvI l = rvAt l k (10 - k)) (hk9 : k ≤ 9) (hlt : k < n) (hx : nth l k < 128) (h9 : ¬ (k = 9 ∧ 1 < nth l k)) (h0 : ¬ (0 < k ∧ nth l k = 0)) : rvI l = (acc l (k + 1), (k : Int) + 1, 0) := by
  rw [h, rvAt_step l k hk9, if_neg (by omega), if_neg h9, if_pos hx, if_neg h0]
theorem rvAt_more {l : List Int} {n k : Nat} (hl : l.length = n) (h : rvI l = rvAt l k (10 - k)) (hk9 : k ≤ 9) (hlt : k < n) (hx : 128 ≤ nth l k) (h9 : k < 9) : rvI l = rvAt l (k + 1) (10 - (k + 1)) := by
  rw [h, rvAt_step l k hk9, if_neg (by omega), if_neg (by omega), if_neg (by omega)]
set_option maxHeartbeats 1000000 in
theorem read_any (A : Option Addr) (n c : Nat) (l : List Int) (w : World) (hl : RB w A n l) :
    Calls Try.prog 22 #[.slice A n c] w fun e w' => e = .returned (.tuple #[.int .u64 (rvI l).1, .int .i64 (rvI l).2.1, .int .i64 (rvI l).2.2]) ∧ w = w' := by
  have hll := hl.len
  have HLL := Lib.hid hll
  have ht := hl.top
  clear hll
  go_enter Try.func22, Try.ntmps22
  go_wp2_with fail
  go_loopw [5, 6] (fun s i wr => ∃ (k : Nat), k ≤ n ∧ k ≤ 9 ∧ i = .int .i64 k ∧ s = .int .u64 (acc l k) ∧ Hid (rvI l = rvAt l k (10 - k)) ∧ w = wr) (fun _ i _ => n - (intOf i).toNat)
  case atStart => exact ⟨0, by omega, by omega, rfl, rfl, rfl, rfl⟩
  case round =>
    obtain ⟨k, hk, hk9, rfl, rfl, HR, rfl⟩ := hrel
    by_cases hlt : k < n
    · obtain ⟨ad, rfl, hc⟩ := hl.cell k hlt
      obtain ⟨x0, x1⟩ := hl.rng k
      have hA := and127 _ x0 x1
      have hW := wrap_u64 (nth l k % 128) (by omega) (by omega)
      have HX := Lib.hid (And.intro x0 x1)
      by_cases hk9' : k = 9
      · have hkb := Lib.hid (show (k : Int) = 9 by omega)
        by_cases hx : 1 < nth l k
        · have hr := Lib.hid (rvAt_big HLL.out (by have := HR.out; rwa [hk9'] at this) (by omega) (by rwa [hk9'] at hx))
          clear hk9'
          go_wp2_with fail
          all_goals first
            | (exfalso; have := hkb.out; omega)
            | (go_ret3; exact ⟨by rw [hr.out]; rfl, rfl⟩)
        · have hO := (acc_or l k x0 x1 (.inr ⟨hk9', by omega⟩)).1
          have e9 : (2 : Int) ^ (7 * k) = 9223372036854775808 := by rw [hk9']; decide
          rw [e9] at hO
          have hO2 := hO
          rw [wrap_u64 _ (by omega) (by omega)] at hO2
          by_cases h0 : nth l k = 0
          · have hr := Lib.hid (rvAt_zero HLL.out HR.out hk9 hlt (by omega) h0)
            have d0 : (nth l k == 0) = true := by simpa using h0
            clear hk9' e9 h0
            go_wp2_with fail
            all_goals first
              | (exfalso; have := hkb.out; omega)
              | (go_ret3; exact ⟨by rw [hr.out]; rfl, rfl⟩)
              | trace_state
          · have hr := Lib.hid (rvAt_done HLL.out HR.out hk9 hlt (by omega) (by omega) (by omega))
            have d0 : (nth l k == 0) = false := by simpa using h0
            clear hk9' h0 e9
            go_wp2_with fail
            all_goals first
              | (exfalso; have := hkb.out; omega)
              | (go_ret3; exact ⟨by rw [hr.out]; simp [hkb.out, hO, hO2], rfl⟩)
      · have hkb : ¬ (k : Int) = 9 := by omega
        have hO := (acc_or l k x0 x1 (.inl (by omega))).1
        by_cases hx : 128 ≤ nth l k
        · have hr := Lib.hid (rvAt_more HLL.out HR.out hk9 hlt hx (by omega))
          go_wp2_with fail
          go_roundw
          case rel => exact ⟨k + 1, by omega, by omega, by go_num, rfl, hr, trivial⟩
          case measure => simp [intOf]; omega
        · by_cases h0 : 0 < k ∧ nth l k = 0
          · have hr := Lib.hid (rvAt_zero HLL.out HR.out hk9 hlt h0.1 h0.2)
            obtain ⟨h00, h01⟩ := h0
            go_wp2_with fail
            go_ret3
            exact ⟨by rw [hr.out]; rfl, rfl⟩
          · have hr := Lib.hid (rvAt_done HLL.out HR.out hk9 hlt (by omega) (by omega) h0)
            by_cases hk0 : 0 < k
            · have d0 : (nth l k == 0) = false := by simp; omega
              go_wp2_with fail
              go_ret3
              exact ⟨by rw [hr.out]; rfl, rfl⟩
            · have d1 : decide (0 < k) = false := by simp; omega
              clear h0
              go_wp2_with fail
              go_ret3
              exact ⟨by rw [hr.out]; rfl, rfl⟩
    · have hr := Lib.hid (rvAt_end HLL.out HR.out hk9 hlt)
      go_wp2_with fail
      go_ret3
      exact ⟨by rw [hr.out]; rfl, rfl⟩
theorem acc_add (l : List Int) (k : Nat) (x0 : 0 ≤ nth l k) (x1 : nth l k ≤ 255) (hk : k ≤ 8 ∨ k = 9 ∧ nth l k ≤ 1) :
    IntKind.u64.wrap (nth l k % 128 * 128 ^ k) = nth l k % 128 * 128 ^ k ∧ IntKind.u64.wrap (acc l k + nth l k % 128 * 128 ^ k) = acc l (k + 1) := by
  obtain ⟨_, h2, h3⟩ := acc_or l k x0 x1 hk
  obtain ⟨h0, h1⟩ := acc_rng l k
  have e : acc l (k + 1) = acc l k + nth l k % 128 * 128 ^ k := rfl
  have hp : (0 : Int) < 128 ^ k := Int.pow_pos (by omega)
  have h4 : 0 ≤ nth l k % 128 * 128 ^ k := Int.mul_nonneg (by omega) (by omega)
  exact ⟨wrap_u64 _ h4 (by omega), by rw [← e]; exact wrap_u64 _ h2 h3⟩
theorem scale_up (k : Nat) (hk : k ≤ 8) : IntKind.u64.wrap ((128 : Int) ^ k * 128) = 128 ^ (k + 1) := by
  have e : ((128 : Int) ^ k) = ((128 ^ k : Nat) : Int) := by simp
  have := pow128_le hk
  have h0 : (0 : Int) ≤ 128 ^ k := Int.le_of_lt (Int.pow_pos (by omega))
  have h1 : (128 : Int) ^ k ≤ 72057594037927936 := by rw [e]; omega
  rw [Int.pow_succ, wrap_u64 _ (by omega) (by omega)]
set_option maxHeartbeats 1000000 in
theorem rread_any (A : Option Addr) (n c : Nat) (l : List Int) (w : World) (hl : RB w A n l) :
    Calls Try.prog 23 #[.slice A n c] w fun e w' => e = .returned (.tuple #[.int .u64 (rvI l).1, .int .i64 (rvI l).2.1, .int .i64 (rvI l).2.2]) ∧ w = w' := by
  have hll := hl.len
  have HLL := Lib.hid hll
  have ht := hl.top
  clear hll
  go_enter Try.func23, Try.ntmps23
  go_wp2_with fail
  go_loopw [5, 6, 7] (fun s sc i wr => ∃ (k : Nat) (z : Int), k ≤ n ∧ k ≤ 9 ∧ i = .int .i64 k ∧ s = .int .u64 (acc l k) ∧ sc = .int .u64 z ∧ Hid (z = 128 ^ k) ∧ Hid (rvI l = rvAt l k (10 - k)) ∧ w = wr) (fun _ _ i _ => n - (intOf i).toNat)
  case atStart => exact ⟨0, 1, by omega, by omega, rfl, rfl, rfl, rfl, rfl, rfl⟩
  case round =>
    obtain ⟨k, z, hk, hk9, rfl, rfl, rfl, HZ, HR, rfl⟩ := hrel
    have hk10 : (k : Int) < 10 := by omega
    by_cases hlt : k < n
    · obtain ⟨ad, rfl, hc⟩ := hl.cell k hlt
      obtain ⟨x0, x1⟩ := hl.rng k
      have hW := wrap_u64 (nth l k) (by omega) (by omega)
      have dn : ¬ k = n := by omega
      have dn1 : ¬ (k : Int) = (n : Int) := by omega
      by_cases hk9' : k = 9
      · have hkb := Lib.hid (show (k : Int) = 9 by omega)
        by_cases hx : 1 < nth l k
        · have hr := Lib.hid (rvAt_big HLL.out (by have := HR.out; rwa [hk9'] at this) (by omega) (by rwa [hk9'] at hx))
          clear hk9'
          go_wp2_with fail
          all_goals first
            | (exfalso; have := hkb.out; omega)
            | (go_ret3; exact ⟨by rw [hr.out]; rfl, rfl⟩)
        · have hO := acc_add l k x0 x1 (.inr ⟨hk9', by omega⟩)
          rw [← HZ.out] at hO
          obtain ⟨hO1, hO2⟩ := hO
          by_cases h0 : nth l k = 0
          · have hr := Lib.hid (rvAt_zero HLL.out HR.out hk9 hlt (by omega) h0)
            have d0 : (nth l k == 0) = true := by simpa using h0
            clear hk9' h0
            go_wp2_with fail
            all_goals first
              | (exfalso; have := hkb.out; omega)
              | (go_ret3; exact ⟨by rw [hr.out]; rfl, rfl⟩)
              | trace_state
          · have hr := Lib.hid (rvAt_done HLL.out HR.out hk9 hlt (by omega) (by omega) (by omega))
            have d0 : (nth l k == 0) = false := by simpa using h0
            clear hk9' h0
            go_wp2_with fail
            all_goals first
              | (exfalso; have := hkb.out; omega)
              | (go_ret3; exact ⟨by rw [hr.out]; simp [hkb.out, hO1, hO2], rfl⟩)
      · have hkb : ¬ (k : Int) = 9 := by omega
        have hO := acc_add l k x0 x1 (.inl (by omega))
        rw [← HZ.out] at hO
        obtain ⟨hO1, hO2⟩ := hO
        by_cases hx : 128 ≤ nth l k
        · have hr := Lib.hid (rvAt_more HLL.out HR.out hk9 hlt hx (by omega))
          have HS := Lib.hid (scale_up k (by omega))
          go_wp2_with fail
          go_roundw
          case rel => exact ⟨k + 1, _, by omega, by omega, by go_num, rfl, rfl, (by rw [HZ.out]; exact HS.out), hr, trivial⟩
          case measure => simp [intOf]; omega
        · by_cases h0 : 0 < k ∧ nth l k = 0
          · have hr := Lib.hid (rvAt_zero HLL.out HR.out hk9 hlt h0.1 h0.2)
            obtain ⟨h00, h01⟩ := h0
            go_wp2_with fail
            go_ret3
            exact ⟨by rw [hr.out]; rfl, rfl⟩
          · have hr := Lib.hid (rvAt_done HLL.out HR.out hk9 hlt (by omega) (by omega) h0)
            by_cases hk0 : 0 < k
            · have d0 : (nth l k == 0) = false := by simp; omega
              go_wp2_with fail
              go_ret3
              exact ⟨by rw [hr.out]; rfl, rfl⟩
            · have d1 : decide (0 < k) = false := by simp; omega
              clear h0
              go_wp2_with fail
              go_ret3
              exact ⟨by rw [hr.out]; rfl, rfl⟩
    · have hr := Lib.hid (rvAt_end HLL.out HR.out hk9 hlt)
      obtain rfl : k = n := by omega
      go_wp2_with fail
      go_ret3
      exact ⟨by rw [hr.out]; rfl, rfl⟩
/-- are two lists of bytes one? -/
def eqI (l m : List Int) : Bool := decide (l = m)
theorem ext_nth {l m : List Int} (h : l.length = m.length) (he : ∀ j, j < l.length → nth l j = nth m j) : l = m := by
  apply List.ext_getElem h
  intro i h1 h2
  have := he i h1
  rwa [nth_at l i h1, nth_at m i h2] at this
set_option maxHeartbeats 1000000 in
theorem eq_any (A B : Option Addr) (n m c d : Nat) (l q : List Int) (w : World) (hl : RB w A n l) (hq : RB w B m q) :
    Calls Try.prog 26 #[.slice A n c, .slice B m d] w fun e w' => e = .returned (.bool (eqI l q)) ∧ Below w.heap.size w w' := by
  have HLL := Lib.hid hl.len
  have HQL := Lib.hid hq.len
  have ht := hl.top
  go_enter Try.func26, Try.ntmps26
  by_cases hnm : n = m
  · subst hnm
    go_wp2_with fail
    go_loopw [5] (fun i wr => ∃ (k : Nat), k ≤ n ∧ i = .int .i64 k ∧ Hid (∀ j, j < k → nth l j = nth q j) ∧ Below w.heap.size w wr) (fun i _ => n - (intOf i).toNat)
    case atStart => exact ⟨0, by omega, rfl, fun j hj => by omega, Below.refl _ _⟩
    case round =>
      obtain ⟨k, hk, rfl, HE, hw⟩ := hrel
      by_cases hlt : k < n
      · obtain ⟨ad, rfl, hc⟩ := (hl.below hw).cell k hlt
        obtain ⟨bd, rfl, hd⟩ := (hq.below hw).cell k hlt
        have hi0 : (0 : Int) ≤ (k : Int) := Int.natCast_nonneg _
        have hi1 : (k : Int) < (n : Int) := by omega
        by_cases he : nth l k = nth q k
        · have hh := Lib.hid he
          have d0 : (nth l k == nth q k) = true := by simpa using he
          clear he
          go_wp2_with fail
          go_quiet (fail)
          go_wp2_with fail
          go_roundw
          case rel =>
            refine ⟨k + 1, by omega, by go_num, ?_, below_drewN hw _⟩
            intro j hj
            by_cases hjk : j = k
            · subst hjk; exact hh.out
            · exact HE.out j (by omega)
          case measure => simp [intOf]; omega
        · have hh : eqI l q = false := by
            unfold eqI
            simp only [decide_eq_false_iff_not]
            intro h; exact he (by rw [h])
          have d0 : (nth l k == nth q k) = false := by simpa using he
          clear he
          go_wp2_with fail
          go_quiet (fail)
          go_wp2_with fail
          go_ret
          exact ⟨by rw [hh]; rfl, below_drewN hw _⟩
      · have hh : eqI l q = true := by
          unfold eqI
          simp only [decide_eq_true_eq]
          exact ext_nth (by rw [HLL.out, HQL.out]) fun j hj => HE.out j (by have := HLL.out; omega)
        go_wp2_with fail
        go_ret
        exact ⟨by rw [hh]; rfl, hw⟩
  · have hh : eqI l q = false := by
      unfold eqI
      simp only [decide_eq_false_iff_not]
      intro h; exact hnm (by rw [← HLL.out, ← HQL.out, h])
    have d0 : ¬ (n : Int) = (m : Int) := by omega
    go_wp2_with fail
    go_ret
    exact ⟨by rw [hh]; rfl, Below.refl _ _⟩
end Go.Proofs.Ythggicgbcgeggaa
