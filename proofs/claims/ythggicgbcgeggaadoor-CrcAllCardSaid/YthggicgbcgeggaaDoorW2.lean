/- Walks: the reference step, More, Sum; Mask, Bare; TrailingZeros32; of, twice, moved, Join, Zeros of crc. -/
import Derived.Deep.RegionHeld3
import Derived.Deep.LoopGhost
import Derived.BigQuiet
import Derived.Deep.QuietTactic
import Derived.Test.YthggicgbcgeggaaDoorW1
set_option linter.unusedVariables false
set_option linter.unusedSimpArgs false
namespace Go.Proofs.YthggicgbcgeggaaDoor
open Go.RowKit

theorem sb_rem1 (x : Int) (h0 : 0 ≤ x) (h1 : x < 4294967296) (h : x % 2 = 1) : bits .xor .u32 (x / 2) 2197175160 = iu (sb (u x)) := by
  refine sb_odd x h0 h1 ?_
  rw [u_and1 x h0 h1]
  obtain ⟨a, rfl⟩ := Int.eq_ofNat_of_zero_le h0
  rw [← BitVec.testBit_toNat, u_nat a (by omega), Nat.testBit_zero]
  simp; omega
theorem sb_rem0 (x : Int) (h0 : 0 ≤ x) (h1 : x < 4294967296) (h : ¬ x % 2 = 1) : x / 2 = iu (sb (u x)) := by
  refine sb_even x h0 h1 ?_
  rw [u_and1 x h0 h1]
  obtain ⟨a, rfl⟩ := Int.eq_ofNat_of_zero_le h0
  rw [← BitVec.testBit_toNat, u_nat a (by omega), Nat.testBit_zero]
  simp; omega
set_option maxHeartbeats 400000 in
theorem rstep_any (x : Int) (h0 : 0 ≤ x) (h1 : x < 4294967296) (w : World) :
    Calls Tryd.prog 25 #[.int .u32 x] w fun e w' => e = .returned (.int .u32 (iu (stp (u x)))) ∧ w = w' := by
  go_enter Tryd.func25, Tryd.ntmps25
  go_wp2
  go_loop [0, 3] (fun c' i => ∃ (k : Nat) (y : Int), k ≤ 8 ∧ i = .int .i64 k ∧ c' = .int .u32 y ∧ 0 ≤ y ∧ y < 4294967296 ∧ Hid (y = iu (sn k (u x)))) (fun _ i => 8 - (intOf i).toNat)
  case atStart => exact ⟨0, x, by omega, rfl, rfl, h0, h1, (iu_u x h0 h1).symm⟩
  case round =>
    obtain ⟨k, y, hk, rfl, rfl, hy0, hy1, HX⟩ := hrel
    by_cases hlt : k < 8
    · by_cases hb : y % 2 = 1
      · have HE := Lib.hid (sb_rem1 y hy0 hy1 hb)
        have hb2 : (y % 2 == 1) = true := by rw [hb]; rfl
        clear hb
        go_wp2
        go_round
        case rel => exact ⟨k + 1, _, by omega, by go_num, rfl, by rw [HE.out]; exact iu_lo _, by rw [HE.out]; exact iu_hi _, by unfold Hid; rw [HE.out, HX.out, u_iu]; rfl⟩
        case measure => simp [intOf]; omega
      · have HE := Lib.hid (sb_rem0 y hy0 hy1 hb)
        have hb2 : (y % 2 == 1) = false := by simpa using hb
        clear hb
        go_wp2
        go_round
        case rel => exact ⟨k + 1, _, by omega, by go_num, rfl, by omega, by omega, by unfold Hid; rw [HE.out, HX.out, u_iu]; rfl⟩
        case measure => simp [intOf]; omega
    · have hk8 : k = 8 := by omega
      have HK := Lib.hid hk8
      clear hk8
      go_wp2
      go_ret
      exact ⟨ret_int (by rw [HX.out, HK.out]; rfl), rfl⟩
set_option maxRecDepth 20000 in
set_option maxHeartbeats 400000 in
theorem rmore_any (s : Int) (h0 : 0 ≤ s) (h1 : s < 4294967296) (A : Option Addr) (n c : Nat) (l : List Int) (w : World) (hl : RB w A n l) :
    Calls Tryd.prog 15 #[.int .u32 s, .slice A n c] w fun e w' => e = .returned (.int .u32 (iu (more (u s) l))) ∧ w = w' := by
  have htop := hl.top
  go_enter Tryd.func15, Tryd.ntmps15
  go_wp2_with fail
  go_loop [5, 6] (fun c i => ∃ (k : Nat) (x : Int), k ≤ n ∧ i = .int .i64 k ∧ c = .int .u32 x ∧ 0 ≤ x ∧ x < 4294967296 ∧ Hid (x = iu (run (u s ^^^ 0xffffffff#32) (l.take k)))) (fun _ i => n - (intOf i).toNat)
  case atStart => exact ⟨0, _, by omega, rfl, rfl, by rw [bits_xor]; exact iu_lo _, by rw [bits_xor]; exact iu_hi _, by rw [bits_xor]; rfl⟩
  case round =>
    obtain ⟨k, x, hk, rfl, rfl, hx0, hx1, HX⟩ := hrel
    by_cases hlt : k < n
    · obtain ⟨ad, rfl, hc⟩ := hl.cell k hlt
      obtain ⟨r0, r1⟩ := hl.rng k
      have hb0 : 0 ≤ bits .xor .u32 x (nth l k) := by rw [bits_xor]; exact iu_lo _
      have hb1 : bits .xor .u32 x (nth l k) < 4294967296 := by rw [bits_xor]; exact iu_hi _
      go_wp2_with (go_at_call 25; refine (rstep_any _ hb0 hb1 _).mono ?_; rintro e w' ⟨rfl, rfl⟩)
      go_round
      case rel => exact ⟨k + 1, _, by omega, by go_num, rfl, iu_lo _, iu_hi _, run_step _ l k x HX.out (by rw [hl.len]; exact hlt)⟩
      case measure => simp [intOf]; omega
    · have hkn : l.take k = l := List.take_of_length_le (by rw [hl.len]; omega)
      rw [hkn] at HX
      clear hkn hl
      go_wp2_with fail
      go_ret
      exact ⟨ret_int (by rw [HX.out, bits_xor, u_iu]; rfl), rfl⟩
set_option maxHeartbeats 400000 in
theorem rsum_any (A : Option Addr) (n c : Nat) (l : List Int) (w : World) (hl : RB w A n l) :
    Calls Tryd.prog 13 #[.slice A n c] w fun e w' => e = .returned (.int .u32 (iu (more 0#32 l))) ∧ w = w' := by
  go_enter Tryd.func13, Tryd.ntmps13
  go_wp2_with (go_at_call 15; refine (rmore_any 0 (by omega) (by omega) A n c l _ hl).mono ?_; rintro e w1 ⟨rfl, rfl⟩)
  go_ret
  exact ⟨rfl, rfl⟩

/-- a turn to the left by k, as both texts do it -/
def rot15 (x : Int) : Int := bits .or .u32 (x * 32768 % 4294967296) (x / 131072)
def rot17 (x : Int) : Int := bits .or .u32 (x * 131072 % 4294967296) (x / 32768)
theorem wraps_u32 (n : Int) (h₀ : 0 ≤ n) (h₁ : n < 2 ^ 32) : IntKind.u32.wrap n = n := by rw [IntKind.wrap_u32]; omega
theorem rot15_sum (x : Int) (h0 : 0 ≤ x) (h1 : x < 4294967296) : rot15 x = x * 32768 % 4294967296 + x / 131072 :=
  bits_join .u32 32 (by decide) wraps_u32 15 _ _ (by omega) (by omega) (by omega) (by omega) (by omega) (by omega)
theorem rot17_sum (x : Int) (h0 : 0 ≤ x) (h1 : x < 4294967296) : rot17 x = x * 131072 % 4294967296 + x / 32768 :=
  bits_join .u32 32 (by decide) wraps_u32 17 _ _ (by omega) (by omega) (by omega) (by omega) (by omega) (by omega)
theorem or_comm (x y : Int) : bits .or .u32 x y = bits .or .u32 y x := by rw [bits_or, bits_or, BitVec.or_comm]
set_option maxHeartbeats 400000 in
theorem rot_l (x : Int) (h0 : 0 ≤ x) (h1 : x < 4294967296) (w : World) :
    Calls Tryd.prog 26 #[.int .u32 x, .int .i64 15] w fun e w' => e = .returned (.int .u32 (rot15 x)) ∧ w = w' := by
  have hk : bits .and .u64 15 31 = 15 := by decide
  go_enter Tryd.func26, Tryd.ntmps26
  go_wp2
  go_ret
  exact ⟨rfl, rfl⟩
set_option maxHeartbeats 400000 in
theorem rot_r (x : Int) (h0 : 0 ≤ x) (h1 : x < 4294967296) (w : World) :
    Calls Tryd.prog 26 #[.int .u32 x, .int .i64 (-15)] w fun e w' => e = .returned (.int .u32 (rot17 x)) ∧ w = w' := by
  have hk : bits .and .u64 (IntKind.u64.wrap (-15)) 31 = 17 := by decide
  go_enter Tryd.func26, Tryd.ntmps26
  go_wp2
  go_ret
  exact ⟨rfl, rfl⟩

def maskI (x : Int) : Int := (rot17 x + 2726488792) % 4294967296
def bareI (x : Int) : Int := rot15 ((x - 2726488792) % 4294967296)
theorem rot15_rng (x : Int) : 0 ≤ rot15 x ∧ rot15 x < 4294967296 := by
  unfold rot15; rw [bits_or]; exact ⟨iu_lo _, iu_hi _⟩
theorem rot17_rng (x : Int) : 0 ≤ rot17 x ∧ rot17 x < 4294967296 := by
  unfold rot17; rw [bits_or]; exact ⟨iu_lo _, iu_hi _⟩
theorem maskI_rng (x : Int) : 0 ≤ maskI x ∧ maskI x < 4294967296 := by unfold maskI; omega
theorem bareI_rng (x : Int) : 0 ≤ bareI x ∧ bareI x < 4294967296 := rot15_rng _
theorem back15 (x : Int) (h0 : 0 ≤ x) (h1 : x < 4294967296) : (x * 131072 % 4294967296 + x / 32768) * 32768 % 4294967296 + (x * 131072 % 4294967296 + x / 32768) / 131072 = x := by
  obtain ⟨a, ha⟩ : ∃ a, a = x / 32768 := ⟨_, rfl⟩
  obtain ⟨b, hb⟩ : ∃ b, b = x % 32768 := ⟨_, rfl⟩
  have e : x * 131072 % 4294967296 = b * 131072 := by omega
  rw [e, ← ha]
  have e1 : (b * 131072 + a) * 32768 % 4294967296 = a * 32768 := by omega
  have e2 : (b * 131072 + a) / 131072 = b := by omega
  rw [e1, e2]
  omega
theorem back17 (x : Int) (h0 : 0 ≤ x) (h1 : x < 4294967296) : (x * 32768 % 4294967296 + x / 131072) * 131072 % 4294967296 + (x * 32768 % 4294967296 + x / 131072) / 32768 = x := by
  obtain ⟨a, ha⟩ : ∃ a, a = x / 131072 := ⟨_, rfl⟩
  obtain ⟨b, hb⟩ : ∃ b, b = x % 131072 := ⟨_, rfl⟩
  have e : x * 32768 % 4294967296 = b * 32768 := by omega
  rw [e, ← ha]
  have e1 : (b * 32768 + a) * 131072 % 4294967296 = a * 131072 := by omega
  have e2 : (b * 32768 + a) / 32768 = b := by omega
  rw [e1, e2]
  omega
theorem bare_mask (x : Int) (h0 : 0 ≤ x) (h1 : x < 4294967296) : bareI (maskI x) = x := by
  unfold bareI maskI
  have hr := rot17_rng x
  have h : ((rot17 x + 2726488792) % 4294967296 - 2726488792) % 4294967296 = rot17 x := by omega
  rw [h, rot15_sum _ hr.1 hr.2, rot17_sum x h0 h1]
  exact back15 x h0 h1
theorem mask_bare (x : Int) (h0 : 0 ≤ x) (h1 : x < 4294967296) : maskI (bareI x) = x := by
  unfold bareI maskI
  have hy : 0 ≤ (x - 2726488792) % 4294967296 ∧ (x - 2726488792) % 4294967296 < 4294967296 := by omega
  have hr := rot15_rng ((x - 2726488792) % 4294967296)
  rw [rot17_sum _ hr.1 hr.2, rot15_sum _ hy.1 hy.2, back17 _ hy.1 hy.2]
  omega
set_option maxHeartbeats 400000 in
theorem mask_any (x : Int) (h0 : 0 ≤ x) (h1 : x < 4294967296) (w : World) :
    Calls Tryd.prog 16 #[.int .u32 x] w fun e w' => e = .returned (.int .u32 (maskI x)) ∧ w = w' := by
  go_enter Tryd.func16, Tryd.ntmps16
  go_wp2_with (go_at_call 26; refine (rot_r x h0 h1 _).mono ?_; rintro e w1 ⟨rfl, rfl⟩)
  go_ret
  exact ⟨rfl, rfl⟩
set_option maxHeartbeats 400000 in
theorem bare_any (x : Int) (h0 : 0 ≤ x) (h1 : x < 4294967296) (w : World) :
    Calls Tryd.prog 18 #[.int .u32 x] w fun e w' => e = .returned (.int .u32 (bareI x)) ∧ w = w' := by
  go_enter Tryd.func18, Tryd.ntmps18
  go_wp2_with (go_at_call 26; refine (rot_l _ (by omega) (by omega) _).mono ?_; rintro e w1 ⟨rfl, rfl⟩)
  go_ret
  exact ⟨rfl, rfl⟩
set_option maxHeartbeats 400000 in
theorem rmask_any (x : Int) (h0 : 0 ≤ x) (h1 : x < 4294967296) (w : World) :
    Calls Tryd.prog 17 #[.int .u32 x] w fun e w' => e = .returned (.int .u32 (maskI x)) ∧ w = w' := by
  go_enter Tryd.func17, Tryd.ntmps17
  go_wp2
  go_ret
  exact ⟨ret_int (by unfold maskI rot17; rw [or_comm]), rfl⟩
set_option maxHeartbeats 400000 in
theorem rbare_any (x : Int) (h0 : 0 ≤ x) (h1 : x < 4294967296) (w : World) :
    Calls Tryd.prog 19 #[.int .u32 x] w fun e w' => e = .returned (.int .u32 (bareI x)) ∧ w = w' := by
  go_enter Tryd.func19, Tryd.ntmps19
  go_wp2
  go_ret
  exact ⟨rfl, rfl⟩

def dbl : List Nat := [0, 1, 28, 2, 29, 14, 24, 3, 30, 22, 20, 15, 25, 17, 4, 8, 31, 27, 13, 23, 21, 19, 16, 7, 26, 12, 18, 6, 11, 5, 10, 9]
/-- the library's table, where the program lays it -/
def Tab (w : World) : Prop := ∀ k, k < 32 → w.cell? ⟨0, k, none⟩ = some (.int .u8 ((dbl.getD k 0 : Nat) : Int))
theorem Tab.below {w w' : World} (h : Tab w) (hb : Below w.heap.size w w') : Tab w' := fun k hk =>
  (hb.cell (World.block_lt_of_cell? w _ (h k hk))).trans (h k hk)
theorem db_at : ∀ k : Fin 32, (iu (1#32 <<< k.val) * 125613361 % 4294967296 / 134217728).toNat < 32 ∧ dbl.getD (iu (1#32 <<< k.val) * 125613361 % 4294967296 / 134217728).toNat 0 = k.val := by decide
theorem u_neg (x : Int) (h0 : 0 ≤ x) (h1 : x < 4294967296) : u (-x % 4294967296) = -(u x) := by
  unfold u
  rw [← BitVec.ofInt_neg]
  apply BitVec.eq_of_toNat_eq
  rw [BitVec.toNat_ofInt, BitVec.toNat_ofInt]
  congr 1
  simp
set_option maxHeartbeats 400000 in
theorem tz_any (x : Int) (h0 : 0 ≤ x) (h1 : x < 4294967296) (hx : x ≠ 0) (k : Nat) (hk : k < 32) (hb : u x &&& -(u x) = 1#32 <<< k) (w : World) (ht : Tab w) :
    Calls Tryd.prog 31 #[.int .u32 x] w fun e w' => e = .returned (.int .i64 k) ∧ w = w' := by
  have hx0 : (x == 0) = false := by simpa using hx
  have hq : bits .and .u32 x (-x % 4294967296) = iu (1#32 <<< k) := by rw [bits_and, u_neg x h0 h1, hb]
  obtain ⟨d1, d2⟩ := db_at ⟨k, hk⟩
  have hc := ht _ d1
  rw [d2] at hc
  clear hx hb d1 d2
  go_enter Tryd.func31, Tryd.ntmps31
  go_wp2_with fail
  go_ret
  exact ⟨rfl, rfl⟩

theorem quiet_eq {P : Program} {f : FuncId} {args : Array Value} {w : World} {n : Nat} {v : Value}
    (h : Calls P f args (w.drewN n) fun e w' => e = .returned v ∧ w.drewN n = w') : Calls P f args (w.drewN n) fun e w'' => e = .returned v ∧ ∃ m, w'' = w.drewN m :=
  h.mono fun _ _ ⟨he, hm⟩ => ⟨he, n, hm.symm⟩
theorem quiet_drawn {P : Program} {f : FuncId} {args : Array Value} {w : World} {n : Nat} {v : Value}
    (h : Calls P f args (w.drewN n) fun e w' => e = .returned v ∧ ∃ m, w' = (w.drewN n).drewN m) : Calls P f args (w.drewN n) fun e w'' => e = .returned v ∧ ∃ m, w'' = w.drewN m :=
  h.mono fun _ _ ⟨he, m, hm⟩ => ⟨he, n + m, by rw [hm, World.drewN_drewN]⟩
/-- the world is the old one, some orders having been drawn -/
def Drawn (w w' : World) : Prop := ∃ m, w' = w.drewN m
theorem Drawn.refl (w : World) : Drawn w w := ⟨0, rfl⟩
theorem Drawn.below {w w' : World} (h : Drawn w w') : Below w.heap.size w w' := by
  obtain ⟨m, rfl⟩ := h; exact below_drewN (Below.refl _ _) m
theorem Drawn.step {w w' : World} (h : Drawn w w') (n : Nat) : Drawn w (w'.drewN n) := by
  obtain ⟨m, rfl⟩ := h; exact ⟨m + n, World.drewN_drewN ..⟩
/-- f: what the map N steps on makes of each bit -/
def Map (N : Nat) (f : Nat → Int) : Prop := ∀ i, i < 32 → f i = iu (sn N (1#32 <<< i))
theorem of_round {N : Nat} {f : Nat → Int} (hf : Map N f) (y z : Int) (hy0 : 1 ≤ y) (hy1 : y < 4294967296) (X : BitVec 32) (h : u z ^^^ sn N (u y) = X) (k : Nat) (hk : k < 32)
    (he : (u y &&& (u y - 1#32)) ^^^ (1#32 <<< k) = u y) : u (bits .xor .u32 z (f k)) ^^^ sn N (u (bits .and .u32 y (y - 1))) = X := by
  have h1 : u (y - 1) = u y - 1#32 := by
    apply BitVec.eq_of_toNat_eq
    unfold u
    rw [BitVec.toNat_ofInt, BitVec.toNat_sub, BitVec.toNat_ofInt]
    have : (1#32).toNat = 1 := by decide
    rw [this]
    omega
  rw [bits_xor, u_iu, bits_and, u_iu, h1, hf k hk, u_iu]
  have h2 : sn N (u y) = sn N (u y &&& (u y - 1#32)) ^^^ sn N (1#32 <<< k) := by rw [← sn_xor, he]
  rw [h2] at h
  rw [← h]
  ac_rfl
theorem of_less (y : Int) (hy0 : 1 ≤ y) (hy1 : y < 4294967296) (h : (u y &&& (u y - 1#32)).toNat < (u y).toNat) : (bits .and .u32 y (y - 1)).toNat < y.toNat := by
  have h1 : u (y - 1) = u y - 1#32 := by
    apply BitVec.eq_of_toNat_eq
    unfold u
    rw [BitVec.toNat_ofInt, BitVec.toNat_sub, BitVec.toNat_ofInt]
    have : (1#32).toNat = 1 := by decide
    rw [this]
    omega
  rw [bits_and, h1]
  unfold iu
  have h2 : (u y).toNat = y.toNat := by
    obtain ⟨a, rfl⟩ := Int.eq_ofNat_of_zero_le (show 0 ≤ y by omega)
    rw [u_nat a (by omega)]; rfl
  omega
set_option maxHeartbeats 400000 in
theorem of_any (g N : Nat) (f : Nat → Int) (hf : Map N f) (x : Int) (h0 : 0 ≤ x) (h1 : x < 4294967296) (w : World) (ht : Tab w) (hb : w.heap[g]? = some (.cells (arrU 32 f) 44 (0, 0))) :
    Calls Tryd.prog 28 #[.pointer (some ⟨g, 0, none⟩), .int .u32 x] w fun e w' => e = .returned (.int .u32 (iu (sn N (u x)))) ∧ Drawn w w' := by
  have HB := Lib.hid hb
  clear hb
  go_enter Tryd.func28, Tryd.ntmps28
  go_wp2_with fail
  go_loopw [1, 5] (fun c o wr => ∃ (y z : Int), c = .int .u32 y ∧ o = .int .u32 z ∧ 0 ≤ y ∧ y < 4294967296 ∧ 0 ≤ z ∧ z < 4294967296 ∧ Hid (u z ^^^ sn N (u y) = sn N (u x)) ∧ Drawn w wr) (fun c _ _ => (intOf c).toNat)
  case atStart => exact ⟨x, 0, rfl, rfl, h0, h1, by omega, by omega, by unfold Hid; rw [u_zero, BitVec.zero_xor], Drawn.refl _⟩
  case round =>
    obtain ⟨y, z, rfl, rfl, hy0, hy1, hz0, hz1, HX, hD⟩ := hrel
    have hB := hD.below
    have htr := ht.below hB
    have HBr := blk_below hB (lt_of_block HB.out) HB.out
    have HB2 := Lib.hid HBr
    clear HBr
    by_cases hy : y = 0
    · subst hy
      go_wp2_with fail
      go_ret
      refine ⟨ret_int ?_, hD⟩
      have := HX.out
      rw [u_zero, sn_zero, BitVec.xor_zero] at this
      rw [← this, iu_u z hz0 hz1]
    · have hne : u y ≠ 0#32 := fun e => hy (u_inj hy0 hy1 (by omega) (by omega) (e.trans u_zero.symm))
      obtain ⟨k, hk, e1, e2, e3⟩ := low_bit (u y) hne
      have HR := Lib.hid (of_round hf y z (by omega) hy1 _ HX.out k hk e2)
      have HL := of_less y (by omega) hy1 e3
      have hyb : (y != 0) = true := by simpa using hy
      have hc : wr.cell? ⟨g, k, none⟩ = some (.int .u32 (f k)) := blk_cell HB2.out k (arrU_get _ _ _ hk)
      have E1 := Lib.hid e1
      have HY := Lib.hid hy
      clear e1 e2 e3 hne hy
      go_wp2_with fail
      go_quiet ((go_at_call 31; exact quiet_eq (tz_any y hy0 hy1 HY.out k hk E1.out _ htr)))
      go_wp2_with fail
      go_roundw
      case rel => exact ⟨_, _, rfl, rfl, by rw [bits_and]; exact iu_lo _, by rw [bits_and]; exact iu_hi _, by rw [bits_xor]; exact iu_lo _, by rw [bits_xor]; exact iu_hi _, HR.out, hD.step _⟩
      case measure => simp only [intOf]; exact HL

def mapI (N : Nat) (i : Nat) : Int := iu (sn N (1#32 <<< i))
theorem map_rng {N : Nat} {f : Nat → Int} (hf : Map N f) (i : Nat) (hi : i < 32) : 0 ≤ f i ∧ f i < 4294967296 := by rw [hf i hi]; exact ⟨iu_lo _, iu_hi _⟩
theorem map_twice {N : Nat} {f : Nat → Int} (hf : Map N f) (i : Nat) (hi : i < 32) : iu (sn N (u (f i))) = mapI (N + N) i := by
  rw [hf i hi, u_iu, ← sn_add]; rfl
set_option maxHeartbeats 400000 in
theorem twice_any (g N : Nat) (f : Nat → Int) (hf : Map N f) (w : World) (ht : Tab w) (hb : w.heap[g]? = some (.cells (arrU 32 f) 44 (0, 0))) :
    Calls Tryd.prog 29 #[.pointer (some ⟨g, 0, none⟩)] w fun e w' => ∃ g' f', e = .returned (.pointer (some ⟨g', 0, none⟩)) ∧ w.heap.size ≤ g' ∧ w'.heap[g']? = some (.cells (arrU 32 f') 44 (0, 0)) ∧ Map (N + N) f' ∧ Below w.heap.size w w' := by
  have HB := Lib.hid hb
  have hgl := lt_of_block hb
  clear hb
  go_enter Tryd.func29, Tryd.ntmps29
  go_wp2_with fail
  go_loopw [7] (fun i wr => ∃ (k : Nat) (h : Nat → Int), k ≤ 32 ∧ i = .int .i64 k ∧ wr.heap[w.heap.size]? = some (.cells (arrU 32 h) 44 (0, 0)) ∧ Below w.heap.size w wr ∧ Hid (∀ j, j < k → h j = mapI (N + N) j)) (fun i _ => 32 - (intOf i).toNat)
  case atStart => exact ⟨0, fun _ => 0, by omega, rfl, heap_alloc_new _ _, (Below.refl _ _).alloc (Nat.le_refl _) _, fun j hj => by omega⟩
  case round =>
    obtain ⟨k, h, hk, rfl, hw, hB, HF⟩ := hrel
    have HW := Lib.hid hw
    have hsz := lt_of_block hw
    by_cases hlt : k < 32
    · have htr := ht.below hB
      have hr := map_rng hf k hlt
      obtain ⟨r0, r1⟩ := hr
      have HBr := Lib.hid (blk_below hB hgl HB.out)
      have hc : wr.cell? ⟨g, k, none⟩ = some (.int .u32 (f k)) := blk_cell HBr.out k (arrU_get _ _ _ hlt)
      have ho : wr.cell? ⟨w.heap.size, k, none⟩ = some (.int .u32 (h k)) := blk_cell hw k (arrU_get _ _ _ hlt)
      have hz := blk_free hw k
      clear hw
      have hi0 : (0 : Int) ≤ (k : Int) := Int.natCast_nonneg _
      have hi1 : (k : Int) < 32 := by omega
      go_wp2_with fail
      have hgne : g ≠ w.heap.size := by omega
      go_region_held3 (fun w' => w'.cell? ⟨g, k, none⟩ = some (.int .u32 (f k)))
        (first
          | go_keep
          | exact hg1
          | exact (World.cell?_setCell_other _ _ _ _ (by intro e; injection e; omega)).trans hg1)
        (first | (go_at_call 28; refine (of_any g N f hf _ r0 r1 wr.drew htr HBr.out).mono ?_; rintro e w1 ⟨rfl, hD⟩; have hg1 := (hD.below.cell (p := ⟨g, k, none⟩) (by simp; omega)).trans hc; have ho1 := (hD.below.cell (p := ⟨w.heap.size, k, none⟩) (by simp; omega)).trans ho; have hz1 := (hD.below.frozen (p := ⟨w.heap.size, k, none⟩) (by simp; omega)).trans hz))
      have hBD : Below w.heap.size w w1 := hB.trans ((below_drewN (Below.refl _ _) 1).trans (hD.below.mono (by simp; omega)))
      have hW1 := blk_below hD.below (k := w.heap.size) (by simp; omega) (show wr.drew.heap[w.heap.size]? = _ from HW.out)
      have HW1 := Lib.hid hW1
      clear hW1 hc ho hz hg1 ho1 hz1
      go_wp2_with fail
      go_roundw
      case rel => exact ⟨k + 1, _, by omega, by go_num, blk_setU HW1.out _ _, hBD.setCell (by simp) _, upd_upto HF.out (map_twice hf k hlt)⟩
      case measure => simp [intOf]; omega
    · have HF2 : Map (N + N) h := fun i hi => HF.out i (by omega)
      clear hw
      go_wp2_with fail
      go_ret
      exact ⟨w.heap.size, h, rfl, Nat.le_refl _, HW.out, HF2, hB⟩

theorem wraps_i64 (n : Int) (h₀ : 0 ≤ n) (h₁ : n < 2 ^ 63) : IntKind.i64.wrap n = n := by rw [IntKind.wrap_i64]; omega
theorem and1_i64 (x : Int) (h0 : 0 ≤ x) (h1 : x < 9223372036854775808) : bits .and .i64 x 1 = x % 2 :=
  bits_mask .i64 63 (by decide) wraps_i64 1 (by decide) x h0 h1
theorem pw_rng (k : Nat) : 0 ≤ IntKind.u32.wrap (2 ^ k) ∧ IntKind.u32.wrap (2 ^ k) < 4294967296 := by rw [IntKind.wrap_u32]; omega
theorem u_pw (k : Nat) : u (IntKind.u32.wrap (2 ^ k)) = 1#32 <<< k := by
  rw [IntKind.wrap_u32]
  apply BitVec.eq_of_toNat_eq
  unfold u
  rw [BitVec.toNat_ofInt, BitVec.toNat_shiftLeft]
  have e : ((2 : Int) ^ k % 4294967296 % ((2 ^ 32 : Nat) : Int)) = ((2 ^ k % 2 ^ 32 : Nat) : Int) := by
    have e1 : ((2 : Int) ^ k) = ((2 ^ k : Nat) : Int) := by simp
    rw [e1]; omega
  rw [e, Int.toNat_natCast, Nat.shiftLeft_eq]
  have : (1#32).toNat = 1 := by decide
  rw [this, Nat.one_mul]
theorem map8 (k : Nat) : iu (stp (u (IntKind.u32.wrap (2 ^ k)))) = mapI 8 k := by rw [u_pw]; rfl
theorem powers (N : Nat) (q : Int) (hq : 0 ≤ q) (X y : BitVec 32) (h : sn (N * q.toNat) y = X) :
    (q % 2 = 1 → sn ((N + N) * (q / 2).toNat) (sn N y) = X) ∧ (q % 2 = 0 → sn ((N + N) * (q / 2).toNat) y = X) := by
  obtain ⟨a, rfl⟩ := Int.eq_ofNat_of_zero_le hq
  have e1 : ((a : Int) / 2).toNat = a / 2 := by omega
  rw [e1]
  rw [Int.toNat_natCast] at h
  have e3 : (N + N) * (a / 2) = N * (2 * (a / 2)) := by rw [← Nat.two_mul, Nat.mul_comm 2 N, Nat.mul_assoc]
  constructor
  · intro h2
    rw [← sn_add, ← h]
    congr 1
    have e2 : a = 2 * (a / 2) + 1 := by omega
    conv => rhs; rw [e2]
    rw [Nat.mul_add, Nat.mul_one, e3]
  · intro h2
    rw [← h]
    congr 1
    have e2 : a = 2 * (a / 2) := by omega
    conv => rhs; rw [e2]
    rw [e3]
set_option maxHeartbeats 1000000 in
theorem moved_any (x : Int) (h0 : 0 ≤ x) (h1 : x < 4294967296) (n : Int) (hn0 : 0 ≤ n) (hn1 : n < 9223372036854775808) (w : World) (ht : Tab w) :
    Calls Tryd.prog 22 #[.int .u32 x, .int .i64 n] w fun e w' => e = .returned (.int .u32 (iu (sn (8 * n.toNat) (u x)))) ∧ Below w.heap.size w w' := by
  go_enter Tryd.func22, Tryd.ntmps22
  go_wp2_with fail
  go_loopw [9] (fun i wr => ∃ (k : Nat) (h : Nat → Int), k ≤ 32 ∧ i = .int .i64 k ∧ wr.heap[w.heap.size]? = some (.cells (arrU 32 h) 44 (0, 0)) ∧ Below w.heap.size w wr ∧ Hid (∀ j, j < k → h j = mapI 8 j)) (fun i _ => 32 - (intOf i).toNat)
  case atStart => exact ⟨0, fun _ => 0, by omega, rfl, heap_alloc_new _ _, (Below.refl _ _).alloc (Nat.le_refl _) _, fun j hj => by omega⟩
  case round =>
    obtain ⟨k, h, hk, rfl, hw, hB, HF⟩ := hrel
    have HW := Lib.hid hw
    have hsz := lt_of_block hw
    by_cases hlt : k < 32
    · have ho : wr.cell? ⟨w.heap.size, k, none⟩ = some (.int .u32 (h k)) := blk_cell hw k (arrU_get _ _ _ hlt)
      have hz := blk_free hw k
      clear hw
      have hi0 : (0 : Int) ≤ (k : Int) := Int.natCast_nonneg _
      have hi1 : (k : Int) < 32 := by omega
      obtain ⟨p0, p1⟩ := pw_rng k
      go_wp2_with fail
      go_region_held3 (fun w' => True)
        (first
          | go_keep
          | trivial)
        (first | (go_at_call 23; refine (step_any _ p0 p1 _).mono ?_; rintro e w1 ⟨rfl, rfl⟩))
      clear ho hz
      go_wp2_with fail
      go_roundw
      case rel => exact ⟨k + 1, _, by omega, by go_num, blk_setU HW.out _ _, (show Below w.heap.size w wr.drew from hB.drew).setCell (by simp) _, upd_upto HF.out (map8 k)⟩
      case measure => simp [intOf]; omega
    · have HF2 : Map 8 h := fun i hi => HF.out i (by omega)
      clear hw
      go_wp2_with fail
      go_loopw [0, 1, 5] (fun c q m wq => ∃ (y z : Int) (g N : Nat) (f : Nat → Int), c = .int .u32 y ∧ q = .int .i64 z ∧ m = .pointer (some ⟨g, 0, none⟩) ∧ 0 ≤ y ∧ y < 4294967296 ∧ 0 ≤ z ∧ z < 9223372036854775808 ∧ w.heap.size ≤ g ∧ wq.heap[g]? = some (.cells (arrU 32 f) 44 (0, 0)) ∧ Map N f ∧ Below w.heap.size w wq ∧ Hid (sn (N * z.toNat) (u y) = sn (8 * n.toNat) (u x))) (fun _ q _ _ => (intOf q).toNat)
      case atStart => exact ⟨x, n, w.heap.size, 8, h, rfl, rfl, rfl, h0, h1, hn0, hn1, Nat.le_refl _, HW.out, HF2, hB, rfl⟩
      case round =>
        obtain ⟨y, z, g, N, f, rfl, rfl, rfl, hy0, hy1, hz0, hz1, hg, hbk, hf, hBq, HX⟩ := hrel
        have HBK := Lib.hid hbk
        clear hbk
        by_cases hz : 0 < z
        · have htq := ht.below hBq
          obtain ⟨P1, P2⟩ := powers N z hz0 _ _ HX.out
          by_cases hodd : z % 2 = 1
          · have hb : (bits .and .i64 z 1 == 1) = true := by rw [and1_i64 z hz0 hz1, hodd]; rfl
            have HP := Lib.hid (P1 hodd)
            clear P1 P2 hodd
            go_wp2_with (first | (go_at_call 28; refine (of_any g N f hf _ hy0 hy1 _ htq HBK.out).mono ?_; rintro e w2 ⟨rfl, hD⟩; have hDB := hD.below; have HB2 := Lib.hid (blk_below hDB (lt_of_block HBK.out) HBK.out)) | (go_at_call 29; refine (twice_any g N f hf _ (htq.below hDB) HB2.out).mono ?_; rintro e w3 ⟨g', f', rfl, hg', hb3, hf', hB3⟩))
            go_roundw
            case rel => exact ⟨_, z / 2, g', N + N, f', rfl, by go_num, rfl, iu_lo _, iu_hi _, by omega, by omega, by have := hDB.size; have := hBq.size; omega, hb3, hf', (hBq.trans (hDB.mono hBq.size)).trans (hB3.mono (by have := hDB.size; have := hBq.size; omega)), by unfold Hid; rw [u_iu]; exact HP.out⟩
            case measure => simp [intOf]; omega
          · have hb : (bits .and .i64 z 1 == 1) = false := by rw [and1_i64 z hz0 hz1]; simpa using hodd
            have HP := Lib.hid (P2 (by omega))
            clear P1 P2 hodd
            go_wp2_with (first | (go_at_call 29; refine (twice_any g N f hf _ htq HBK.out).mono ?_; rintro e w3 ⟨g', f', rfl, hg', hb3, hf', hB3⟩))
            go_roundw
            case rel => exact ⟨_, z / 2, g', N + N, f', rfl, by go_num, rfl, hy0, hy1, by omega, by omega, by have := hBq.size; omega, hb3, hf', hBq.trans (hB3.mono hBq.size), HP.out⟩
            case measure => simp [intOf]; omega
        · have hz' : z = 0 := by omega
          have HZ := Lib.hid hz'
          clear hz'
          go_wp2_with fail
          go_ret
          refine ⟨ret_int ?_, hBq⟩
          have := HX.out
          rw [HZ.out] at this
          rw [← this]
          simp [sn, iu_u y hy0 hy1]
def joinI (a b n : Int) : Int := if n < 0 then 0 else bits .xor .u32 (iu (sn (8 * n.toNat) (u a))) b
def zerosI (s n : Int) : Int := if n < 0 then 0 else bits .xor .u32 (iu (sn (8 * n.toNat) (u (bits .xor .u32 s 4294967295)))) 4294967295
theorem joinI_rng (a b n : Int) : 0 ≤ joinI a b n ∧ joinI a b n < 4294967296 := by
  unfold joinI; split
  · omega
  · rw [bits_xor]; exact ⟨iu_lo _, iu_hi _⟩
theorem zerosI_rng (a n : Int) : 0 ≤ zerosI a n ∧ zerosI a n < 4294967296 := by
  unfold zerosI; split
  · omega
  · rw [bits_xor]; exact ⟨iu_lo _, iu_hi _⟩
set_option maxHeartbeats 400000 in
theorem join_any (a b n : Int) (h0 : 0 ≤ a) (h1 : a < 4294967296) (hn : n < 9223372036854775808) (w : World) (ht : Tab w) :
    Calls Tryd.prog 9 #[.int .u32 a, .int .u32 b, .int .i64 n] w fun e w' => e = .returned (.int .u32 (joinI a b n)) ∧ Below w.heap.size w w' := by
  by_cases h : n < 0
  · have hj : joinI a b n = 0 := by unfold joinI; rw [if_pos h]
    have HJ := Lib.hid hj
    clear hj
    go_enter Tryd.func9, Tryd.ntmps9
    go_wp2_with fail
    go_ret
    exact ⟨ret_int HJ.out.symm, Below.refl _ _⟩
  · have hj : joinI a b n = bits .xor .u32 (iu (sn (8 * n.toNat) (u a))) b := by unfold joinI; rw [if_neg h]
    have HJ := Lib.hid hj
    clear hj
    go_enter Tryd.func9, Tryd.ntmps9
    go_wp2_with (go_at_call 22; refine (moved_any a h0 h1 n (by omega) hn _ ht).mono ?_; rintro e w1 ⟨rfl, hB⟩)
    go_ret
    exact ⟨ret_int HJ.out.symm, hB⟩
set_option maxHeartbeats 400000 in
theorem zeros_any (a n : Int) (h0 : 0 ≤ a) (h1 : a < 4294967296) (hn : n < 9223372036854775808) (w : World) (ht : Tab w) :
    Calls Tryd.prog 11 #[.int .u32 a, .int .i64 n] w fun e w' => e = .returned (.int .u32 (zerosI a n)) ∧ Below w.heap.size w w' := by
  by_cases h : n < 0
  · have hj : zerosI a n = 0 := by unfold zerosI; rw [if_pos h]
    have HJ := Lib.hid hj
    clear hj
    go_enter Tryd.func11, Tryd.ntmps11
    go_wp2_with fail
    go_ret
    exact ⟨ret_int HJ.out.symm, Below.refl _ _⟩
  · have hj : zerosI a n = bits .xor .u32 (iu (sn (8 * n.toNat) (u (bits .xor .u32 a 4294967295)))) 4294967295 := by unfold zerosI; rw [if_neg h]
    have HJ := Lib.hid hj
    clear hj
    have b0 : 0 ≤ bits .xor .u32 a 4294967295 := by rw [bits_xor]; exact iu_lo _
    have b1 : bits .xor .u32 a 4294967295 < 4294967296 := by rw [bits_xor]; exact iu_hi _
    go_enter Tryd.func11, Tryd.ntmps11
    go_wp2_with (go_at_call 22; refine (moved_any _ b0 b1 n (by omega) hn _ ht).mono ?_; rintro e w1 ⟨rfl, hB⟩)
    go_ret
    exact ⟨ret_int HJ.out.symm, hB⟩
theorem div_rng (x : Int) (h0 : 0 ≤ x) (h1 : x < 4294967296) (k : Nat) : 0 ≤ x / 2 ^ k ∧ x / 2 ^ k < 4294967296 := by
  obtain ⟨a, rfl⟩ := Int.eq_ofNat_of_zero_le h0
  have e : ((a : Int) / 2 ^ k) = ((a / 2 ^ k : Nat) : Int) := by simp
  rw [e]
  have := Nat.div_le_self a (2 ^ k)
  generalize a / 2 ^ k = q at *
  omega
theorem bit_at (x : Int) (h0 : 0 ≤ x) (h1 : x < 4294967296) (k : Nat) (hk : k < 32) : (bits .and .u32 (x / 2 ^ k) 1 == 1) = (u x).getLsbD k := by
  obtain ⟨d0, d1⟩ := div_rng x h0 h1 k
  rw [u_and1 _ d0 d1, u_half x h0 h1 k, BitVec.getLsbD_ushiftRight]
  rfl
set_option maxHeartbeats 400000 in
theorem do_any (N : Nat) (f : Nat → Int) (hf : Map N f) (x : Int) (h0 : 0 ≤ x) (h1 : x < 4294967296) (w : World) :
    Calls Tryd.prog 30 #[.agg (arrU 32 f), .int .u32 x] w fun e w' => e = .returned (.int .u32 (iu (sn N (u x)))) ∧ Below w.heap.size w w' := by
  go_enter Tryd.func30, Tryd.ntmps30
  go_wp2_with fail
  have hblk := heap_alloc_new w (.cells (arrU 32 f) 46)
  have HB := Lib.hid hblk
  clear hblk
  go_loop [5, 6] (fun o i => ∃ (k : Nat) (z : Int), k ≤ 32 ∧ i = .int .i64 k ∧ o = .int .u32 z ∧ 0 ≤ z ∧ z < 4294967296 ∧ Hid (u z = sn N (lowb (u x) k))) (fun _ i => 32 - (intOf i).toNat)
  case atStart => exact ⟨0, 0, by omega, rfl, rfl, by omega, by omega, by unfold Hid; rw [lowb_zero, sn_zero, u_zero]⟩
  case round =>
    obtain ⟨k, z, hk, rfl, rfl, hz0, hz1, HX⟩ := hrel
    by_cases hlt : k < 32
    · have hi1 : (k : Int) < 32 := by omega
      have hi0 : (0 : Int) ≤ (k : Int) := Int.natCast_nonneg _
      cases hb : (u x).getLsbD k with
      | true =>
        have hbb := bit_at x h0 h1 k hlt
        rw [hb] at hbb
        have HN : Hid (u (bits .xor .u32 z (f k)) = sn N (lowb (u x) (k + 1))) := by
          unfold Hid
          rw [bits_xor, u_iu, HX.out, lowb_yes _ k hlt hb, sn_xor, hf k hlt, u_iu]
        clear hb
        have hc : (arrU 32 f)[k]? = some (.int .u32 (f k)) := arrU_get _ _ _ hlt
        go_wp2_with fail
        go_round
        case rel => exact ⟨k + 1, _, by omega, by go_num, rfl, by rw [bits_xor]; exact iu_lo _, by rw [bits_xor]; exact iu_hi _, HN.out⟩
        case measure => simp [intOf]; omega
      | false =>
        have hbb := bit_at x h0 h1 k hlt
        rw [hb] at hbb
        have HN : Hid (u z = sn N (lowb (u x) (k + 1))) := by
          unfold Hid
          rw [HX.out, lowb_no _ k hlt hb]
        clear hb
        go_wp2_with fail
        go_round
        case rel => exact ⟨k + 1, _, by omega, by go_num, rfl, hz0, hz1, HN.out⟩
        case measure => simp [intOf]; omega
    · have hk8 : k = 32 := by omega
      have HK := Lib.hid hk8
      clear hk8
      go_wp2_with fail
      go_ret
      refine ⟨ret_int ?_, below_alloc1 w _⟩
      have := HX.out
      rw [HK.out, lowb_all] at this
      rw [← this, iu_u z hz0 hz1]
end Go.Proofs.YthggicgbcgeggaaDoor
