/- Walks (as at the other seat): crc.step, crc.table, crc.More and crc.Sum compute CRC-32C of the bytes that are read; the world grows alone. -/
import Derived.Deep.WholeRow
import Derived.Test.YthggicgbcgeggaaProg
import Derived.Test.YthggicgbcgeggaaVK
import Derived.Test.YthggicgbcgeggaaV2
import Derived.Deep.RegionHeld3
import Derived.Deep.LoopGhost
import Derived.WalkKit
import Derived.WalkSpells
import Derived.Lib.Hide
import Derived.WalkLawsBesides
import Derived.Laws.Tables
set_option linter.unusedVariables false
set_option linter.unusedSimpArgs false
namespace Go.Proofs.Ythggicgbcgeggaa.K
open Go.RowKit

theorem u_and1 (x : Int) (h0 : 0 ≤ x) (h1 : x < 4294967296) : (bits .and .u32 x 1 == 1) = (u x).getLsbD 0 := by
  rw [bits_and]
  have : u 1 = 1#32 := by decide
  rw [this]
  cases h : (u x).getLsbD 0 with
  | true =>
    have : u x &&& 1#32 = 1#32 := by
      apply BitVec.eq_of_getLsbD_eq
      intro i hi
      rw [BitVec.getLsbD_and]
      have h2 := one_bit 0 i hi
      rw [show 1#32 <<< 0 = 1#32 by decide] at h2
      rw [h2]
      by_cases hz : i = 0
      · subst hz; simp [h]
      · simp [hz]
    rw [this]; decide
  | false =>
    have : u x &&& 1#32 = 0#32 := by
      apply BitVec.eq_of_getLsbD_eq
      intro i hi
      rw [BitVec.getLsbD_and]
      have h2 := one_bit 0 i hi
      rw [show 1#32 <<< 0 = 1#32 by decide] at h2
      rw [h2]
      by_cases hz : i = 0
      · subst hz; rw [h]; simp
      · simp [hz]
    rw [this]; decide
theorem sb_odd (x : Int) (h0 : 0 ≤ x) (h1 : x < 4294967296) (h : (bits .and .u32 x 1 == 1) = true) : bits .xor .u32 (x / 2) 2197175160 = iu (sb (u x)) := by
  rw [u_and1 x h0 h1] at h
  rw [bits_xor]
  unfold sb
  rw [if_pos h]
  have := u_half x h0 h1 1
  simp only [Int.pow_succ, Int.pow_zero, Int.one_mul] at this
  rw [this]
  rfl
theorem sb_even (x : Int) (h0 : 0 ≤ x) (h1 : x < 4294967296) (h : (bits .and .u32 x 1 == 1) = false) : x / 2 = iu (sb (u x)) := by
  rw [u_and1 x h0 h1] at h
  unfold sb
  rw [if_neg (by rw [h]; decide)]
  have := u_half x h0 h1 1
  simp only [Int.pow_succ, Int.pow_zero, Int.one_mul] at this
  rw [BitVec.xor_zero, ← this, iu_u _ (by omega) (by omega)]

set_option maxHeartbeats 400000 in
theorem step_any (x : Int) (h0 : 0 ≤ x) (h1 : x < 4294967296) (w : World) :
    Calls Try.prog 126 #[.int .u32 x] w fun e w' => e = .returned (.int .u32 (iu (stp (u x)))) ∧ w = w' := by
  go_enter Try.func126, Try.ntmps126
  go_wp2
  go_loop [0, 3, 4] (fun c' _ i => ∃ (k : Nat) (y : Int), k ≤ 8 ∧ i = .int .i64 k ∧ c' = .int .u32 y ∧ 0 ≤ y ∧ y < 4294967296 ∧ Hid (y = iu (sn k (u x)))) (fun _ _ i => 8 - (intOf i).toNat)
  case atStart => exact ⟨0, x, by omega, rfl, rfl, h0, h1, (iu_u x h0 h1).symm⟩
  case round =>
    obtain ⟨k, y, hk, rfl, rfl, hy0, hy1, HX⟩ := hrel
    by_cases hlt : k < 8
    · cases hb : (bits .and .u32 y 1 == 1)
      · have HE := Lib.hid (sb_even y hy0 hy1 hb)
        go_wp2
        go_round
        case rel => exact ⟨k + 1, _, by omega, by go_num, rfl, by omega, by omega, by unfold Hid; rw [HE.out, HX.out, u_iu]; rfl⟩
        case measure => simp [intOf]; omega
      · have HE := Lib.hid (sb_odd y hy0 hy1 hb)
        go_wp2
        go_round
        case rel => exact ⟨k + 1, _, by omega, by go_num, rfl, by rw [HE.out]; exact iu_lo _, by rw [HE.out]; exact iu_hi _, by unfold Hid; rw [HE.out, HX.out, u_iu]; rfl⟩
        case measure => simp [intOf]; omega
    · have hk8 : k = 8 := by omega
      have HK := Lib.hid hk8
      clear hk8
      go_wp2
      go_ret
      exact ⟨ret_int (by rw [HX.out, HK.out]; rfl), rfl⟩
theorem zero160 : ∀ W, (zeroValue 160).run Try.prog W = .ok (.agg (arrU 256 fun _ => 0)) W := fun W => by kernel_rfl
theorem size160 : (Try.prog.info? 160).map (·.size) = some 256 := by kernel_rfl
def tabf (i : Nat) : Int := iu (stp (u i))
set_option maxRecDepth 20000 in
set_option maxHeartbeats 400000 in
theorem table_any (w : World) :
    Calls Try.prog 127 #[] w fun e w' => e = .returned (.agg (arrU 256 tabf)) ∧ Below w.heap.size w w' := by
  have hz := zero160
  go_enter Try.func127, Try.ntmps127
  go_wp2_with fail
  clear hz
  go_loopw [3] (fun i wr => ∃ (k : Nat) (f : Nat → Int), k ≤ 256 ∧ i = .int .i64 k ∧ wr.heap[w.heap.size + 1]? = some (.cells (arrU 256 f) 160 (0, 0)) ∧ wr.heap[w.heap.size]? = some (.cells (arrU 256 fun _ => 0) 160 (0, 0)) ∧ Below w.heap.size w wr ∧ Hid (∀ j, j < k → f j = tabf j)) (fun i _ => 256 - (intOf i).toNat)
  case atStart => exact ⟨0, fun _ => 0, by omega, rfl, heap_alloc2_new _ _ _, heap_alloc2_old _ _ _, ((Below.refl _ _).alloc (Nat.le_refl _) _).alloc (by simp) _, fun j hj => by omega⟩
  case round =>
    obtain ⟨k, f, hk, rfl, hb1, hb0, hB, HF⟩ := hrel
    have HB1 := Lib.hid hb1; have HB0 := Lib.hid hb0; have HB := Lib.hid hB
    by_cases hlt : k < 256
    · have hc := blk_cell hb1 k (arrU_get 256 f k hlt)
      have hf := blk_free hb1 k
      clear hb1 hb0 hB
      go_wp2_with (go_at_call 126; refine (step_any _ (by omega) (by omega) _).mono ?_; rintro e w' ⟨rfl, rfl⟩)
      go_roundw
      case rel =>
        exact ⟨k + 1, _, by omega, by go_num, blk_setU HB1.out _ _, blk_set_ne HB0.out _ _ (by omega), HB.out.setCell (by simp) _, upd_upto HF.out rfl⟩
      case measure => simp [intOf]; omega
    · have hk8 : k = 256 := by omega
      have HK := Lib.hid hk8
      clear hk8 hb1 hb0 hB
      go_wp2_with (first | (refine wpList_load_row rfl 160 _ rfl _ rfl 160 _ _ _ HB1.out Try.underlying160 rfl (by rw [size160, arrU_size]) ?_) | (refine wpList_store_row rfl 160 _ _ rfl _ (arrU 256 f) rfl rfl 160 _ HB0.out (by rw [size160, arrU_size]) (by rw [arrU_size, arrU_size]) (arrU_one _ _) ?_))
      have hG := setRow_heap wr w.heap.size _ (arrU 256 f) 160 _ HB0.out
      refine bodyPost_ret (results_cell_row rfl _ _ w.heap.size 160 _ _ _ rfl hG Try.underlying160 rfl (by rw [size160, arrU_size])) rfl ⟨?_, ?_⟩
      · rw [arrU_congr 256 f tabf (fun i hi => HF.out i (by rw [HK.out]; exact hi))]
      · exact HB.out.trans ⟨rfl, rfl, rfl, by simp, fun k hk => setRow_other wr _ _ _ (by omega)⟩

theorem run_step (s : BitVec 32) (l : List Int) (k : Nat) (x : Int) (hx : x = iu (run s (l.take k))) (hk : k < l.length) : iu (stp (u (bits .xor .u32 x (nth l k)))) = iu (run s (l.take (k + 1))) := by
  rw [take_snocI l k hk, run_snoc, bits_xor, u_iu, hx, u_iu]
theorem arrU_size2 (n : Nat) (f g : Nat → Int) : (arrU n f).size = (arrU n g).size := by rw [arrU_size, arrU_size]
theorem size160' (f : Nat → Int) : (Try.prog.info? 160).map (·.size) = some (arrU 256 f).size := by rw [size160, arrU_size]
theorem bits8_xor (a b : Nat) (ha : a < 256) (hb : b < 256) : bits .xor .u8 (a : Int) (b : Int) = ((a ^^^ b : Nat) : Int) := by
  have h5 : (a ^^^ b) < 2 ^ 8 := Nat.xor_lt_two_pow (by omega) (by omega)
  show IntKind.u8.wrap (((BitVec.ofInt 8 (a : Int) ^^^ BitVec.ofInt 8 (b : Int) : BitVec 8).toNat : Nat) : Int) = _
  rw [BitVec.toNat_xor, BitVec.ofInt_natCast, BitVec.ofInt_natCast, BitVec.toNat_ofNat, BitVec.toNat_ofNat, Nat.mod_eq_of_lt (by omega), Nat.mod_eq_of_lt (by omega), IntKind.wrap_u8]
  omega
theorem u_nat (a : Nat) (h : a < 4294967296) : (u (a : Int)).toNat = a := by
  unfold u
  rw [BitVec.ofInt_natCast, BitVec.toNat_ofNat, Nat.mod_eq_of_lt (by omega)]
theorem u_xor (a b : Nat) (ha : a < 256) (hb : b < 256) : u ((a ^^^ b : Nat) : Int) = u (a : Int) ^^^ u (b : Int) := by
  have h5 : (a ^^^ b) < 2 ^ 8 := Nat.xor_lt_two_pow (by omega) (by omega)
  apply BitVec.eq_of_toNat_eq
  rw [BitVec.toNat_xor, u_nat _ (by omega), u_nat _ (by omega), u_nat _ (by omega)]
theorem tab_step (x y : Int) (h0 : 0 ≤ x) (h1 : x < 4294967296) (hy0 : 0 ≤ y) (hy1 : y ≤ 255) :
    0 ≤ bits .xor .u8 (x % 256) y ∧ bits .xor .u8 (x % 256) y < 256 ∧ bits .xor .u32 (tabf (bits .xor .u8 (x % 256) y).toNat) (x / 256) = iu (stp (u (bits .xor .u32 x y))) := by
  obtain ⟨a, rfl⟩ := Int.eq_ofNat_of_zero_le h0
  obtain ⟨b, rfl⟩ := Int.eq_ofNat_of_zero_le hy0
  have e : bits .xor .u8 ((a : Int) % 256) (b : Int) = ((a % 256 ^^^ b : Nat) : Int) := by
    have h2 : ((a : Int) % 256) = ((a % 256 : Nat) : Int) := by omega
    rw [h2, bits8_xor _ _ (by omega) (by omega)]
  have h5 : (a % 256 ^^^ b) < 2 ^ 8 := Nat.xor_lt_two_pow (by omega) (by omega)
  rw [e]
  refine ⟨by omega, by omega, ?_⟩
  rw [Int.toNat_natCast]
  unfold tabf
  rw [bits_xor, u_iu, bits_xor, u_iu, ← table_way]
  have h6 := u_half (a : Int) h0 h1 8
  have h7 : (2 : Int) ^ 8 = 256 := by decide
  rw [h7] at h6
  rw [h6]
  congr 3
  rw [u_xor _ _ (by omega) (by omega)]
  congr 1
  apply BitVec.eq_of_toNat_eq
  rw [BitVec.toNat_and, u_nat _ (by omega), u_nat _ (by omega)]
  have : (255#32).toNat = 2 ^ 8 - 1 := by decide
  rw [this, Nat.and_two_pow_sub_one_eq_mod]

set_option maxRecDepth 20000 in
set_option maxHeartbeats 400000 in
theorem more_any (s : Int) (h0 : 0 ≤ s) (h1 : s < 4294967296) (A : Option Addr) (n c : Nat) (l : List Int) (w : World) (hl : RB w A n l) :
    Calls Try.prog 120 #[.int .u32 s, .slice A n c] w fun e w' => e = .returned (.int .u32 (iu (more (u s) l))) ∧ Below w.heap.size w w' := by
  have htop := hl.top
  by_cases hn : n < 32
  · have hd : decide ((n : Int) < 32) = true := by simp; omega
    go_enter Try.func120, Try.ntmps120
    go_wp2_with fail
    go_loop [5, 18] (fun c i => ∃ (k : Nat) (x : Int), k ≤ n ∧ i = .int .i64 k ∧ c = .int .u32 x ∧ 0 ≤ x ∧ x < 4294967296 ∧ Hid (x = iu (run (u s ^^^ 0xffffffff#32) (l.take k)))) (fun _ i => n - (intOf i).toNat)
    case atStart => exact ⟨0, _, by omega, rfl, rfl, by rw [bits_xor]; exact iu_lo _, by rw [bits_xor]; exact iu_hi _, by rw [bits_xor]; rfl⟩
    case round =>
      obtain ⟨k, x, hk, rfl, rfl, hx0, hx1, HX⟩ := hrel
      by_cases hlt : k < n
      · obtain ⟨ad, rfl, hc⟩ := hl.cell k hlt
        obtain ⟨r0, r1⟩ := hl.rng k
        have hb0 : 0 ≤ bits .xor .u32 x (nth l k) := by rw [bits_xor]; exact iu_lo _
        have hb1 : bits .xor .u32 x (nth l k) < 4294967296 := by rw [bits_xor]; exact iu_hi _
        go_wp2_with (go_at_call 126; refine (step_any _ hb0 hb1 _).mono ?_; rintro e w' ⟨rfl, rfl⟩)
        go_round
        case rel => exact ⟨k + 1, _, by omega, by go_num, rfl, iu_lo _, iu_hi _, run_step _ l k x HX.out (by rw [hl.len]; exact hlt)⟩
        case measure => simp [intOf]; omega
      · have hkn : l.take k = l := List.take_of_length_le (by rw [hl.len]; omega)
        rw [hkn] at HX
        clear hkn hl
        go_wp2_with fail
        go_ret
        exact ⟨ret_int (by rw [HX.out, bits_xor, u_iu]; rfl), Below.refl _ _⟩
  · have hd : decide ((n : Int) < 32) = false := by simp; omega
    have hz := zero160
    go_enter Try.func120, Try.ntmps120
    go_wp2_with (first | (go_at_call 127; refine (table_any _).mono ?_; rintro e w1 ⟨rfl, hB⟩) | (refine wpList_store_row rfl 160 _ _ rfl _ (arrU 256 tabf) rfl rfl 160 (arrU 256 fun _ => 0) (heap_alloc_new _ _) (size160' _) (arrU_size2 _ _ _) (arrU_one _ _) ?_; rw [World.setRow_alloc_new]))
    clear hz
    have hl1 := (hl.below hB).below (below_alloc1 w1 (.cells (arrU 256 tabf) 160))
    go_loop [5, 33] (fun c i => ∃ (k : Nat) (x : Int), k ≤ n ∧ i = .int .i64 k ∧ c = .int .u32 x ∧ 0 ≤ x ∧ x < 4294967296 ∧ Hid (x = iu (run (u s ^^^ 0xffffffff#32) (l.take k)))) (fun _ i => n - (intOf i).toNat)
    case atStart => exact ⟨0, _, by omega, rfl, rfl, by rw [bits_xor]; exact iu_lo _, by rw [bits_xor]; exact iu_hi _, by rw [bits_xor]; rfl⟩
    case round =>
      obtain ⟨k, x, hk, rfl, rfl, hx0, hx1, HX⟩ := hrel
      by_cases hlt : k < n
      · obtain ⟨ad, rfl, hc⟩ := hl1.cell k hlt
        obtain ⟨r0, r1⟩ := hl.rng k
        obtain ⟨t0, t1, t2⟩ := tab_step x (nth l k) hx0 hx1 r0 r1
        have T2 := Lib.hid t2
        have hg : (arrU 256 tabf)[(bits .xor .u8 (x % 256) (nth l k)).toNat]? = some (.int .u32 (tabf (bits .xor .u8 (x % 256) (nth l k)).toNat)) := arrU_get _ _ _ (by omega)
        clear t2
        go_wp2_with fail
        go_round
        case rel => exact ⟨k + 1, _, by omega, by go_num, rfl, by rw [T2.out]; exact iu_lo _, by rw [T2.out]; exact iu_hi _, by unfold Hid; rw [T2.out]; exact run_step _ l k x HX.out (by rw [hl.len]; exact hlt)⟩
        case measure => simp [intOf]; omega
      · have hkn : l.take k = l := List.take_of_length_le (by rw [hl.len]; omega)
        rw [hkn] at HX
        clear hkn hl
        go_wp2_with fail
        go_ret
        exact ⟨ret_int (by rw [HX.out, bits_xor, u_iu]; rfl), hB.alloc hB.size _⟩
theorem u_zero : u 0 = 0#32 := by decide
set_option maxHeartbeats 400000 in
theorem sum_any (A : Option Addr) (n c : Nat) (l : List Int) (w : World) (hl : RB w A n l) :
    Calls Try.prog 104 #[.slice A n c] w fun e w' => e = .returned (.int .u32 (iu (more 0#32 l))) ∧ Below w.heap.size w w' := by
  go_enter Try.func104, Try.ntmps104
  go_wp2_with (go_at_call 120; refine (more_any 0 (by omega) (by omega) A n c l _ hl).mono ?_; rintro e w1 ⟨rfl, hB⟩)
  go_ret
  exact ⟨rfl, hB⟩
theorem sb_rem1 (x : Int) (h0 : 0 ≤ x) (h1 : x < 4294967296) (h : x % 2 = 1) : bits .xor .u32 (x / 2) 2197175160 = iu (sb (u x)) := by
  refine sb_odd x h0 h1 ?_
  rw [u_and1 x h0 h1]
  obtain ⟨a, rfl⟩ := Int.eq_ofNat_of_zero_le h0
  rw [← BitVec.testBit_toNat, u_nat a (by omega), Nat.testBit_zero]
  simp; omega
theorem sb_rem0 (x : Int) (h0 : 0 ≤ x) (h1 : x < 4294967296) (h : ¬ x % 2 = 1) : x / 2 = iu (sb (u x)) := by
  refine sb_even x h0 h1 ?_
  rw [u_and1 x h0 h1]
  obtain ⟨a, rfl⟩ := Int.eq_ofNat_of_zero_le h0
  rw [← BitVec.testBit_toNat, u_nat a (by omega), Nat.testBit_zero]
  simp; omega
set_option maxHeartbeats 400000 in
theorem rstep_any (x : Int) (h0 : 0 ≤ x) (h1 : x < 4294967296) (w : World) :
    Calls Try.prog 128 #[.int .u32 x] w fun e w' => e = .returned (.int .u32 (iu (stp (u x)))) ∧ w = w' := by
  go_enter Try.func128, Try.ntmps128
  go_wp2
  go_loop [0, 3] (fun c' i => ∃ (k : Nat) (y : Int), k ≤ 8 ∧ i = .int .i64 k ∧ c' = .int .u32 y ∧ 0 ≤ y ∧ y < 4294967296 ∧ Hid (y = iu (sn k (u x)))) (fun _ i => 8 - (intOf i).toNat)
  case atStart => exact ⟨0, x, by omega, rfl, rfl, h0, h1, (iu_u x h0 h1).symm⟩
  case round =>
    obtain ⟨k, y, hk, rfl, rfl, hy0, hy1, HX⟩ := hrel
    by_cases hlt : k < 8
    · by_cases hb : y % 2 = 1
      · have HE := Lib.hid (sb_rem1 y hy0 hy1 hb)
        have hb2 : (y % 2 == 1) = true := by rw [hb]; rfl
        clear hb
        go_wp2
        go_round
        case rel => exact ⟨k + 1, _, by omega, by go_num, rfl, by rw [HE.out]; exact iu_lo _, by rw [HE.out]; exact iu_hi _, by unfold Hid; rw [HE.out, HX.out, u_iu]; rfl⟩
        case measure => simp [intOf]; omega
      · have HE := Lib.hid (sb_rem0 y hy0 hy1 hb)
        have hb2 : (y % 2 == 1) = false := by simpa using hb
        clear hb
        go_wp2
        go_round
        case rel => exact ⟨k + 1, _, by omega, by go_num, rfl, by omega, by omega, by unfold Hid; rw [HE.out, HX.out, u_iu]; rfl⟩
        case measure => simp [intOf]; omega
    · have hk8 : k = 8 := by omega
      have HK := Lib.hid hk8
      clear hk8
      go_wp2
      go_ret
      exact ⟨ret_int (by rw [HX.out, HK.out]; rfl), rfl⟩
set_option maxRecDepth 20000 in
set_option maxHeartbeats 400000 in
theorem rmore_any (s : Int) (h0 : 0 ≤ s) (h1 : s < 4294967296) (A : Option Addr) (n c : Nat) (l : List Int) (w : World) (hl : RB w A n l) :
    Calls Try.prog 121 #[.int .u32 s, .slice A n c] w fun e w' => e = .returned (.int .u32 (iu (more (u s) l))) ∧ w = w' := by
  have htop := hl.top
  go_enter Try.func121, Try.ntmps121
  go_wp2_with fail
  go_loop [5, 6] (fun c i => ∃ (k : Nat) (x : Int), k ≤ n ∧ i = .int .i64 k ∧ c = .int .u32 x ∧ 0 ≤ x ∧ x < 4294967296 ∧ Hid (x = iu (run (u s ^^^ 0xffffffff#32) (l.take k)))) (fun _ i => n - (intOf i).toNat)
  case atStart => exact ⟨0, _, by omega, rfl, rfl, by rw [bits_xor]; exact iu_lo _, by rw [bits_xor]; exact iu_hi _, by rw [bits_xor]; rfl⟩
  case round =>
    obtain ⟨k, x, hk, rfl, rfl, hx0, hx1, HX⟩ := hrel
    by_cases hlt : k < n
    · obtain ⟨ad, rfl, hc⟩ := hl.cell k hlt
      obtain ⟨r0, r1⟩ := hl.rng k
      have hb0 : 0 ≤ bits .xor .u32 x (nth l k) := by rw [bits_xor]; exact iu_lo _
      have hb1 : bits .xor .u32 x (nth l k) < 4294967296 := by rw [bits_xor]; exact iu_hi _
      go_wp2_with (go_at_call 128; refine (rstep_any _ hb0 hb1 _).mono ?_; rintro e w' ⟨rfl, rfl⟩)
      go_round
      case rel => exact ⟨k + 1, _, by omega, by go_num, rfl, iu_lo _, iu_hi _, run_step _ l k x HX.out (by rw [hl.len]; exact hlt)⟩
      case measure => simp [intOf]; omega
    · have hkn : l.take k = l := List.take_of_length_le (by rw [hl.len]; omega)
      rw [hkn] at HX
      clear hkn hl
      go_wp2_with fail
      go_ret
      exact ⟨ret_int (by rw [HX.out, bits_xor, u_iu]; rfl), rfl⟩
set_option maxHeartbeats 400000 in
theorem rsum_any (A : Option Addr) (n c : Nat) (l : List Int) (w : World) (hl : RB w A n l) :
    Calls Try.prog 105 #[.slice A n c] w fun e w' => e = .returned (.int .u32 (iu (more 0#32 l))) ∧ w = w' := by
  go_enter Try.func105, Try.ntmps105
  go_wp2_with (go_at_call 121; refine (rmore_any 0 (by omega) (by omega) A n c l _ hl).mono ?_; rintro e w1 ⟨rfl, rfl⟩)
  go_ret
  exact ⟨rfl, rfl⟩

end Go.Proofs.Ythggicgbcgeggaa.K
