/- Walks: flumelaw2.CrcZeros and CrcNear return true for any input. -/
import Derived.StillTailTactics
import Derived.Deep.CutRange
import Derived.Deep.DeepCutAuto
import Derived.Test.YthggicgbcgeggaaDoorW4
import Derived.Deep.RegionHeld3
import Derived.BigRegion
import Derived.Deep.OwnRows
set_option linter.unusedVariables false
set_option linter.unusedSimpArgs false
namespace Go.Proofs.YthggicgbcgeggaaDoor
open Go.RowKit
theorem zerosI_pos (s : Int) (n : Nat) : zerosI s n = iu (sn (8 * n) (u s ^^^ 0xffffffff#32) ^^^ 0xffffffff#32) := by
  have e : u 4294967295 = 0xffffffff#32 := by decide
  unfold zerosI; rw [if_neg (by omega), Int.toNat_natCast, bits_xor, u_iu, bits_xor, u_iu, e]
theorem zeros_zeros (s : Int) (n m : Nat) : zerosI (zerosI s n) m = zerosI s ((n : Int) + m) := by
  have e : ((n : Int) + m) = ((n + m : Nat) : Int) := by omega
  rw [e, zerosI_pos, zerosI_pos, zerosI_pos, u_iu]
  rw [BitVec.xor_assoc, BitVec.xor_self, BitVec.xor_zero, ← sn_add]
  congr 3
  omega
theorem zeros_more (s : Int) (n : Nat) : zerosI s n = iu (more (u s) (List.replicate n 0)) := by
  rw [zerosI_pos]; unfold more; rw [run_zeros]
theorem by_zeros (n : Nat) : BY (List.replicate n 0) := by intro x hx; obtain ⟨_, rfl⟩ := List.mem_replicate.1 hx; omega
theorem made_bys (n : Nat) : madeCells #[Value.int .u8 0] n = (bys (List.replicate n 0)).toArray := by
  apply Array.ext'
  rw [toList_madeCells_one]
  simp [bys]
theorem make22 (m : Nat) (hn : m ≤ 281474976710656) :
    ∀ W : World, (Instr.makeSlice 22 (.int .i64 (m : Int)) (.int .i64 (m : Int))).run Tryd.prog W = .ok (.slice (some ⟨W.heap.size, 0, none⟩) m m) (W.alloc (.cells (bys (List.replicate m 0)).toArray 5)) := by
  intro W
  rw [← made_bys]
  exact run_make_row' 22 5 (.int .u8 0) 1 Tryd.underlying22 info5 rfl .i64 .i64 m (by omega) (by omega) W
theorem RB_zeros {w : World} {g : Nat} {t : TypeId} (m : Nat) (hm : m ≤ 140737488355328) (h : w.heap[g]? = some (.cells (bys (List.replicate m 0)).toArray t (0, 0))) : RB w (some ⟨g, 0, none⟩) m (List.replicate m 0) := by
  have := RB_lit h (by_zeros m) (by simpa using hm)
  rwa [List.length_replicate] at this
theorem RB_new (w : World) (t : TypeId) (m : Nat) (hm : m ≤ 140737488355328) : RB (w.alloc (.cells (bys (List.replicate m 0)).toArray t)) (some ⟨w.heap.size, 0, none⟩) m (List.replicate m 0) := RB_zeros m hm (heap_alloc_new w _)
theorem RB_newD (w : World) (t : TypeId) (m : Nat) (hm : m ≤ 140737488355328) : RB ((w.alloc (.cells (bys (List.replicate m 0)).toArray t)).drew) (some ⟨w.heap.size, 0, none⟩) m (List.replicate m 0) := RB_zeros m hm (heap_alloc_new w _)
theorem below_step {w a b : World} (h : Below w.heap.size w a) (k : Below a.heap.size a b) : Below w.heap.size w b := h.trans (k.mono h.size)
set_option maxRecDepth 20000 in
set_option maxHeartbeats 1000000 in
theorem zeros_law (s n m : Int) (w : World) (ht : Tab w) (h0 : 0 ≤ s) (h1 : s < 4294967296) (hn0 : -9223372036854775808 ≤ n) (hn1 : n ≤ 9223372036854775807) (hm0 : -9223372036854775808 ≤ m) (hm1 : m ≤ 9223372036854775807) :
    Calls Tryd.prog 5 #[.int .u32 s, .int .i64 n, .int .i64 m] w fun e w' => e = .returned (.bool true) ∧ Below w.heap.size w w' := by
  by_cases c1 : n < 0
  · have d1 : decide (n < 0) = true := by simpa using c1
    go_enter Tryd.func5, Tryd.ntmps5
    go_wp2_with (go_at_call 7; refine (begun_any _ ht).mono ?_; rintro e w1 ⟨rfl, hw⟩)
    go_ret
    exact ⟨rfl, hw⟩
  by_cases c2 : m < 0
  · have d1 : decide (n < 0) = false := by simpa using c1
    have d2 : decide (m < 0) = true := by simpa using c2
    go_enter Tryd.func5, Tryd.ntmps5
    go_wp2_with (go_at_call 7; refine (begun_any _ ht).mono ?_; rintro e w1 ⟨rfl, hw⟩)
    go_ret
    exact ⟨rfl, hw⟩
  by_cases c3 : 2305843009213693952 < n
  · have d1 : decide (n < 0) = false := by simpa using c1
    have d2 : decide (m < 0) = false := by simpa using c2
    have d3 : decide (2305843009213693952 < n) = true := by simpa using c3
    go_enter Tryd.func5, Tryd.ntmps5
    go_wp2_with (go_at_call 7; refine (begun_any _ ht).mono ?_; rintro e w1 ⟨rfl, hw⟩)
    go_ret
    exact ⟨rfl, hw⟩
  by_cases c4 : 2305843009213693952 < m
  · have d1 : decide (n < 0) = false := by simpa using c1
    have d2 : decide (m < 0) = false := by simpa using c2
    have d3 : decide (2305843009213693952 < n) = false := by simpa using c3
    have d4 : decide (2305843009213693952 < m) = true := by simpa using c4
    go_enter Tryd.func5, Tryd.ntmps5
    go_wp2_with (go_at_call 7; refine (begun_any _ ht).mono ?_; rintro e w1 ⟨rfl, hw⟩)
    go_ret
    exact ⟨rfl, hw⟩
  have d1 : decide (n < 0) = false := by simpa using c1
  have d2 : decide (m < 0) = false := by simpa using c2
  have d3 : decide (2305843009213693952 < n) = false := by simpa using c3
  have d4 : decide (2305843009213693952 < m) = false := by simpa using c4
  obtain ⟨a, rfl⟩ := Int.eq_ofNat_of_zero_le (show 0 ≤ n by omega)
  have c3' : (a : Int) ≤ 2305843009213693952 := by omega
  obtain ⟨b, rfl⟩ := Int.eq_ofNat_of_zero_le (show 0 ≤ m by omega)
  have c4' : (b : Int) ≤ 2305843009213693952 := by omega
  have hz := zeros_zeros s a b
  have r1 := zerosI_rng s a
  by_cases c5 : a ≤ 4000
  · have d5 : decide ((4000 : Int) < (a : Int)) = false := by simp; omega
    have hzm := zeros_more s a
    have HZ := Lib.hid hzm
    have hmk := make22 a (by omega)
    clear hzm c1 c2 c3 c4
    go_enter Tryd.func5, Tryd.ntmps5
    go_wp2_with (first
      | (go_at_call 7; refine (begun_any _ ht).mono ?_; rintro e w1 ⟨rfl, hw⟩)
      | (go_at_call 11; refine (zeros_any _ _ (by omega) (by omega) (by omega) _ (ht.below hw)).mono ?_; rintro e w9 ⟨rfl, hwn⟩; replace hw := hw.trans (hwn.mono hw.size); clear hwn))
    go_region_held3 (fun w' => Below w.heap.size w w')
      (first
        | assumption
        | exact hw.drew
        | exact below_step (by assumption) hwn
        | exact below_step (by assumption) (below_alloc1 _ _))
      (first
        | (go_at_call 11; refine (zeros_any _ _ (by omega) (by omega) (by omega) _ (ht.below (by assumption))).mono ?_; rintro e w11 ⟨rfl, hwn⟩)
        | (go_at_call 10; refine (more_any _ (by omega) (by omega) _ _ _ (List.replicate a 0) _ ?_).mono ?_; (first | exact RB_new w9 _ a (by omega) | exact RB_newD w9 _ a (by omega) | exact RB_new w11 _ a (by omega) | exact (RB_newD w9 _ a (by omega)).below hwn | exact (RB_new w9 _ a (by omega)).below hwn); rintro e w10 ⟨rfl, hwn⟩))
    all_goals
      go_wp2_with fail
      go_ret
      exact ⟨by rw [← HZ.out]; simp, by assumption⟩
  · have d5 : decide ((4000 : Int) < (a : Int)) = true := by simp; omega
    clear c1 c2 c3 c4
    go_enter Tryd.func5, Tryd.ntmps5
    go_wp2_with (first
      | (go_at_call 7; refine (begun_any _ ht).mono ?_; rintro e w1 ⟨rfl, hw⟩)
      | (go_at_call 11; refine (zeros_any _ _ (by omega) (by omega) (by omega) _ (ht.below hw)).mono ?_; rintro e w9 ⟨rfl, hwn⟩; replace hw := hw.trans (hwn.mono hw.size); clear hwn))
    go_ret
    exact ⟨rfl, hw⟩
theorem flip_byte (x : Int) (r : Nat) (h0 : 0 ≤ x) (h1 : x ≤ 255) (hr : r < 8) :
    0 ≤ bits .xor .u8 x (2 ^ r % 256) ∧ bits .xor .u8 x (2 ^ r % 256) ≤ 255 ∧ u (bits .xor .u8 x (2 ^ r % 256)) = u x ^^^ 1#32 <<< r := by
  obtain ⟨a, rfl⟩ := Int.eq_ofNat_of_zero_le h0
  have hp : 2 ^ r < 256 := by
    have : ∀ r : Fin 8, 2 ^ r.val < 256 := by decide
    exact this ⟨r, hr⟩
  have e : ((2 : Int) ^ r % 256) = ((2 ^ r : Nat) : Int) := by
    have e1 : ((2 : Int) ^ r) = ((2 ^ r : Nat) : Int) := by simp
    rw [e1]
    exact Int.emod_eq_of_lt (Int.natCast_nonneg _) (Int.ofNat_lt.2 hp)
  have ha : a < 256 := by omega
  have hx : (a ^^^ 2 ^ r) < 2 ^ 8 := Nat.xor_lt_two_pow (by omega) (by omega)
  rw [e, bits8_xor a _ ha hp]
  refine ⟨by omega, by omega, ?_⟩
  rw [u_xor a _ ha hp]
  congr 1
  apply BitVec.eq_of_toNat_eq
  rw [u_nat _ (by omega), BitVec.toNat_shiftLeft, Nat.shiftLeft_eq]
  have : (1#32).toNat = 1 := by decide
  rw [this, Nat.one_mul, Nat.mod_eq_of_lt (by omega)]
theorem by_set {l : List Int} (h : BY l) (j : Nat) {x : Int} (h0 : 0 ≤ x) (h1 : x ≤ 255) : BY (l.set j x) := by
  intro y hy
  rcases List.mem_or_eq_of_mem_set hy with hy | rfl
  · exact h y hy
  · exact ⟨h0, h1⟩
set_option maxRecDepth 100000 in
set_option maxHeartbeats 2000000 in
theorem near_yes (A : Option Addr) (n c : Nat) (l : List Int) (at_ t : Int) (w : World) (ht : Tab w) (hl : RB w A n l) (n0 : 5 ≤ n) (n1 : n ≤ 200) (a0 : -9223372036854775808 ≤ at_) (a1 : at_ ≤ 9223372036854775807) (t0 : 0 ≤ t) (t1 : t < 4294967296) (tn : t ≠ 0) :
    Calls Tryd.prog 4 #[.slice A n c, .int .i64 at_, .int .u32 t] w fun e w' => e = .returned (.bool true) ∧ Below w.heap.size w w' := by
  have d1 : decide ((n : Int) < 5) = false := by simp; omega
  have d2 : decide ((200 : Int) < (n : Int)) = false := by simp; omega
  have d3 : (t == 0) = false := by simpa using tn
  have hll := Lib.hid hl.len
  clear tn
  go_enter Tryd.func4, Tryd.ntmps4
  go_upto_if 27 with (first
      | (go_at_call 7; refine (begun_any _ ht).mono ?_; rintro e w1 ⟨rfl, hw⟩)
      | (at_builtin; refine wpList_append_by (w0 := w) rfl w.heap.size (.const (.slice none 0 0)) (.tmp 24) 22 5 rfl Tryd.underlying22 info5 (.slice none 0 0) [] rfl (OB.nil _ _ _) A n c l rfl (hl.below hw) hw hw.size ?_ ?_; (simp; omega); intro v1 w2 o1 hw2 g1 t1; replace hw := hw2; clear hw2 g1 t1; rw [List.nil_append] at o1; obtain ⟨g, cap, hv, hgb, hgl, hcap⟩ := own_form o1 (by rw [hll.out]; omega); rw [hll.out] at hv hcap; subst hv))
  go_cut [8] (fun f wc => ∃ fr : Nat, f = .int .i64 fr ∧ fr + 32 ≤ 8 * n ∧ w2 = wc)
  case first =>
    by_cases hat : 0 < at_
    · have hm0 : 0 ≤ at_ % (8 * (n : Int) - 31) := Int.emod_nonneg _ (by omega)
      have hm1 : at_ % (8 * (n : Int) - 31) < 8 * (n : Int) - 31 := Int.emod_lt_of_pos _ (by omega)
      go_wp2_with fail
      go_meet
      case rel => exact ⟨(at_ % (8 * (n : Int) - 31)).toNat, by rw [Int.toNat_of_nonneg hm0], by omega, rfl⟩
    · go_wp2_with fail
      go_meet
      case rel => exact ⟨0, rfl, by omega, rfl⟩
  case rest =>
    obtain ⟨fr, rfl, hfr, rfl⟩ := hcut
    have o1' : w2.ownsRow w.heap.size 5 1 (.slice (some ⟨g, 0, none⟩) n cap) n (bys l) := by
      have := o1
      unfold OB at this
      rw [hll.out] at this
      exact this
    clear o1 d1 d2
    go_wp2_with fail
    go_loopw [9] (fun i wr => ∃ (k : Nat) (lk : List Int), k ≤ 32 ∧ i = .int .i64 k ∧ lk.length = n ∧ BY lk ∧ wr.ownsRow w.heap.size 5 1 (.slice (some ⟨g, 0, none⟩) n cap) n (bys lk) ∧ Below w.heap.size w wr ∧ Hid (run 0xffffffff#32 lk = run 0xffffffff#32 l ^^^ sn (8 * n - fr) (lowb (u t) k))) (fun i _ => 32 - (intOf i).toNat)
    case atStart => exact ⟨0, l, by omega, rfl, hll.out, hl.by_, o1', hw, by unfold Hid; rw [lowb_zero, sn_zero, BitVec.xor_zero]⟩
    case round =>
      clear o1' hw
      obtain ⟨k, lk, hk, rfl, hlk, hby, hown, hw, HX⟩ := hrel
      have HLK := Lib.hid hlk
      clear hlk
      by_cases hlt : k < 32
      · cases hb : (u t).getLsbD k with
        | false =>
          have hbb := bit_at t t0 t1 k hlt
          rw [hb] at hbb
          have HN : Hid (run 0xffffffff#32 lk = run 0xffffffff#32 l ^^^ sn (8 * n - fr) (lowb (u t) (k + 1))) := by
            unfold Hid
            rw [HX.out, lowb_no _ k hlt hb]
          clear hb
          go_wp2_with fail
          go_roundw
          case rel => exact ⟨k + 1, lk, by omega, by go_num, HLK.out, hby, hown, hw, HN.out⟩
          case measure => simp [intOf]; omega
        | true =>
          have hbb := bit_at t t0 t1 k hlt
          rw [hb] at hbb
          have hq : (fr + k) / 8 < n := by omega
          have hc := hown.cellAt ((fr + k) / 8) (by omega)
          rw [bys_at lk _ (by rw [HLK.out]; exact hq)] at hc
          have hz := hown.frozenAt ((fr + k) / 8)
          have hi0 : (0 : Int) ≤ ((fr : Int) + (k : Int)) / 8 := by omega
          have hi1 : ((fr : Int) + (k : Int)) / 8 < (n : Int) := by omega
          have hm0 : (0 : Int) ≤ ((fr : Int) + (k : Int)) % 8 := by omega
          have hm1 : ((fr : Int) + (k : Int)) % 8 < 8 := by omega
          clear hb
          go_wp2_with fail
          go_region
          obtain ⟨f1, f2, f3⟩ := flip_byte (nth lk ((fr + k) / 8)) ((fr + k) % 8) (hby.nth _).1 (hby.nth _).2 (by omega)
          have hst := hown.stored ((fr + k) / 8) (.int .u8 (bits .xor .u8 (nth lk ((fr + k) / 8)) (2 ^ ((fr + k) % 8) % 256)))
          rw [set_bys] at hst
          have HST := Lib.hid hst.1
          have HBY := Lib.hid (by_set hby ((fr + k) / 8) f1 f2)
          have HN : Hid (run 0xffffffff#32 (lk.set ((fr + k) / 8) (bits .xor .u8 (nth lk ((fr + k) / 8)) (2 ^ ((fr + k) % 8) % 256))) = run 0xffffffff#32 l ^^^ sn (8 * n - fr) (lowb (u t) (k + 1))) := by
            unfold Hid
            rw [run_set _ _ _ (by rw [HLK.out]; exact hq) _ _ f3, HX.out, HLK.out, sn_flip n fr k hlt (by omega), lowb_yes _ k hlt (by rw [← bit_at t t0 t1 k hlt]; exact hbb), sn_xor]
            ac_rfl
          clear hst f1 f2 f3 hc hz
          go_wp2_with fail
          go_roundw
          case rel => exact ⟨k + 1, _, by omega, by go_num, by rw [List.length_set]; exact HLK.out, HBY.out, HST.out, (hw.setCell hgb _).drew, HN.out⟩
          case measure => simp [intOf]; omega
      · have hk32 : k = 32 := by omega
        have hne := near_ne l lk (8 * n - fr) (u t) (fun e => by have := congrArg iu e; rw [iu_u t t0 t1] at this; rw [show iu 0#32 = 0 by decide] at this; subst this; exact absurd d3 (by decide)) (by have := HX.out; rw [hk32, lowb_all] at this; exact this)
        have hnb : (iu (more 0#32 l) != iu (more 0#32 lk)) = true := by
          rw [bne_iff_ne]; exact fun e => hne (iu_inj e)
        obtain ⟨A2, c2, hv2, hc2, hr2⟩ := own_RB hown hby (by omega)
        injection hv2 with hA2 hn2 hcc2
        have hr3 : RB wr (some ⟨g, 0, none⟩) n lk := by rw [hA2]; exact hr2
        clear hA2 hn2 hcc2 hr2 hk32
        go_wp2_with (first
          | (go_at_call 8; with_reducible refine (sum_any A n c l _ (hl.below hw)).mono ?_; rintro e w9 ⟨rfl, hwn⟩)
          | (go_at_call 8; with_reducible refine (sum_any (some ⟨g, 0, none⟩) n cap lk _ (hr3.below hwn)).mono ?_; rintro e w10 ⟨rfl, hwm⟩))
        go_ret
        exact ⟨rfl, below_step (below_step hw hwn) hwm⟩
set_option maxRecDepth 100000 in
set_option maxHeartbeats 1000000 in
theorem near_any (A : Option Addr) (n c : Nat) (l : List Int) (at_ t : Int) (w : World) (ht : Tab w) (hl : RB w A n l) (a0 : -9223372036854775808 ≤ at_) (a1 : at_ ≤ 9223372036854775807) (t0 : 0 ≤ t) (t1 : t < 4294967296) :
    Calls Tryd.prog 4 #[.slice A n c, .int .i64 at_, .int .u32 t] w fun e w' => e = .returned (.bool true) ∧ Below w.heap.size w w' := by
  by_cases c1 : n < 5
  · have d1 : decide ((n : Int) < 5) = true := by simp; omega
    go_enter Tryd.func4, Tryd.ntmps4
    go_wp2_with (go_at_call 7; refine (begun_any _ ht).mono ?_; rintro e w1 ⟨rfl, hw⟩)
    go_ret
    exact ⟨rfl, hw⟩
  by_cases c2 : 200 < n
  · have d1 : decide ((n : Int) < 5) = false := by simp; omega
    have d2 : decide ((200 : Int) < (n : Int)) = true := by simp; omega
    go_enter Tryd.func4, Tryd.ntmps4
    go_wp2_with (go_at_call 7; refine (begun_any _ ht).mono ?_; rintro e w1 ⟨rfl, hw⟩)
    go_ret
    exact ⟨rfl, hw⟩
  by_cases c3 : t = 0
  · have d1 : decide ((n : Int) < 5) = false := by simp; omega
    have d2 : decide ((200 : Int) < (n : Int)) = false := by simp; omega
    subst c3
    go_enter Tryd.func4, Tryd.ntmps4
    go_wp2_with (go_at_call 7; refine (begun_any _ ht).mono ?_; rintro e w1 ⟨rfl, hw⟩)
    go_ret
    exact ⟨rfl, hw⟩
  exact near_yes A n c l at_ t w ht hl (by omega) (by omega) a0 a1 t0 t1 c3
end Go.Proofs.YthggicgbcgeggaaDoor
