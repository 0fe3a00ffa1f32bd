/- Walks: Fixed32, Fixed64 and their document's twin; the twins of Zig and Zag. -/
import Derived.Test.YthggicgbcgeggaaVZ
import Derived.Deep.OwnRows
set_option linter.unusedVariables false
set_option linter.unusedSimpArgs false
namespace Go.Proofs.Ythggicgbcgeggaa
open Go.RowKit
/-- the lowest k bytes of a number, the lowest first -/
def fb : Int → Nat → List Int
  | _, 0 => []
  | n, k + 1 => n % 256 :: fb (n / 256) k
theorem fb_len : ∀ k n, (fb n k).length = k
  | 0, _ => rfl
  | k + 1, n => by simp [fb, fb_len k]
theorem fb_by : ∀ k n, BY (fb n k)
  | 0, _ => by intro x hx; simp [fb] at hx
  | k + 1, n => by
    intro x hx
    rcases List.mem_cons.1 hx with rfl | hx
    · omega
    · exact fb_by k _ x hx
theorem fb_nth : ∀ k (n : Int) i, 0 ≤ n → i < k → nth (fb n k) i = n / 2 ^ (8 * i) % 256
  | 0, _, _, _, h => by omega
  | k + 1, n, 0, h0, h => by simp [fb, nth]
  | k + 1, n, i + 1, h0, h => by
    have e : nth (fb n (k + 1)) (i + 1) = nth (fb (n / 256) k) i := rfl
    rw [e, fb_nth k (n / 256) i (by omega) (by omega)]
    have e2 : (2 : Int) ^ (8 * (i + 1)) = 256 * 2 ^ (8 * i) := by
      rw [Nat.mul_add, Int.pow_add, Int.mul_comm]; rfl
    rw [e2, ← Int.ediv_ediv_of_nonneg (by omega)]
theorem rzig_any (n : Int) (h0 : -9223372036854775808 ≤ n) (h1 : n ≤ 9223372036854775807) (w : World) :
    Calls Try.prog 40 #[.int .i64 n] w fun e w' => e = .returned (.int .u64 (zigI n)) ∧ w = w' := by
  by_cases hn : n < 0
  · have e1 : IntKind.u64.wrap (-(n + 1)) = -(n + 1) := wrap_u64 _ (by omega) (by omega)
    have e2 : IntKind.u64.wrap (-(n + 1) * 2) = -(n + 1) * 2 := wrap_u64 _ (by omega) (by omega)
    have e3 : IntKind.u64.wrap (-(n + 1) * 2 + 1) = zigI n := by rw [wrap_u64 _ (by omega) (by omega)]; unfold zigI; rw [if_pos hn]; omega
    have e4 : zigI n = -(n + 1) * 2 + 1 := by unfold zigI; rw [if_pos hn]; omega
    have E := Lib.hid e4
    clear e3 e4
    go_enter Try.func40, Try.ntmps40
    go_wp2_with fail
    go_ret
    refine ⟨?_, rfl⟩
    rw [E.out]; simp; try omega
  · have e1 : IntKind.u64.wrap n = n := wrap_u64 _ (by omega) (by omega)
    have e2 : IntKind.u64.wrap (n * 2) = n * 2 := wrap_u64 _ (by omega) (by omega)
    have e4 : zigI n = n * 2 := by unfold zigI; rw [if_neg hn]; omega
    have E := Lib.hid e4
    clear e4
    go_enter Try.func40, Try.ntmps40
    go_wp2_with fail
    go_ret
    refine ⟨?_, rfl⟩
    rw [E.out]; simp; try omega
theorem rzag_any (u : Int) (h0 : 0 ≤ u) (h1 : u < 18446744073709551616) (w : World) :
    Calls Try.prog 38 #[.int .u64 u] w fun e w' => e = .returned (.int .i64 (zagI u)) ∧ w = w' := by
  have t1 : u.tmod 2 = u % 2 := Int.tmod_eq_emod_of_nonneg h0
  have t2 : u.tdiv 2 = u / 2 := Int.tdiv_eq_ediv_of_nonneg h0
  have t3 : IntKind.u64.wrap (u / 2) = u / 2 := wrap_u64 _ (by omega) (by omega)
  have t4 : IntKind.i64.wrap (u / 2) = u / 2 := by rw [IntKind.wrap_i64]; omega
  by_cases hu : u % 2 = 1
  · have E := Lib.hid (show zagI u = -(u / 2) - 1 by unfold zagI; rw [if_pos hu])
    go_enter Try.func38, Try.ntmps38
    go_wp2_with fail
    go_ret
    refine ⟨?_, rfl⟩
    rw [E.out]; simp; try omega
  · have hu0 : (u % 2 == 1) = false := by simpa using hu
    have E := Lib.hid (show zagI u = u / 2 by unfold zagI; rw [if_neg hu])
    go_enter Try.func38, Try.ntmps38
    go_wp2_with fail
    go_ret
    refine ⟨?_, rfl⟩
    rw [E.out]; simp; try omega
set_option maxHeartbeats 1000000 in
theorem rfixed_any (n : Int) (sz : Nat) (hs : sz ≤ 8) (n0 : 0 ≤ n) (n1 : n < 18446744073709551616) (w : World) :
    Calls Try.prog 39 #[.int .u64 n, .int .i64 sz] w fun e w' => ∃ v, e = .returned v ∧ OB 5 w' w.heap.size v (fb n sz) ∧ Below w.heap.size w w' := by
  have HN := Lib.hid (And.intro n0 (And.intro n1 hs))
  clear n0 n1
  go_enter Try.func39, Try.ntmps39
  go_wp2_with fail
  go_loopw [0, 5, 6] (fun x b i wr => ∃ (z : Int) (k : Nat) (pre : List Int) (bv : Value), bv = b ∧ x = .int .u64 z ∧ i = .int .i64 k ∧ k ≤ sz ∧ Hid (0 ≤ z ∧ z < 18446744073709551616 ∧ pre.length = k) ∧ Hid (fb n sz = pre ++ fb z (sz - k)) ∧ OB 5 wr w.heap.size b pre ∧ Below w.heap.size w wr) (fun _ _ i _ => sz - (intOf i).toNat)
  case atStart => exact ⟨n, 0, [], _, rfl, rfl, rfl, by omega, ⟨HN.out.1, HN.out.2.1, rfl⟩, rfl, OB.nil _ _ _, Below.refl _ _⟩
  case round =>
    obtain ⟨z, k, pre, b, rfl, rfl, rfl, hk, HZ, HV, hown, hw⟩ := hrel
    by_cases hlt : k < sz
    · have z0 := HZ.out.1
      have z1 := HZ.out.2.1
      have t1 : z.tmod 256 = z % 256 := Int.tmod_eq_emod_of_nonneg z0
      have t2 : z.tdiv 256 = z / 256 := Int.tdiv_eq_ediv_of_nonneg z0
      have t3 : IntKind.u64.wrap (z / 256) = z / 256 := wrap_u64 _ (by omega) (by omega)
      have t4 : z % 256 % 256 = z % 256 := by omega
      have hb1 := by_one (z % 256) (by omega) (by omega)
      go_wp2_with (at_builtin; go_loud (refine wpList_append_by (w0 := w) rfl w.heap.size (.tmp 12) (.tmp 16) 25 5 rfl Try.underlying25 info5 b pre rfl (hown.below (below_alloc1 _ _)) (some ⟨wr.heap.size, 0, none⟩) 1 1 [z % 256] rfl (RB_lit (heap_alloc_new wr _) hb1 (by simp)) (hw.alloc hw.size _) ?_ ?_ ?_; (have := hw.size; simp; omega); (have := HZ.out.2.2; have := HN.out.2.2; simp; omega); intro v1 w1 hown1 hB1 hg1 hat1))
      go_roundw
      case rel =>
        refine ⟨z / 256, k + 1, _, _, rfl, rfl, by go_num, by omega, ⟨by omega, by omega, by simp [HZ.out.2.2]⟩, ?_, hown1, hB1⟩
        have e : sz - k = (sz - (k + 1)) + 1 := by omega
        have := HV.out
        rw [e, fb] at this
        show fb n sz = _
        rw [this]; simp
      case measure => simp [intOf]; omega
    · go_wp2_with fail
      go_ret
      refine ⟨_, rfl, ?_, hw⟩
      have e : sz - k = 0 := by omega
      have := HV.out
      rw [e, fb, List.append_nil] at this
      rw [this]; exact hown
theorem nth_set_same (l : List Int) (i : Nat) (x : Int) (h : i < l.length) : nth (l.set i x) i = x := by
  unfold nth
  rw [List.getD_eq_getElem?_getD, List.getElem?_set_self h]; rfl
theorem made_bys (n : Nat) : madeCells #[Value.int .u8 0] n = (bys (List.replicate n 0)).toArray := by
  apply Array.ext'
  rw [toList_madeCells_one]
  simp [bys]
theorem make25 (m : Nat) (hn : m ≤ 281474976710656) :
    ∀ W : World, (Instr.makeSlice 25 (.int .i64 (m : Int)) (.int .i64 (m : Int))).run Try.prog W = .ok (.slice (some ⟨W.heap.size, 0, none⟩) m m) (W.alloc (.cells (bys (List.replicate m 0)).toArray 5)) := by
  intro W
  rw [← made_bys]
  exact run_make_row' 25 5 (.int .u8 0) 1 Try.underlying25 info5 rfl .i64 .i64 m (by omega) (by omega) W
set_option maxHeartbeats 1000000 in
theorem fixed_any (n : Int) (sz : Nat) (hs : sz ≤ 8) (n0 : 0 ≤ n) (n1 : n < 18446744073709551616) (w : World) :
    Calls Try.prog 87 #[.int .u64 n, .int .i64 sz] w fun e w' => ∃ v, e = .returned v ∧ OB 5 w' w.heap.size v (fb n sz) ∧ Below w.heap.size w w' := by
  have hmk := make25 sz (by omega)
  have HN := Lib.hid (And.intro n0 (And.intro n1 hs))
  have hO := OB.lit w w.heap.size 5 (List.replicate sz 0) (Nat.le_refl _) (by simp; omega)
  rw [List.length_replicate] at hO
  have HO := Lib.hid hO
  clear n0 n1 hO
  go_enter Try.func87, Try.ntmps87
  go_wp2_with fail
  go_loopw [6, 11] (fun _ i wr => ∃ (k : Nat) (lk : List Int), i = .int .i64 k ∧ k ≤ sz ∧ lk.length = sz ∧ Hid (∀ j, j < k → nth lk j = nth (fb n sz) j) ∧ wr.ownsRow w.heap.size 5 1 (.slice (some ⟨w.heap.size, 0, none⟩) sz sz) sz (bys lk) ∧ Below w.heap.size w wr) (fun _ i _ => sz - (intOf i).toNat)
  case atStart =>
    have := HO.out
    unfold OB at this
    rw [List.length_replicate] at this
    exact ⟨0, List.replicate sz 0, rfl, by omega, by simp, (fun j hj => by omega), this, below_alloc1 _ _⟩
  case round =>
    obtain ⟨k, lk, rfl, hk, hlk, HE, hown, hw⟩ := hrel
    have HLK := Lib.hid hlk
    clear hlk
    by_cases hlt : k < sz
    · have hf := fb_nth sz n k HN.out.1 hlt
      have HF := Lib.hid hf
      have hi0 : (0 : Int) ≤ (k : Int) := Int.natCast_nonneg _
      have hi1 : (k : Int) < (sz : Int) := by omega
      have hcl : wr.cell? ⟨w.heap.size, k, none⟩ = some (.int .u8 (nth lk k)) := by
        rw [hown.cellAt k (by omega), bys_at _ _ (by rw [HLK.out]; omega)]
      have hfr := hown.frozenAt k
      clear hf
      go_wp2_with fail
      have hst := hown.stored k (.int .u8 (nth (fb n sz) k))
      rw [set_bys] at hst
      rw [HF.out] at hst
      refine ⟨⟨k + 1, _, by go_num, by omega, ?_, ?_, hst.1, grown_below hw hst.2 (Nat.le_refl _)⟩, by simp [intOf]; omega⟩
      · rw [List.length_set]; exact HLK.out
      · intro j hj
        by_cases hjk : j = k
        · subst hjk; rw [nth_set_same _ _ _ (by rw [HLK.out]; exact hlt), HF.out]
        · rw [nth_set_ne _ _ _ _ (by omega)]; exact HE.out j (by omega)
    · go_wp2_with fail
      go_ret
      refine ⟨_, rfl, ?_, hw⟩
      have e : lk = fb n sz := ext_nth (by rw [HLK.out, fb_len]) fun j hj => HE.out j (by have := HLK.out; omega)
      unfold OB
      rw [fb_len, ← e]; exact hown
theorem fixed32_any (n : Int) (n0 : 0 ≤ n) (n1 : n < 4294967296) (w : World) :
    Calls Try.prog 34 #[.int .u32 n] w fun e w' => ∃ v, e = .returned v ∧ OB 5 w' w.heap.size v (fb n 4) ∧ Below w.heap.size w w' := by
  have hw := wrap_u64 n (by omega) (by omega)
  go_enter Try.func34, Try.ntmps34
  go_wp2_with (go_at_call 87; refine (fixed_any n 4 (by omega) (by omega) (by omega) _).mono ?_; rintro e w1 ⟨v1, rfl, hO, hB⟩)
  go_ret
  exact ⟨v1, rfl, hO, hB⟩
theorem fixed64_any (n : Int) (n0 : 0 ≤ n) (n1 : n < 18446744073709551616) (w : World) :
    Calls Try.prog 35 #[.int .u64 n] w fun e w' => ∃ v, e = .returned v ∧ OB 5 w' w.heap.size v (fb n 8) ∧ Below w.heap.size w w' := by
  go_enter Try.func35, Try.ntmps35
  go_wp2_with (go_at_call 87; refine (fixed_any n 8 (by omega) (by omega) (by omega) _).mono ?_; rintro e w1 ⟨v1, rfl, hO, hB⟩)
  go_ret
  exact ⟨v1, rfl, hO, hB⟩
end Go.Proofs.Ythggicgbcgeggaa
