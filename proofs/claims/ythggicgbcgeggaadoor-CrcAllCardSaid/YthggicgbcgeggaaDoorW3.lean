/- Walks: the reference moved, Join, Zeros. -/
import Derived.Test.YthggicgbcgeggaaDoorW2
import Derived.Deep.DeepCutAuto
import Derived.Deep.CutRange
import Derived.Deep.RegionHeld3
set_option linter.unusedVariables false
set_option linter.unusedSimpArgs false
namespace Go.Proofs.YthggicgbcgeggaaDoor
open Go.RowKit
theorem zero46 : ∀ W, (zeroValue 46).run Tryd.prog W = .ok (.agg (arrU 32 fun _ => 0)) W := fun W => by kernel_rfl
theorem size46 : (Tryd.prog.info? 46).map (·.size) = some 32 := by kernel_rfl
theorem size46' (f : Nat → Int) : (Tryd.prog.info? 46).map (·.size) = some (arrU 32 f).size := by rw [size46, arrU_size]
theorem size46l (f : Nat → Int) : (Tryd.prog.info? 46).map (·.size) = some (arrU 32 f).toList.length := by rw [size46, Array.length_toList, arrU_size]
theorem len46l (f : Nat → Int) : (arrU 32 f).toList.length = 32 := by rw [Array.length_toList, arrU_size]
theorem one46l (f : Nat → Int) : ∀ v ∈ (arrU 32 f).toList, v.oneCell' = true := by
  intro v hv
  exact (Array.all_eq_true_iff_forall_mem.1 (arrU_one 32 f)) v (by simpa using hv)
theorem range_arr {w : World} {g n : Nat} {f : Nat → Int} {t : TypeId} (h : w.heap[g]? = some (.cells (arrU n f) t (0, 0))) : w.rangeAt g 0 (arrU n f).toList := by
  intro j v hv
  rw [Nat.zero_add, cell_of_row w g j _ t _ h]
  simpa using hv
theorem range_below {B : Nat} {w w' : World} {g : Nat} {cs : List Value} (hb : Below B w w') (hg : g < B) (h : w.rangeAt g 0 cs) : w'.rangeAt g 0 cs := by
  intro j v hv
  rw [hb.cell (p := ⟨g, 0 + j, none⟩) hg]; exact h j v hv
theorem range_store {w : World} {g b o : Nat} {cs : List Value} (h : w.rangeAt g 0 cs) (hne : g ≠ b) (v : Value) : (w.setCell ⟨b, o, none⟩ v).rangeAt g 0 cs := by
  intro j x hx
  rw [World.cell?_setCell_other _ _ _ _ (by intro e; injection e with e1; exact hne e1.symm)]
  exact h j x hx
set_option maxHeartbeats 2000000 in
theorem rmoved_any (x : Int) (h0 : 0 ≤ x) (h1 : x < 4294967296) (n : Int) (hn0 : 0 ≤ n) (hn1 : n < 9223372036854775808) (w : World) :
    Calls Tryd.prog 27 #[.int .u32 x, .int .i64 n] w fun e w' => e = .returned (.int .u32 (iu (sn (8 * n.toNat) (u x)))) ∧ Below w.heap.size w w' := by
  have hz46 := zero46
  go_enter Tryd.func27, Tryd.ntmps27
  go_wp2_with fail
  clear hz46
  go_loopw [6] (fun i wr => ∃ (k : Nat) (h : Nat → Int), k ≤ 32 ∧ i = .int .i64 k ∧ wr.heap[w.heap.size]? = some (.cells (arrU 32 h) 46 (0, 0)) ∧ Below w.heap.size w wr ∧ Hid (∀ j, j < k → h j = mapI 8 j)) (fun i _ => 32 - (intOf i).toNat)
  case atStart => exact ⟨0, fun _ => 0, by omega, rfl, heap_alloc_new _ _, (Below.refl _ _).alloc (Nat.le_refl _) _, fun j hj => by omega⟩
  case round =>
    obtain ⟨k, h, hk, rfl, hw, hB, HF⟩ := hrel
    have HW := Lib.hid hw
    have hsz := lt_of_block hw
    by_cases hlt : k < 32
    · have ho : wr.cell? ⟨w.heap.size, k, none⟩ = some (.int .u32 (h k)) := blk_cell hw k (arrU_get _ _ _ hlt)
      have hz := blk_free hw k
      clear hw
      have hi0 : (0 : Int) ≤ (k : Int) := Int.natCast_nonneg _
      have hi1 : (k : Int) < 32 := by omega
      obtain ⟨p0, p1⟩ := pw_rng k
      go_wp2_with (go_at_call 25; refine (rstep_any _ p0 p1 _).mono ?_; rintro e w1 ⟨rfl, rfl⟩)
      clear ho hz
      go_roundw
      case rel => exact ⟨k + 1, _, by omega, by go_num, blk_setU HW.out _ _, hB.setCell (by simp) _, upd_upto HF.out (map8 k)⟩
      case measure => simp [intOf]; omega
    · have HF2 : Map 8 h := fun i hi => HF.out i (by omega)
      clear hw
      go_wp2_with fail
      go_loopg [0, 1] n.toNat (fun kq c q wq => ∃ (y z : Int) (N : Nat) (f : Nat → Int), c = .int .u32 y ∧ q = .int .i64 z ∧ 0 ≤ y ∧ y < 4294967296 ∧ 0 ≤ z ∧ z < 9223372036854775808 ∧ wq.heap[w.heap.size]? = some (.cells (arrU 32 f) 46 (0, 0)) ∧ Map N f ∧ Below w.heap.size w wq ∧ Hid (sn (N * z.toNat) (u y) = sn (8 * n.toNat) (u x)) ∧ Hid (z.toNat = kq))
      case atStart => exact ⟨x, n, 8, h, rfl, rfl, h0, h1, hn0, hn1, HW.out, HF2, hB, rfl, rfl⟩
      case round =>
        clear HW HF HF2 hB hsz
        obtain ⟨y, z, N, f, rfl, rfl, hy0, hy1, hz0, hz1, hbk, hf, hBq, HX, HK⟩ := hrel
        have HBK := Lib.hid hbk
        have hszq := lt_of_block hbk
        clear hbk
        by_cases hz : 0 < z
        · obtain ⟨P1, P2⟩ := powers N z hz0 _ _ HX.out
          have HP1 := Lib.hid P1
          have HP2 := Lib.hid P2
          clear P1 P2
          go_upto_if 22 with (fail)
          go_cut [0] (fun c wc => ∃ (y' : Int), c = .int .u32 y' ∧ 0 ≤ y' ∧ y' < 4294967296 ∧ wc.heap[w.heap.size]? = some (.cells (arrU 32 f) 46 (0, 0)) ∧ Below w.heap.size w wc ∧ Hid (sn ((N + N) * (z / 2).toNat) (u y') = sn (8 * n.toNat) (u x)))
          case first =>
            by_cases hodd : z % 2 = 1
            · have hb : (z % 2 == 1) = true := by rw [hodd]; rfl
              have HP := Lib.hid (HP1.out hodd)
              clear hodd
              go_wp2_with (first | (refine wpList_load_row rfl 46 _ rfl _ rfl 46 _ _ _ HBK.out Tryd.underlying46 rfl (size46' _) ?_) | (go_at_call 30; refine (do_any N f hf _ hy0 hy1 _).mono ?_; rintro e w2 ⟨rfl, hD⟩))
              go_meet
              case rel => exact ⟨_, rfl, iu_lo _, iu_hi _, blk_below hD hszq HBK.out, hBq.trans (hD.mono hBq.size), by unfold Hid; rw [u_iu]; exact HP.out⟩
            · have hb : (z % 2 == 1) = false := by simpa using hodd
              have HP := Lib.hid (HP2.out (by omega))
              clear hodd
              go_wp2_with fail
              go_meet
              case rel => exact ⟨_, rfl, hy0, hy1, HBK.out, hBq, HP.out⟩
          case rest =>
            clear HBK hBq HX HP1 HP2 hszq hy0 hy1
            obtain ⟨y', rfl, hy0, hy1, hbk, hBq, HP⟩ := hcut
            have HBK := Lib.hid hbk
            have hszq := lt_of_block hbk
            clear hbk
            have hz46 := zero46
            go_wp2_with fail
            clear hz46
            go_loopw [8] (fun i wi => ∃ (k2 : Nat) (h2 : Nat → Int), k2 ≤ 32 ∧ i = .int .i64 k2 ∧ wi.heap[w.heap.size]? = some (.cells (arrU 32 f) 46 (0, 0)) ∧ wi.heap[wc.heap.size]? = some (.cells (arrU 32 h2) 46 (0, 0)) ∧ Below w.heap.size w wi ∧ Hid (∀ j, j < k2 → h2 j = mapI (N + N) j)) (fun i _ => 32 - (intOf i).toNat)
            case atStart => exact ⟨0, fun _ => 0, by omega, rfl, blk_old HBK.out _, heap_alloc_new _ _, hBq.alloc hBq.size _, fun j hj => by omega⟩
            case round =>
              clear HBK hBq
              obtain ⟨k2, h2, hk2, rfl, hbt, hbu, hBi, HF⟩ := hrel
              have HBT := Lib.hid hbt
              have HBU := Lib.hid hbu
              have hszt := lt_of_block hbt
              have hszu := lt_of_block hbu
              by_cases hlt2 : k2 < 32
              · have hi0 : (0 : Int) ≤ (k2 : Int) := Int.natCast_nonneg _
                have hi1 : (k2 : Int) < 32 := by omega
                obtain ⟨r0, r1⟩ := map_rng hf k2 hlt2
                have hu := Tryd.underlying46
                have hsi := size46l f
                have hl3 := len46l f
                have ho3 := one46l f
                have hrg := range_arr hbt
                have hc := blk_cell hbt k2 (arrU_get _ _ _ hlt2)
                have ho := blk_cell hbu k2 (arrU_get _ _ _ hlt2)
                have hz3 := blk_free hbu k2
                have hgne : w.heap.size ≠ wc.heap.size := by omega
                clear hbt hbu
                go_wp2_with fail
                go_region_held3 (fun w' => w'.rangeAt w.heap.size 0 (arrU 32 f).toList ∧ w'.cell? ⟨w.heap.size, k2, none⟩ = some (.int .u32 (f k2)))
                  (first
                    | go_keep
                    | go_keep_ranges
                    | (exact ⟨range_store hrg1 hgne _, (World.cell?_setCell_other _ _ _ _ (by intro e; injection e with e1; exact hgne e1.symm)).trans hc1⟩)
                    | exact ⟨hrg1, hc1⟩)
                  (first | (go_at_call 30; refine (do_any N f hf _ r0 r1 _).mono ?_; rintro e w1 ⟨rfl, hD⟩; have hrg1 := range_below hD (by simp; omega) hrg; have hc1 := (hD.cell (p := ⟨w.heap.size, k2, none⟩) (by simp; omega)).trans hc; have ho1 := (hD.cell (p := ⟨wc.heap.size, k2, none⟩) (by simp; omega)).trans ho; have hz1 := (hD.frozen (p := ⟨wc.heap.size, k2, none⟩) (by simp; omega)).trans hz3))
                have hB1 : Below w.heap.size w w1 := hBi.trans ((below_drewN (Below.refl _ _) 1).trans (hD.mono (by simp; omega)))
                have hT1 := blk_below hD (k := w.heap.size) (by simp; omega) (show wr.drew.heap[w.heap.size]? = _ from HBT.out)
                have hU1 := blk_below hD (k := wc.heap.size) (by simp; omega) (show wr.drew.heap[wc.heap.size]? = _ from HBU.out)
                have HT1 := Lib.hid hT1
                have HU1 := Lib.hid hU1
                clear hT1 hU1 hc ho hz3 hc1 ho1 hz1 hrg hrg1 hu hsi hl3 ho3
                go_wp2_with fail
                go_roundw
                case rel => exact ⟨k2 + 1, _, by omega, by go_num, blk_set_ne HT1.out _ _ hgne, blk_setU HU1.out _ _, hB1.setCell (by simp; omega) _, upd_upto HF.out (map_twice hf k2 hlt2)⟩
                case measure => simp [intOf]; omega
              · have HF2 : Map (N + N) h2 := fun i hi => HF.out i (by omega)
                clear hbt hbu
                go_wp2_with (first | (refine wpList_load_row rfl 46 _ rfl _ rfl 46 _ _ _ HBU.out Tryd.underlying46 rfl (size46' _) ?_) | (refine wpList_store_row rfl 46 _ _ rfl _ (arrU 32 h2) rfl rfl 46 _ HBT.out (size46' _) (arrU_size2 _ _ _) (arrU_one _ _) ?_))
                have hG := setRow_heap wr w.heap.size _ (arrU 32 h2) 46 _ HBT.out
                have hB1 : Below w.heap.size w (wr.setRow w.heap.size (arrU 32 h2)) := hBi.trans ⟨rfl, rfl, rfl, by simp, fun k hk => setRow_other wr _ _ _ (by omega)⟩
                go_roundg (z / 2).toNat
                case measure => have := HK.out; omega
                case rel => exact ⟨_, z / 2, N + N, h2, rfl, by go_num, hy0, hy1, by omega, by omega, hG, HF2, hB1, HP.out, rfl⟩
        · have hz' : z = 0 := by omega
          have HZ := Lib.hid hz'
          clear hz'
          go_wp2_with fail
          go_ret
          refine ⟨ret_int ?_, hBq⟩
          have := HX.out
          rw [HZ.out] at this
          rw [← this]
          simp [sn, iu_u y hy0 hy1]
set_option maxHeartbeats 400000 in
theorem rjoin_any (a b n : Int) (h0 : 0 ≤ a) (h1 : a < 4294967296) (hn : n < 9223372036854775808) (w : World) :
    Calls Tryd.prog 20 #[.int .u32 a, .int .u32 b, .int .i64 n] w fun e w' => e = .returned (.int .u32 (joinI a b n)) ∧ Below w.heap.size w w' := by
  by_cases h : n < 0
  · have hj : joinI a b n = 0 := by unfold joinI; rw [if_pos h]
    have HJ := Lib.hid hj
    clear hj
    go_enter Tryd.func20, Tryd.ntmps20
    go_wp2_with fail
    go_ret
    exact ⟨ret_int HJ.out.symm, Below.refl _ _⟩
  · have hj : joinI a b n = bits .xor .u32 (iu (sn (8 * n.toNat) (u a))) b := by unfold joinI; rw [if_neg h]
    have HJ := Lib.hid hj
    clear hj
    go_enter Tryd.func20, Tryd.ntmps20
    go_wp2_with (go_at_call 27; refine (rmoved_any a h0 h1 n (by omega) hn _).mono ?_; rintro e w1 ⟨rfl, hB⟩)
    go_ret
    exact ⟨ret_int HJ.out.symm, hB⟩
set_option maxHeartbeats 400000 in
theorem rzeros_any (a n : Int) (h0 : 0 ≤ a) (h1 : a < 4294967296) (hn : n < 9223372036854775808) (w : World) :
    Calls Tryd.prog 21 #[.int .u32 a, .int .i64 n] w fun e w' => e = .returned (.int .u32 (zerosI a n)) ∧ Below w.heap.size w w' := by
  by_cases h : n < 0
  · have hj : zerosI a n = 0 := by unfold zerosI; rw [if_pos h]
    have HJ := Lib.hid hj
    clear hj
    go_enter Tryd.func21, Tryd.ntmps21
    go_wp2_with fail
    go_ret
    exact ⟨ret_int HJ.out.symm, Below.refl _ _⟩
  · have hj : zerosI a n = bits .xor .u32 (iu (sn (8 * n.toNat) (u (bits .xor .u32 a 4294967295)))) 4294967295 := by unfold zerosI; rw [if_neg h]
    have HJ := Lib.hid hj
    clear hj
    have b0 : 0 ≤ bits .xor .u32 a 4294967295 := by rw [bits_xor]; exact iu_lo _
    have b1 : bits .xor .u32 a 4294967295 < 4294967296 := by rw [bits_xor]; exact iu_hi _
    go_enter Tryd.func21, Tryd.ntmps21
    go_wp2_with (go_at_call 27; refine (rmoved_any _ b0 b1 n (by omega) hn _).mono ?_; rintro e w1 ⟨rfl, hB⟩)
    go_ret
    exact ⟨ret_int HJ.out.symm, hB⟩
end Go.Proofs.YthggicgbcgeggaaDoor
