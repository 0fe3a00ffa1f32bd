/- Walk: flumelaw1.WireBack returns true for any input. -/
import Derived.Test.YthggicgbcgeggaaVM
import Derived.Deep.RegionHeld3
import Derived.BigRegion
import Derived.Deep.CutRange
import Derived.Deep.DeepCutAuto
import Derived.Deep.CutBlock
set_option linter.unusedVariables false
set_option linter.unusedSimpArgs false
namespace Go.Proofs.Ythggicgbcgeggaa
open Go.RowKit
theorem RB.take {w : World} {A : Option Addr} {n : Nat} {l : List Int} (h : RB w A n l) (k : Nat) (hk : k ≤ n) : RB w A k (l.take k) := by
  refine ⟨by rw [List.length_take, h.len]; omega, by have := h.top; omega, fun j hj => ?_, BY.nth (fun x hx => h.by_ x (List.mem_of_mem_take hx))⟩
  obtain ⟨ad, e, hc⟩ := h.cell j (by omega)
  refine ⟨ad, e, ?_⟩
  rw [hc]
  unfold nth
  rw [List.getD_eq_getElem?_getD, List.getD_eq_getElem?_getD, List.getElem?_take_of_lt hj]
set_option maxRecDepth 20000 in
set_option maxHeartbeats 4000000 in
theorem back_law (n : Int) (A1 : Option Addr) (n1 c1 : Nat) (s : List Int) (A2 : Option Addr) (n2 c2 : Nat) (bh : List Int) (w : World) (n0 : 0 ≤ n) (n64 : n < 18446744073709551616)
    (hs : RB w A1 n1 s) (hc1 : n1 ≤ c1) (ht1 : n1 ≤ 1048576) (hb : RB w A2 n2 bh) (hc2 : n2 ≤ c2) (ht2 : n2 ≤ 1048576) :
    Calls Try.prog 4 #[.int .u64 n, .slice A1 n1 c1, .slice A2 n2 c2] w fun e w' => e = .returned (.bool true) ∧ Below w.heap.size w w' := by
  have HS := Lib.hid hs.len
  have HB := Lib.hid hb.len
  obtain ⟨kk, hkk⟩ : ∃ kk, kk = (vb n.toNat).length := ⟨_, rfl⟩
  have HK := Lib.hid hkk
  have hk10 := (vb_len n.toNat).2
  rw [← hkk] at hk10
  have hrv := Lib.hid (rv_vb n.toNat (by omega) bh)
  have hyv := vb_by n.toNat (by omega)
  have hyb := hyv.append hb.by_
  have hen : ((n.toNat : Nat) : Int) = n := by omega
  have HEN := Lib.hid hen
  clear hen hkk
  go_enter Try.func4, Try.ntmps4
  go_upto_region 5 with (first
    | (go_at_call 20; refine (begun_any _).mono ?_; rintro e w1 ⟨rfl, hw⟩)
    | (go_at_call 28; refine (varint_any n n0 n64 _).mono ?_; rintro e w2 ⟨v2, rfl, hO2, hw2⟩; have hw3 := below_step hw hw2)
    | (at_builtin; (refine wpList_append_by (w0 := w1) rfl w1.heap.size (.tmp 17) (.tmp 18) 25 5 rfl Try.underlying25 info5 v2 (vb n.toNat) rfl hO2 A2 n2 c2 bh rfl (hb.below hw3) hw2 hw2.size ?_ ?_; (rw [← HK.out]; omega); intro v3 w3 hO3 hB3 hg3 hat3; have hw4 := below_step hw hB3; obtain ⟨A3, n3, c3, rfl, hc3, hb3⟩ := hO3.readN hyb (by rw [List.length_append, ← HK.out, HB.out]; omega)))
    | (go_at_call 22; (refine (read_any A3 n3 c3 _ _ hb3).mono ?_; rw [hrv.out, HEN.out, ← HK.out]; rintro e w4 ⟨rfl, rfl⟩)))
  have hk3 : kk ≤ n3 := by rw [← hb3.len, List.length_append, ← HK.out]; omega
  have hbk := hb3.take kk hk3
  rw [HK.out, List.take_left, ← HK.out] at hbk
  have q0 : (0 : Int) ≤ (kk : Int) := Int.natCast_nonneg _
  have q1 : (kk : Int) ≤ (c3 : Int) := by omega
  have qe := eqI_self (vb n.toNat)
  go_cut [41] (fun cv wc => cv = .bool false ∧ Below w.heap.size w wc)
  case first =>
    go_region_held3 (fun w' => RB w' A3 kk (vb n.toNat) ∧ Below w.heap.size w w')
      (first
        | exact ⟨hbk.drewN 1, hw4.drew⟩
        | exact ⟨hh.1.below hwn, below_step hh.2 hwn⟩
        | exact hh)
      (first
        | (go_at_call 28; have hh : RB _ A3 kk (vb n.toNat) ∧ Below w.heap.size w _ := (by assumption); refine (varint_any n n0 n64 _).mono ?_; rintro e w5 ⟨v5, rfl, hO5, hwn⟩; obtain ⟨A5, n5, c5, rfl, hc5, hb5⟩ := hO5.readN hyv (by rw [← HK.out]; omega))
        | (go_at_call 26; have hh : RB _ A3 kk (vb n.toNat) ∧ Below w.heap.size w _ := (by assumption); refine (eq_any A5 A3 n5 kk c5 c3 _ _ _ hb5 hh.1).mono ?_; rw [qe]; rintro e w6 ⟨rfl, hwn⟩))
    all_goals
      go_wp2_with fail
      go_meet
      case rel => exact ⟨rfl, below_step hh.2 hwn⟩
  case rest =>
    clear hw3 hw4 hw hbk hb3 hO3 hB3 hg3 hat3 hO2 hw2
    obtain ⟨rfl, hw⟩ := hcut
    obtain ⟨k2, hk2⟩ : ∃ k2, k2 = (sb s).length := ⟨_, rfl⟩
    have hrs := rs_sb s bh (by rw [HS.out]; omega)
    rw [HS.out, ← hk2] at hrs
    have HRS := Lib.hid hrs
    have hk2n : k2 ≤ n1 + 10 := by rw [hk2]; unfold sb; rw [List.length_append, HS.out]; have := (vb_len n1).2; omega
    have HK2 := Lib.hid hk2
    have hys := sb_by hs.by_ (by rw [HS.out]; omega)
    have hysb := hys.append hb.by_
    have qs := eqI_self s
    clear hrs hk2 qe
    go_upto_region 12 with (first
      | (go_at_call 29; refine (string_any A1 n1 c1 s (by omega) _ (hs.below hw)).mono ?_; rintro e w2 ⟨v2, rfl, hO2, hw2⟩; have hw3 := below_step hw hw2)
      | (at_builtin; (refine wpList_append_by (w0 := wc) rfl wc.heap.size (.tmp 43) (.tmp 44) 25 5 rfl Try.underlying25 info5 v2 (sb s) rfl hO2 A2 n2 c2 bh rfl (hb.below hw3) hw2 hw2.size ?_ ?_; (rw [← HK2.out]; omega); intro v3 w3 hO3 hB3 hg3 hat3; have hw4 := below_step hw hB3; obtain ⟨A3, n3, c3, rfl, hc3, hb3⟩ := hO3.readN hysb (by rw [List.length_append, ← HK2.out, HB.out]; omega); obtain rfl : n3 = k2 + n2 := (by rw [← hb3.len, List.length_append, ← HK2.out, HB.out]); have hq1 : ((k2 + n2 : Nat) : Int) - (n2 : Int) = (k2 : Int) := (by omega); have hq2 : IntKind.i64.wrap ((k2 : Int) + (n2 : Int) - (n2 : Int)) = (k2 : Int) := (by rw [IntKind.wrap_i64]; omega); have hq3 : (k2 : Int) + (n2 : Int) - (n2 : Int) = (k2 : Int) := (by omega); have hq4 : IntKind.i64.wrap (((k2 + n2 : Nat) : Int) - (n2 : Int)) = (k2 : Int) := (by rw [IntKind.wrap_i64]; omega)))
      | (go_at_call 24; (refine (rstr_any A3 (k2 + n2) c3 _ n1 _ hb3 hc3 (by omega) (by omega)).mono ?_; rw [HRS.out]; rintro e w4 ⟨v4, rfl, hO4, hw44⟩; have hw5 := below_step hw4 hw44; obtain ⟨A4, n4, c4, rfl, hc4, hb4⟩ := hO4.readN hs.by_ (by rw [HS.out]; omega)))
      | (go_at_call 26; (refine (eq_any A4 A1 n4 n1 c4 c1 _ _ _ hb4 (hs.below hw5)).mono ?_; rw [qs]; rintro e w6 ⟨rfl, hw66⟩; have hw7 := below_step hw5 hw66)))
    rcases rvI_cases bh hb.by_ with (h | h) | ⟨x, j, h, x0, x1, j0, j1, j2⟩
    · go_upto_region 12 with (go_at_call 22; refine (read_any A2 n2 c2 bh _ (hb.below hw7)).mono ?_; rw [h]; rintro e w8 ⟨rfl, rfl⟩)
      go_quiet (fail)
      go_wp2_with fail
      go_ret
      exact ⟨rfl, below_drewN hw7 _⟩
    · go_upto_region 12 with (go_at_call 22; refine (read_any A2 n2 c2 bh _ (hb.below hw7)).mono ?_; rw [h]; rintro e w8 ⟨rfl, rfl⟩)
      go_quiet (fail)
      go_wp2_with fail
      go_ret
      exact ⟨rfl, below_drewN hw7 _⟩
    · have hvx := vb_rv bh hb.by_ x j h
      have hyx := vb_by x.toNat (by omega)
      have hxl := (vb_len x.toNat).2
      have HVX := Lib.hid (And.intro hvx (And.intro hyx hxl))
      have e0 : (0 : Int) ≤ (j : Int) := Int.natCast_nonneg _
      have e1 : (j : Int) ≤ (c2 : Int) := by have := HB.out; omega
      have e2 : decide ((1 : Int) ≤ (j : Int)) = true := by simp; omega
      have e3 : decide ((j : Int) ≤ 10) = true := by simp; omega
      have hjn : j ≤ n2 := by have := HB.out; omega
      have HJ := Lib.hid (And.intro j0 (And.intro j1 j2))
      have hx1 := Lib.hid x1
      have hqj := eqI_self (bh.take j)
      clear hvx hyx hxl j0 j1 j2
      go_upto_region 12 with (go_at_call 22; refine (read_any A2 n2 c2 bh _ (hb.below hw7)).mono ?_; rw [h]; rintro e w8 ⟨rfl, rfl⟩)
      clear h
      have hw8 := hw7.drew
      refine wp_region_held_drew (S := fun w' => Below w.heap.size w w') (by kernel_rfl) hw8 (fun hHeld => ?_)
      refine wpAnyH_take (i := 0) (v := .int .i64 0) rfl (by kernel_rfl) (by kernel_rfl) (by kernel_rfl) (fun _ _ _ h => h) (Or.inl ⟨by kernel_rfl, fun w hSw => by go_simp⟩) hHeld ?_
      try simp only [List.getElem_toArray, List.getElem_cons_succ, List.getElem_cons_zero, Act.put, List.setIfInBounds_toArray, List.set_cons_zero, List.set_cons_succ]
      refine wpAnyH_take (i := 1) (v := .bool false) rfl (by kernel_rfl) (by kernel_rfl) (by kernel_rfl) (fun _ _ _ h => h) (Or.inl ⟨by kernel_rfl, fun w hSw => by go_simp⟩) hHeld ?_
      try simp only [List.getElem_toArray, List.getElem_cons_succ, List.getElem_cons_zero, Act.put, List.setIfInBounds_toArray, List.set_cons_zero, List.set_cons_succ]
      refine wpAnyH_take (i := 2) (v := .bool false) rfl (by kernel_rfl) (by kernel_rfl) (by kernel_rfl) (fun _ _ _ h => h) (Or.inl ⟨by kernel_rfl, fun w hSw => by go_simp⟩) hHeld ?_
      try simp only [List.getElem_toArray, List.getElem_cons_succ, List.getElem_cons_zero, Act.put, List.setIfInBounds_toArray, List.set_cons_zero, List.set_cons_succ]
      refine wpAnyH_take (i := 3) (v := undef) rfl (by kernel_rfl) (by kernel_rfl) (by kernel_rfl) (fun _ _ _ h => h) (Or.inr ⟨by kernel_rfl, rfl⟩) hHeld ?_
      try simp only [List.getElem_toArray, List.getElem_cons_succ, List.getElem_cons_zero, Act.put, List.setIfInBounds_toArray, List.set_cons_zero, List.set_cons_succ]
      refine wpAnyH_take (i := 4) (v := undef) rfl (by kernel_rfl) (by kernel_rfl) (by kernel_rfl) (fun _ _ _ h => h) (Or.inr ⟨by kernel_rfl, rfl⟩) hHeld ?_
      try simp only [List.getElem_toArray, List.getElem_cons_succ, List.getElem_cons_zero, Act.put, List.setIfInBounds_toArray, List.set_cons_zero, List.set_cons_succ]
      refine wpAnyH_take (i := 5) (v := .bool false) rfl (by kernel_rfl) (by kernel_rfl) (by kernel_rfl) (fun _ _ _ h => h) (Or.inl ⟨by kernel_rfl, fun w hSw => by go_simp⟩) hHeld ?_
      try simp only [List.getElem_toArray, List.getElem_cons_succ, List.getElem_cons_zero, Act.put, List.setIfInBounds_toArray, List.set_cons_zero, List.set_cons_succ]
      refine wpAnyH_take (i := 6) (v := .bool false) rfl (by kernel_rfl) (by kernel_rfl) (by kernel_rfl) (fun _ _ _ h => h) (Or.inl ⟨by kernel_rfl, fun w hSw => by go_simp⟩) hHeld ?_
      try simp only [List.getElem_toArray, List.getElem_cons_succ, List.getElem_cons_zero, Act.put, List.setIfInBounds_toArray, List.set_cons_zero, List.set_cons_succ]
      refine wpAnyH_take (i := 7) (v := undef) rfl (by kernel_rfl) (by kernel_rfl) (by kernel_rfl) (fun _ _ _ h => h) (Or.inr ⟨by kernel_rfl, rfl⟩) hHeld ?_
      try simp only [List.getElem_toArray, List.getElem_cons_succ, List.getElem_cons_zero, Act.put, List.setIfInBounds_toArray, List.set_cons_zero, List.set_cons_succ]
      refine wpAnyH_take (i := 8) (v := undef) rfl (by kernel_rfl) (by kernel_rfl) (by kernel_rfl) (fun _ _ _ h => h) (Or.inr ⟨by kernel_rfl, rfl⟩) hHeld ?_
      try simp only [List.getElem_toArray, List.getElem_cons_succ, List.getElem_cons_zero, Act.put, List.setIfInBounds_toArray, List.set_cons_zero, List.set_cons_succ]
      refine wpAnyH_take (i := 9) (v := .bool false) rfl (by kernel_rfl) (by kernel_rfl) (by kernel_rfl) (fun _ _ _ h => h) (Or.inl ⟨by kernel_rfl, fun w hSw => by go_simp⟩) hHeld ?_
      try simp only [List.getElem_toArray, List.getElem_cons_succ, List.getElem_cons_zero, Act.put, List.setIfInBounds_toArray, List.set_cons_zero, List.set_cons_succ]
      refine wpAnyH_take (i := 10) (v := .bool false) rfl (by kernel_rfl) (by kernel_rfl) (by kernel_rfl) (fun _ _ _ h => h) (Or.inl ⟨by kernel_rfl, fun w hSw => by go_simp⟩) hHeld ?_
      try simp only [List.getElem_toArray, List.getElem_cons_succ, List.getElem_cons_zero, Act.put, List.setIfInBounds_toArray, List.set_cons_zero, List.set_cons_succ]
      refine wpAnyH_take (i := 11) (v := .int .i64 0) rfl (by kernel_rfl) (by kernel_rfl) (by kernel_rfl) (fun _ _ _ h => h) (Or.inl ⟨by kernel_rfl, fun w hSw => by go_simp⟩) hHeld ?_
      try simp only [List.getElem_toArray, List.getElem_cons_succ, List.getElem_cons_zero, Act.put, List.setIfInBounds_toArray, List.set_cons_zero, List.set_cons_succ]
      refine wpAnyH_take (i := 12) (v := .bool true) rfl (by kernel_rfl) (by kernel_rfl) (by kernel_rfl) (fun _ _ _ h => h) (Or.inl ⟨by kernel_rfl, fun w hSw => by go_simp⟩) hHeld ?_
      try simp only [List.getElem_toArray, List.getElem_cons_succ, List.getElem_cons_zero, Act.put, List.setIfInBounds_toArray, List.set_cons_zero, List.set_cons_succ]
      refine wpAnyH_take (i := 13) (v := .bool true) rfl (by kernel_rfl) (by kernel_rfl) (by kernel_rfl) (fun _ _ _ h => h) (Or.inl ⟨by kernel_rfl, fun w hSw => by go_simp⟩) hHeld ?_
      try simp only [List.getElem_toArray, List.getElem_cons_succ, List.getElem_cons_zero, Act.put, List.setIfInBounds_toArray, List.set_cons_zero, List.set_cons_succ]
      refine wpAnyH_take (i := 14) (v := .int .i64 j) rfl (by kernel_rfl) (by kernel_rfl) (by kernel_rfl) (fun _ _ _ h => h) (Or.inl ⟨by kernel_rfl, fun w hSw => by go_simp⟩) hHeld ?_
      try simp only [List.getElem_toArray, List.getElem_cons_succ, List.getElem_cons_zero, Act.put, List.setIfInBounds_toArray, List.set_cons_zero, List.set_cons_succ]
      refine wpAnyH_take (i := 15) (v := .bool true) rfl (by kernel_rfl) (by kernel_rfl) (by kernel_rfl) (fun _ _ _ h => h) (Or.inl ⟨by kernel_rfl, fun w hSw => by go_simp⟩) hHeld ?_
      try simp only [List.getElem_toArray, List.getElem_cons_succ, List.getElem_cons_zero, Act.put, List.setIfInBounds_toArray, List.set_cons_zero, List.set_cons_succ]
      refine wpAnyH_take (i := 16) (v := .bool true) rfl (by kernel_rfl) (by kernel_rfl) (by kernel_rfl) (fun _ _ _ h => h) (Or.inl ⟨by kernel_rfl, fun w hSw => by go_simp⟩) hHeld ?_
      try simp only [List.getElem_toArray, List.getElem_cons_succ, List.getElem_cons_zero, Act.put, List.setIfInBounds_toArray, List.set_cons_zero, List.set_cons_succ]
      refine wpAnyH_take (i := 17) (v := .bool true) rfl (by kernel_rfl) (by kernel_rfl) (by kernel_rfl) (fun _ _ _ h => h) (Or.inl ⟨by kernel_rfl, fun w hSw => by go_simp⟩) hHeld ?_
      try simp only [List.getElem_toArray, List.getElem_cons_succ, List.getElem_cons_zero, Act.put, List.setIfInBounds_toArray, List.set_cons_zero, List.set_cons_succ]
      refine wpAnyH_take (i := 18) (v := .int .i64 j) rfl (by kernel_rfl) (by kernel_rfl) (by kernel_rfl) (fun _ _ _ h => h) (Or.inl ⟨by kernel_rfl, fun w hSw => by go_simp⟩) hHeld ?_
      try simp only [List.getElem_toArray, List.getElem_cons_succ, List.getElem_cons_zero, Act.put, List.setIfInBounds_toArray, List.set_cons_zero, List.set_cons_succ]
      refine wpAnyH_take (i := 19) (v := .bool true) rfl (by kernel_rfl) (by kernel_rfl) (by kernel_rfl) (fun _ _ _ h => h) (Or.inl ⟨by kernel_rfl, fun w hSw => by go_simp⟩) hHeld ?_
      try simp only [List.getElem_toArray, List.getElem_cons_succ, List.getElem_cons_zero, Act.put, List.setIfInBounds_toArray, List.set_cons_zero, List.set_cons_succ]
      refine wpAnyH_take (i := 20) (v := .bool true) rfl (by kernel_rfl) (by kernel_rfl) (by kernel_rfl) (fun _ _ _ h => h) (Or.inl ⟨by kernel_rfl, fun w hSw => by go_simp⟩) hHeld ?_
      try simp only [List.getElem_toArray, List.getElem_cons_succ, List.getElem_cons_zero, Act.put, List.setIfInBounds_toArray, List.set_cons_zero, List.set_cons_succ]
      refine wpAnyH_take (i := 21) (v := .bool true) rfl (by kernel_rfl) (by kernel_rfl) (by kernel_rfl) (fun _ _ _ h => h) (Or.inl ⟨by kernel_rfl, fun w hSw => by go_simp⟩) hHeld ?_
      try simp only [List.getElem_toArray, List.getElem_cons_succ, List.getElem_cons_zero, Act.put, List.setIfInBounds_toArray, List.set_cons_zero, List.set_cons_succ]
      refine wpAnyH_take (i := 22) (v := .int .u64 x) rfl (by kernel_rfl) (by kernel_rfl) (by kernel_rfl) (fun _ _ _ h => h) (Or.inl ⟨by kernel_rfl, fun w hSw => by go_simp⟩) hHeld ?_
      try simp only [List.getElem_toArray, List.getElem_cons_succ, List.getElem_cons_zero, Act.put, List.setIfInBounds_toArray, List.set_cons_zero, List.set_cons_succ]
      refine wpAnyH_take (i := 24) (v := .slice A2 n2 c2) rfl (by kernel_rfl) (by kernel_rfl) (by kernel_rfl) (fun _ _ _ h => h) (Or.inl ⟨by kernel_rfl, fun w hSw => by go_simp⟩) hHeld ?_
      try simp only [List.getElem_toArray, List.getElem_cons_succ, List.getElem_cons_zero, Act.put, List.setIfInBounds_toArray, List.set_cons_zero, List.set_cons_succ]
      refine wpAnyH_take (i := 25) (v := .int .i64 j) rfl (by kernel_rfl) (by kernel_rfl) (by kernel_rfl) (fun _ _ _ h => h) (Or.inl ⟨by kernel_rfl, fun w hSw => by go_simp⟩) hHeld ?_
      try simp only [List.getElem_toArray, List.getElem_cons_succ, List.getElem_cons_zero, Act.put, List.setIfInBounds_toArray, List.set_cons_zero, List.set_cons_succ]
      refine wpAnyH_take (i := 26) (v := .slice A2 j c2) rfl (by kernel_rfl) (by kernel_rfl) (by kernel_rfl) (fun _ _ _ h => h) (Or.inl ⟨by kernel_rfl, fun w hSw => by go_simp⟩) hHeld ?_
      try simp only [List.getElem_toArray, List.getElem_cons_succ, List.getElem_cons_zero, Act.put, List.setIfInBounds_toArray, List.set_cons_zero, List.set_cons_succ]
      refine wpAnyH_ready (rs := [23]) (by kernel_rfl) (by simp) ?_
      refine AllReadyH.cons rfl (fun K hK => ?_) AllReadyH.nil
      rw [if_pos (by kernel_rfl)]
      go_simp
      go_at_call 28
      refine (varint_any x x0 hx1.out _).mono ?_
      rintro e w9 ⟨v9, rfl, hO9, hwn⟩
      have hw9 := below_step hw8 hwn
      obtain ⟨A9, n9, c9, rfl, hc9, hb9⟩ := hO9.readN HVX.out.2.1 (by have := HVX.out.2.2; omega)
      rw [HVX.out.1] at hb9
      refine hK.out _ _ hw9 (fun hHeld2 => ?_)
      clear hK K
      try simp only [List.getElem_toArray, List.getElem_cons_succ, List.getElem_cons_zero, Act.put, List.setIfInBounds_toArray, List.set_cons_zero, List.set_cons_succ]
      refine wpAnyH_ready (rs := [27]) (by kernel_rfl) (by simp) ?_
      refine AllReadyH.cons rfl (fun K hK => ?_) AllReadyH.nil
      rw [if_pos (by kernel_rfl)]
      go_simp
      go_at_call 26
      refine (eq_any A9 A2 n9 j c9 c2 _ _ _ hb9 ((hb.below hw9).take j hjn)).mono ?_
      rw [hqj]
      rintro e w10 ⟨rfl, hwn2⟩
      have hw10 := below_step hw9 hwn2
      refine hK.out _ _ hw10 (fun hHeld3 => ?_)
      clear hK K
      try simp only [List.getElem_toArray, List.getElem_cons_succ, List.getElem_cons_zero, Act.put, List.setIfInBounds_toArray, List.set_cons_zero, List.set_cons_succ]
      refine wpAnyH_take (i := 28) (v := .bool true) rfl (by kernel_rfl) (by kernel_rfl) (by kernel_rfl) (fun _ _ _ h => h) (Or.inl ⟨by kernel_rfl, fun w hSw => by go_simp⟩) hHeld3 ?_
      try simp only [List.getElem_toArray, List.getElem_cons_succ, List.getElem_cons_zero, Act.put, List.setIfInBounds_toArray, List.set_cons_zero, List.set_cons_succ]
      refine wpAnyH_take (i := 29) (v := .bool true) rfl (by kernel_rfl) (by kernel_rfl) (by kernel_rfl) (fun _ _ _ h => h) (Or.inl ⟨by kernel_rfl, fun w hSw => by go_simp⟩) hHeld3 ?_
      try simp only [List.getElem_toArray, List.getElem_cons_succ, List.getElem_cons_zero, Act.put, List.setIfInBounds_toArray, List.set_cons_zero, List.set_cons_succ]
      refine wpAnyH_take (i := 30) (v := .bool true) rfl (by kernel_rfl) (by kernel_rfl) (by kernel_rfl) (fun _ _ _ h => h) (Or.inl ⟨by kernel_rfl, fun w hSw => by go_simp⟩) hHeld3 ?_
      try simp only [List.getElem_toArray, List.getElem_cons_succ, List.getElem_cons_zero, Act.put, List.setIfInBounds_toArray, List.set_cons_zero, List.set_cons_succ]
      refine wpAnyH_done (by kernel_rfl) ?_ _
      go_wp2_with fail
      go_ret
      exact ⟨rfl, hw10⟩
end Go.Proofs.Ythggicgbcgeggaa
