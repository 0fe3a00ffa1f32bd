/- Walk: flumelaw1.WireRuns returns true . -/
import Derived.Test.YthggicgbcgeggaaV15
import Derived.Deep.RegionHeld3
import Derived.Deep.CutRange
import Derived.Deep.DeepCutAuto
import Derived.Deep.CutBlock
set_option linter.unusedVariables false
set_option linter.unusedSimpArgs false
namespace Go.Proofs.Ythggicgbcgeggaa
open Go.RowKit
theorem RS.drew {w : World} {g : Nat} {A : Option Addr} {n c : Nat} {l : List Int} {p : Nat} {b : Int} (h : RS w g A n c l p b) : RS w.drew g A n c l p b := ⟨h.rd, ⟨h.rb.len, h.rb.top, h.rb.cell, h.rb.rng⟩, h.hc, h.hp⟩
theorem fld_by {u i : Int} {s : List Int} (hs : BY s) (hu : u.toNat < 2 ^ 64) (hi : (zigI i).toNat < 2 ^ 64) (hn : s.length < 2 ^ 64) : BY (fld u i s) :=
  (vb_by _ hu).append ((vb_by _ hi).append ((fb_by _ _).append ((fb_by _ _).append (sb_by hs hn))))
theorem joinF_by (us is : List Int) (ls : List (List Int)) : ∀ k, (∀ j, j < k → (nth us j < 18446744073709551616) ∧ (-9223372036854775808 ≤ nth is j ∧ nth is j ≤ 9223372036854775807) ∧ BY (ls.getD j []) ∧ (ls.getD j []).length ≤ 140737488351232) → BY (joinF us is ls k)
  | 0, _ => by intro x hx; simp [joinF] at hx
  | k + 1, h => by
    obtain ⟨h1, h2, h3, h4⟩ := h k (by omega)
    have hz := zigI_rng _ h2.1 h2.2
    exact (joinF_by us is ls k (fun j hj => h j (by omega))).append (fld_by h3 (by omega) (by omega) (by omega))
set_option maxRecDepth 20000 in
set_option maxHeartbeats 2000000 in
theorem runs_law (AU : Option Addr) (nu cu : Nat) (us : List Int) (AI : Option Addr) (ni ci : Nat) (is : List Int) (AB : Option Addr) (nb cb : Nat) (ls : List (List Int)) (w : World)
    (hU : RI .u64 w AU nu us) (hI : RI .i64 w AI ni is) (hB : RBB w AB nb ls) (hT : ∀ k, k ≤ nb → tot ls k ≤ 1048576) :
    Calls Try.prog 10 #[.slice AU nu cu, .slice AI ni ci, .slice AB nb cb] w fun e w' => e = .returned (.bool true) ∧ Below w.heap.size w w' := by
  have tu := hU.top
  have ti := hI.top
  have tb := hB.top
  by_cases c1' : nu ≠ ni
  · have d1 : ((nu : Int) != (ni : Int)) = true := by simp; omega
    go_enter Try.func10, Try.ntmps10
    go_wp2_with (go_at_call 20; refine (begun_any _).mono ?_; rintro e w1 ⟨rfl, hw⟩)
    all_goals (go_ret; exact ⟨rfl, hw⟩)
  by_cases c2' : nu ≠ nb
  · obtain rfl : nu = ni := by omega
    have d1 : ((nu : Int) != (nb : Int)) = true := by simp; omega
    clear c1'
    go_enter Try.func10, Try.ntmps10
    go_wp2_with (go_at_call 20; refine (begun_any _).mono ?_; rintro e w1 ⟨rfl, hw⟩)
    all_goals (go_ret; exact ⟨rfl, hw⟩)
  by_cases c3 : 60 < nu
  · obtain rfl : ni = nu := by omega
    obtain rfl : nb = ni := by omega
    clear c1' c2'
    go_enter Try.func10, Try.ntmps10
    go_wp2_with (go_at_call 20; refine (begun_any _).mono ?_; rintro e w1 ⟨rfl, hw⟩)
    all_goals (go_ret; exact ⟨rfl, hw⟩)
  obtain rfl : ni = nu := by omega
  obtain rfl : nb = ni := by omega
  obtain ⟨nu, hnu⟩ : ∃ nu, nu = nb := ⟨_, rfl⟩
  subst hnu
  clear c1' c2'
  have d3 : decide ((60 : Int) < (nu : Int)) = false := by simp; omega
  have H60 := Lib.hid c3
  clear c3
  go_enter Try.func10, Try.ntmps10
  go_wp2_with (go_at_call 20; refine (begun_any _).mono ?_; rintro e w1 ⟨rfl, hw⟩)
  go_loopw [7, 8] (fun b i wr => ∃ (k : Nat) (bv : Value), bv = b ∧ k ≤ nu ∧ i = .int .i64 k ∧ OB 5 wr w.heap.size b (joinF us is ls k) ∧ Below w.heap.size w wr) (fun _ i _ => nu - (intOf i).toNat)
  case atStart => exact ⟨0, _, rfl, by omega, rfl, OB.nil _ _ _, hw⟩
  case round =>
    clear hw
    obtain ⟨k, b, rfl, hk, rfl, hown, hw⟩ := hrel
    by_cases hlt : k < nu
    · obtain ⟨ud, rfl, hcu⟩ := hU.cell k hlt
      obtain ⟨u0, u1⟩ := wf_u64 (hU.wf_nth k hlt)
      obtain ⟨idd, rfl, hci⟩ := hI.cell k hlt
      obtain ⟨i0, i1⟩ := wf_i64' (hI.wf_nth k hlt)
      obtain ⟨ad, A2, c2, rfl, hcb, hr2, hn2, hc2⟩ := hB.cell k hlt
      have hjl := joinF_len us is ls k
      have hjt := hT (k + 1) (by omega)
      have hju : joinF us is ls (k + 1) = joinF us is ls k ++ fld (nth us k) (nth is k) (ls.getD k []) := rfl
      simp only [tot] at hjt
      obtain ⟨u, hu⟩ : ∃ u, u = nth us k := ⟨_, rfl⟩
      obtain ⟨n, hn⟩ : ∃ n, n = nth is k := ⟨_, rfl⟩
      obtain ⟨l2, hl2⟩ : ∃ l2, l2 = ls.getD k [] := ⟨_, rfl⟩
      rw [← hu] at hcu u0 u1 hju
      rw [← hn] at hci i0 i1 hju
      rw [← hl2] at hcb hr2 hn2 hc2 hjt hju
      obtain ⟨n2, hn2'⟩ : ∃ n2, n2 = l2.length := ⟨_, rfl⟩
      rw [← hn2'] at hcb hr2 hn2 hc2 hjt
      clear hu hn hl2 hn2'
      have HJU := Lib.hid hju
      have HJ := Lib.hid (And.intro hjl hjt)
      have hzr := Lib.hid (zigI_rng n i0 i1)
      have ew : IntKind.u32.wrap u = u % 4294967296 := by rw [IntKind.wrap_u32]
      have hcu1 := cell_keep hw hcu
      have hl1 := Lib.hid (vb_len u.toNat).2
      have hl3 := Lib.hid (vb_len (zigI n).toNat).2
      have hl4 := Lib.hid (show (sb l2).length ≤ n2 + 10 by unfold sb; rw [List.length_append, hr2.len]; have := (vb_len n2).2; omega)
      clear hju hjl hjt
      go_wp2_with (first
        | (go_at_call 28; with_reducible refine (varint_any u u0 u1 wr).mono ?_; rintro e w2 ⟨v2, rfl, hO2, hw2⟩; have hw3 := below_step hw hw2; obtain ⟨A3, n3, c3, rfl, hc3, hb3⟩ := hO2.readN (vb_by _ (by omega)) (by have := hl1.out; omega); have hown2 := hown.below hw2)
        | (at_builtin; refine wpList_append_by (w0 := w) rfl w.heap.size (.tmp 38) (.tmp 43) 25 5 rfl Try.underlying25 info5 b (joinF us is ls k) rfl hown2 A3 n3 c3 (vb u.toNat) rfl hb3 hw3 hw3.size ?_ ?_; (have := HJ.out; have := hl1.out; have := hb3.len; have := H60.out; omega); intro v4 w4 hO4 hB4 hg4 hat4; have hci4 := cell_keep hB4 hci)
        | (go_at_call 32; refine (zig_any n i0 i1 _).mono ?_; rintro e w5 ⟨rfl, rfl⟩)
        | (go_at_call 28; refine (varint_any (zigI n) hzr.out.1 hzr.out.2 _).mono ?_; rintro e w6 ⟨v6, rfl, hO6, hw6⟩; have hw7 := below_to hB4 hB4.size hw6; obtain ⟨A7, n7, c7, rfl, hc7, hb7⟩ := hO6.readN (vb_by _ (by have := hzr.out; omega)) (by have := hl3.out; omega); have hO8 := hO4.below hw6)
        | (at_builtin; refine wpList_append_by (w0 := w) rfl w.heap.size (.tmp 45) (.tmp 51) 25 5 rfl Try.underlying25 info5 v4 (joinF us is ls k ++ vb u.toNat) rfl hO8 A7 n7 c7 (vb (zigI n).toNat) rfl hb7 hw7 hw7.size ?_ ?_; (have := HJ.out; have := hl1.out; have := hl3.out; have := hb7.len; have := H60.out; rw [List.length_append]; omega); intro v9 w9 hO9 hB9 hg9 hat9; have hcu9 := cell_keep hB9 hcu)
        | (go_at_call 34; refine (fixed32_any (u % 4294967296) (by omega) (by omega) _).mono ?_; rintro e w10 ⟨v10, rfl, hO10, hw10⟩; have hw11 := below_to hB9 hB9.size hw10; obtain ⟨A11, n11, c11, rfl, hc11, hb11⟩ := hO10.readN (fb_by _ _) (by rw [fb_len]; omega); have hO12 := hO9.below hw10)
        | (at_builtin; (refine wpList_append_by (w0 := w) rfl w.heap.size (.tmp 53) (.tmp 59) 25 5 rfl Try.underlying25 info5 v9 (joinF us is ls k ++ vb u.toNat ++ vb (zigI n).toNat) rfl hO12 A11 n11 c11 (fb (u % 4294967296) 4) rfl hb11 hw11 hw11.size ?_ ?_; (have := HJ.out; have := hl1.out; have := hl3.out; have := hl4.out; have := H60.out; simp only [List.length_append, fb_len]; have := hb11.len; rw [fb_len] at this; omega); intro v13 w13 hO13 hB13 hg13 hat13; have hcu13 := cell_keep hB13 hcu))
        | (go_at_call 35; refine (fixed64_any u u0 u1 _).mono ?_; rintro e w14 ⟨v14, rfl, hO14, hw14⟩; have hw15 := below_to hB13 hB13.size hw14; obtain ⟨A15, n15, c15, rfl, hc15, hb15⟩ := hO14.readN (fb_by _ _) (by rw [fb_len]; omega); have hO16 := hO13.below hw14)
        | (at_builtin; (refine wpList_append_by (w0 := w) rfl w.heap.size (.tmp 61) (.tmp 66) 25 5 rfl Try.underlying25 info5 v13 (joinF us is ls k ++ vb u.toNat ++ vb (zigI n).toNat ++ fb (u % 4294967296) 4) rfl hO16 A15 n15 c15 (fb u 8) rfl hb15 hw15 hw15.size ?_ ?_; (have := HJ.out; have := hl1.out; have := hl3.out; have := hl4.out; have := H60.out; simp only [List.length_append, fb_len]; have := hb15.len; rw [fb_len] at this; omega); intro v17 w17 hO17 hB17 hg17 hat17; have hcb17 := cell_keep hB17 hcb))
        | (go_at_call 29; refine (string_any A2 n2 c2 l2 hn2 _ (hr2.below hB17)).mono ?_; rintro e w18 ⟨v18, rfl, hO18, hw18⟩; have hw19 := below_to hB17 hB17.size hw18; obtain ⟨A19, n19, c19, rfl, hc19, hb19⟩ := hO18.readN (sb_by hr2.by_ (by rw [hr2.len]; omega)) (by have := hl4.out; omega); have hO20 := hO17.below hw18)
        | (at_builtin; (refine wpList_append_by (w0 := w) rfl w.heap.size (.tmp 68) (.tmp 73) 25 5 rfl Try.underlying25 info5 v17 (joinF us is ls k ++ vb u.toNat ++ vb (zigI n).toNat ++ fb (u % 4294967296) 4 ++ fb u 8) rfl hO20 A19 n19 c19 (sb l2) rfl hb19 hw19 hw19.size ?_ ?_; (have := HJ.out; have := hl1.out; have := hl3.out; have := hl4.out; have := H60.out; simp only [List.length_append, fb_len]; have := hb19.len; have := hl4.out; omega); intro v21 w21 hO21 hB21 hg21 hat21)))
      go_roundw
      case rel =>
        refine ⟨k + 1, _, rfl, by omega, by go_num, ?_, hB21⟩
        rw [HJU.out]
        unfold fld
        simp only [List.append_assoc] at hO21
        exact hO21
      case measure => simp [intOf]; omega
    · obtain rfl : k = nu := by omega
      obtain ⟨A7, n7, c7, rfl, hc7, hb7⟩ := hown.readN (joinF_by us is ls k (fun j hj => ⟨(wf_u64 (hU.wf_nth j hj)).2, wf_i64' (hI.wf_nth j hj), (hB.cell j hj).elim fun _ h => h.elim fun _ h => h.elim fun _ h => ⟨h.2.2.1.by_, h.2.2.2.1⟩⟩)) (by have := joinF_len us is ls k; have := hT k (by omega); have := H60.out; omega)
      have HLEN := Lib.hid hb7.len
      go_wp2_with (go_at_call 42; refine (newReader_rs A7 n7 c7 _ _ hb7).mono ?_; rintro e w2 ⟨g, A2, c2, rfl, hg2, hs2, hB2⟩; have hw2 := below_to hw hw.size hB2; have hgw := Nat.le_trans hw.size hg2)
      clear hown hb7 hB2 hg2
      obtain ⟨L, hL⟩ : ∃ L, L = joinF us is ls k := ⟨_, rfl⟩
      rw [← hL] at hs2
      have HL := Lib.hid hL
      clear hL
      go_loopw [10] (fun i wr => ∃ (m p : Nat), m ≤ k ∧ i = .int .i64 m ∧ Hid (p = (joinF us is ls m).length) ∧ RS wr g A2 n7 c2 L p 0 ∧ Below w.heap.size w wr) (fun i _ => k - (intOf i).toNat)
      case atStart => exact ⟨0, 0, by omega, rfl, rfl, hs2, hw2⟩
      case round =>
        clear hw hw2 hs2
        obtain ⟨m, p, hm, rfl, HP, hs, hw⟩ := hrel
        by_cases hlt : m < k
        · obtain ⟨ud, rfl, hcu⟩ := hU.cell m hlt
          obtain ⟨u0, u1⟩ := wf_u64 (hU.wf_nth m hlt)
          obtain ⟨idd, rfl, hci⟩ := hI.cell m hlt
          obtain ⟨i0, i1⟩ := wf_i64' (hI.wf_nth m hlt)
          obtain ⟨ad, A3, c3, rfl, hcb, hr3, hn3, hc3⟩ := hB.cell m hlt
          obtain ⟨rest, hsp⟩ := joinF_split us is ls m k hlt
          obtain ⟨p1, p2, r1, r2, r3, r4, r5⟩ := fld_read (joinF us is ls m) rest (ls.getD m []) (nth us m) (nth is m) u0 u1 i0 i1 hn3
          rw [← hsp, ← HL.out] at r1 r2 r3 r4 r5
          rw [← HP.out] at r1
          have HE := Lib.hid (show (joinF us is ls m ++ fld (nth us m) (nth is m) (ls.getD m [])).length = (joinF us is ls (m + 1)).length from rfl)
          rw [HE.out] at r5
          obtain ⟨n3, hn3'⟩ : ∃ n3, n3 = (ls.getD m []).length := ⟨_, rfl⟩
          obtain ⟨l3, hl3⟩ : ∃ l3, l3 = ls.getD m [] := ⟨_, rfl⟩
          rw [← hl3] at hcb hr3 hn3 hc3 r5 hn3'
          rw [← hn3'] at hcb hr3 hn3 hc3 r5
          obtain ⟨u, hu⟩ : ∃ u, u = nth us m := ⟨_, rfl⟩
          obtain ⟨x, hx⟩ : ∃ x, x = nth is m := ⟨_, rfl⟩
          rw [← hu] at hcu u0 u1 r1 r3 r4
          rw [← hx] at hci i0 i1 r2
          obtain ⟨q, hq⟩ : ∃ q, q = (joinF us is ls (m + 1)).length := ⟨_, rfl⟩
          rw [← hq] at r5
          have HQ := Lib.hid hq
          clear hu hx hl3 hn3' hq hsp HE
          have HR := Lib.hid (And.intro r1 (And.intro r2 (And.intro r3 (And.intro r4 r5))))
          clear r1 r2 r3 r4 r5
          have hzz := Lib.hid (zag_zig x)
          have hqs := eqI_self l3
          have ew : IntKind.u32.wrap u = u % 4294967296 := by rw [IntKind.wrap_u32]
          have m0 : (0 : Int) ≤ (m : Int) := by omega
          have m1 : (m : Int) < (k : Int) := by omega
          have hcu1 := cell_keep hw hcu
          have hci1 := cell_keep hw hci
          have hcb1 := cell_keep hw hcb
          have e1 : (u != u) = false := by simp
          have e2 : (x != x) = false := by simp
          have e3 : (u % 4294967296 != u % 4294967296) = false := by simp
          have hb3 := hr3.by_
          have HB3 := Lib.hid (And.intro hb3 (show l3.length ≤ 140737488355328 by rw [hr3.len]; omega))
          clear hb3
          have hwd := hw.drew
          have hsd := hs.drew
          go_upto_region 18 with (fail)
          go_region_held3 (fun w' => w'.cell? (ud.add m) = some (.int .u64 u) ∧ w'.cell? (idd.add m) = some (.int .i64 x) ∧ w'.cell? (ad.add m) = some (.slice A3 n3 c3) ∧ Below w.heap.size w w')
            (first | exact ⟨cell_keep hw6 hcu, cell_keep hw6 hci, cell_keep hw6 hcb, hw6⟩ | exact ⟨cell_keep hw5 hcu, cell_keep hw5 hci, cell_keep hw5 hcb, hw5⟩ | exact ⟨cell_keep hw4 hcu, cell_keep hw4 hci, cell_keep hw4 hcb, hw4⟩ | exact ⟨cell_keep hw3 hcu, cell_keep hw3 hci, cell_keep hw3 hcb, hw3⟩ | exact ⟨cell_keep hw2 hcu, cell_keep hw2 hci, cell_keep hw2 hcb, hw2⟩ | exact ⟨cell_keep hw1 hcu, cell_keep hw1 hci, cell_keep hw1 hcb, hw1⟩ | exact ⟨hcu1, hci1, hcb1, hwd⟩)
            (first
              | (go_at_call 48; refine (varintR_any g A2 n7 c2 L p 0 18446744073709551615 _ hsd).mono ?_; rw [HR.out.1]; rintro e w2 ⟨rfl, hs2, hg2⟩; have hw1 := below_grow hwd hwd.size hg2 hgw)
              | (go_at_call 49; refine (signedR_any g A2 n7 c2 L p1 0 _ hs2).mono ?_; rw [HR.out.2.1, hzz.out]; rintro e w3 ⟨rfl, hs3, hg3⟩; have hw2 := below_grow hw1 hw1.size hg3 hgw)
              | (go_at_call 50; refine (fixed32R_any g A2 n7 c2 L p2 0 _ hs3).mono ?_; rw [HR.out.2.2.1]; rintro e w4 ⟨rfl, hs4, hg4⟩; have hw3 := below_grow hw2 hw2.size hg4 hgw)
              | (go_at_call 51; refine (fixed64R_any g A2 n7 c2 L (p2 + 4) 0 _ hs4).mono ?_; rw [HR.out.2.2.2.1]; rintro e w5 ⟨rfl, hs5, hg5⟩; have hw4 := below_grow hw3 hw3.size hg5 hgw)
              | (go_at_call 52; refine (stringR_any g A2 n7 c2 L (p2 + 12) 0 n3 _ hs5 (by omega) (by omega)).mono ?_; rw [HR.out.2.2.2.2]; rintro e w6 ⟨v6, rfl, hO6, hs6, hg6⟩; obtain ⟨A6, n6, c6, rfl, hc6, hb6⟩ := hO6.readN HB3.out.1 HB3.out.2; have hw5 := below_grow hw4 hw4.size hg6 hgw)
              | (go_at_call 26; refine (eq_any A6 A3 n6 n3 c6 c3 l3 l3 _ hb6 (hr3.below hw5)).mono ?_; rw [hqs]; rintro e w7 ⟨rfl, hw6'⟩; have hw6 := below_step hw5 hw6'))
          all_goals go_wp2_with fail
          go_roundw
          case rel => exact ⟨m + 1, q, by omega, by go_num, HQ.out, hs6.below hw6', hw6⟩
          case measure => simp [intOf]; omega
        · obtain rfl : m = k := by omega
          have hpn : p = n7 := by rw [HP.out, HLEN.out]
          subst hpn
          have hz : IntKind.i64.wrap ((p : Int) - p) = 0 := by rw [Int.sub_self]; decide
          have e1 : ((p : Int) == (p : Int)) = true := by simp
          have he0 : erI p 0 = (0, 0) := by simp [erI]
          have HE0 := Lib.hid he0
          clear he0
          go_wp2_with (first
            | (go_at_call 44; refine (err_any g A2 p c2 L p 0 _ hs).mono ?_; rw [HE0.out]; rintro e w2 ⟨rfl, k2, hk⟩; have hs2 : RS w2 g A2 p c2 L p 0 := (by rw [hk]; exact hs.drewN k2); have hw2 : Below w.heap.size w w2 := (by rw [hk]; exact below_drewN hw k2); clear hk)
            | (go_at_call 47; refine (left_rs g A2 p c2 L p 0 _ hs2).mono ?_; rw [Int.sub_self]; rintro e w3 ⟨rfl, k3, hk⟩; have hs3 : RS w3 g A2 p c2 L p 0 := (by rw [hk]; exact hs2.drewN k3); have hw3 : Below w.heap.size w w3 := (by rw [hk]; exact below_drewN hw2 k3); clear hk)
            | (go_at_call 46; refine (at_any g A2 p c2 L p 0 _ hs3).mono ?_; rintro e w4 ⟨rfl, rfl⟩))
          go_ret
          exact ⟨by simp, hw3⟩
end Go.Proofs.Ythggicgbcgeggaa
