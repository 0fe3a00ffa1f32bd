/- Walk: flumelaw1.WireForms returns true for any input. -/
import Derived.Test.YthggicgbcgeggaaVW
import Derived.Laws.MathBits
import Derived.Deep.RegionHeld3
import Derived.Test.YthggicgbcgeggaaVR
import Derived.Deep.CutRange
import Derived.Deep.DeepCutAuto
import Derived.Deep.CutBlock
set_option linter.unusedVariables false
set_option linter.unusedSimpArgs false
namespace Go.Proofs.Ythggicgbcgeggaa
open Go.RowKit
theorem and_low (u : Int) (h0 : 0 ≤ u) (h1 : u < 18446744073709551616) : bits .and .u64 u 4294967295 = u % 4294967296 := by
  show IntKind.u64.wrap (((BitVec.ofInt 64 u &&& BitVec.ofInt 64 4294967295 : BitVec 64).toNat : Nat) : Int) = _
  have e : BitVec.ofInt 64 4294967295 = 4294967295#64 := by decide
  rw [e, BitVec.toNat_and, BitVec.toNat_ofInt]
  have e2 : (4294967295#64).toNat = 2 ^ 32 - 1 := by decide
  rw [e2, Nat.and_two_pow_sub_one_eq_mod, wrap_u64] <;> omega
theorem rfixed8_any (n : Int) (n0 : 0 ≤ n) (n1 : n < 18446744073709551616) (w : World) :
    Calls Try.prog 39 #[.int .u64 n, .int .i64 8] w fun e w' => ∃ v, e = .returned v ∧ OB 5 w' w.heap.size v (fb n 8) ∧ Below w.heap.size w w' := rfixed_any n 8 (by omega) n0 n1 w
theorem rfixed4_any (n : Int) (n0 : 0 ≤ n) (n1 : n < 18446744073709551616) (w : World) :
    Calls Try.prog 39 #[.int .u64 n, .int .i64 4] w fun e w' => ∃ v, e = .returned v ∧ OB 5 w' w.heap.size v (fb n 4) ∧ Below w.heap.size w w' := rfixed_any n 4 (by omega) n0 n1 w
set_option maxRecDepth 20000 in
set_option maxHeartbeats 1000000 in
theorem forms_law (AU : Option Addr) (nu cu : Nat) (us : List Int) (AI : Option Addr) (ni ci : Nat) (is : List Int) (AB : Option Addr) (nb cb : Nat) (ls : List (List Int)) (w : World)
    (hU : RI .u64 w AU nu us) (hI : RI .i64 w AI ni is) (hB : RBB w AB nb ls) :
    Calls Try.prog 7 #[.slice AU nu cu, .slice AI ni ci, .slice AB nb cb] w fun e w' => e = .returned (.bool true) ∧ Below w.heap.size w w' := by
  have tu := hU.top
  have ti := hI.top
  have tb := hB.top
  go_enter Try.func7, Try.ntmps7
  go_wp2_with (go_at_call 20; refine (begun_any _).mono ?_; rintro e w1 ⟨rfl, hw⟩)
  go_loopw [7] (fun i wr => ∃ (k : Nat), k ≤ nu ∧ i = .int .i64 k ∧ Below w.heap.size w wr) (fun i _ => nu - (intOf i).toNat)
  case atStart => exact ⟨0, by omega, rfl, hw⟩
  case round =>
    clear hw
    obtain ⟨k, hk, rfl, hw⟩ := hrel
    by_cases hlt : k < nu
    · obtain ⟨ud, rfl, hcu⟩ := hU.cell k hlt
      obtain ⟨u0, u1⟩ := wf_u64 (hU.wf_nth k hlt)
      obtain ⟨u, hu⟩ : ∃ u, u = nth us k := ⟨_, rfl⟩
      rw [← hu] at hcu u0 u1
      clear hu
      have hcu1 := cell_keep hw hcu
      have hy := vb_by u.toNat (by omega)
      have hl := vb_len u.toNat
      have hyl := Lib.hid (And.intro hy hl)
      have qv := eqI_self (vb u.toNat)
      have q8 := eqI_self (fb u 8)
      have q4 := eqI_self (fb (u % 4294967296) 4)
      have ea := and_low u u0 u1
      have ew : IntKind.u32.wrap u = u % 4294967296 := by rw [IntKind.wrap_u32]
      clear hy hl
      go_wp2_with (first
        | (go_at_call 28; refine (varint_any u u0 u1 _).mono ?_; rintro e w2 ⟨v2, rfl, hO2, hw2⟩; have hw3 := below_step hw hw2; obtain ⟨A2, n2, c2, rfl, hc2, hb2⟩ := hO2.readN hyl.out.1 (by have := hyl.out.2; omega))
        | (go_at_call 37; refine (rvarint_any u u0 u1 _).mono ?_; rintro e w4 ⟨v4, rfl, hO4, hw4⟩; have hw5 := below_step hw3 hw4; obtain ⟨A4, n4, c4, rfl, hc4, hb4⟩ := hO4.readN hyl.out.1 (by have := hyl.out.2; omega))
        | (go_at_call 26; with_reducible refine (eq_any A2 A4 n2 n4 c2 c4 _ _ _ (hb2.below hw4) hb4).mono ?_; rw [qv]; rintro e w6 ⟨rfl, hw6⟩; have hw7 := below_step hw5 hw6)
        | (go_at_call 31; refine (zag_any u u0 u1 _).mono ?_; rintro e w8 ⟨rfl, rfl⟩)
        | (go_at_call 38; refine (rzag_any u u0 u1 _).mono ?_; rintro e w9 ⟨rfl, rfl⟩)
        | (go_at_call 35; refine (fixed64_any u u0 u1 _).mono ?_; rintro e w10 ⟨v10, rfl, hO10, hw10⟩; have hw11 := below_step hw7 hw10; obtain ⟨A10, n10, c10, rfl, hc10, hb10⟩ := hO10.readN (fb_by _ _) (by rw [fb_len]; omega))
        | (go_at_call 39; with_reducible refine (rfixed8_any u u0 u1 w10).mono ?_; rintro e w12 ⟨v12, rfl, hO12, hw12⟩; have hw13 := below_step hw11 hw12; obtain ⟨A12, n12, c12, rfl, hc12, hb12⟩ := hO12.readN (fb_by _ _) (by rw [fb_len]; omega))
        | (go_at_call 26; with_reducible refine (eq_any A10 A12 n10 n12 c10 c12 _ _ _ (hb10.below hw12) hb12).mono ?_; rw [q8]; rintro e w14 ⟨rfl, hw14⟩; have hw15 := below_step hw13 hw14)
        | (go_at_call 34; (refine (fixed32_any (u % 4294967296) (by omega) (by omega) _).mono ?_; rintro e w16 ⟨v16, rfl, hO16, hw16⟩; have hw17 := below_step hw15 hw16; obtain ⟨A16, n16, c16, rfl, hc16, hb16⟩ := hO16.readN (fb_by _ _) (by rw [fb_len]; omega)))
        | (go_at_call 39; (with_reducible refine (rfixed4_any (u % 4294967296) (by omega) (by omega) w16).mono ?_; rintro e w18 ⟨v18, rfl, hO18, hw18⟩; have hw19 := below_step hw17 hw18; obtain ⟨A18, n18, c18, rfl, hc18, hb18⟩ := hO18.readN (fb_by _ _) (by rw [fb_len]; omega)))
        | (go_at_call 26; (with_reducible refine (eq_any A16 A18 n16 n18 c16 c18 _ _ _ (hb16.below hw18) hb18).mono ?_; rw [q4]; rintro e w20 ⟨rfl, hw20⟩; have hw21 := below_step hw19 hw20)))
      go_roundw
      case rel => exact ⟨k + 1, by omega, by go_num, hw21⟩
      case measure => simp [intOf]; omega
    · go_wp2_with fail
      go_loopw [9] (fun i wr => ∃ (k : Nat), k ≤ ni ∧ i = .int .i64 k ∧ Below w.heap.size w wr) (fun i _ => ni - (intOf i).toNat)
      case atStart => exact ⟨0, by omega, rfl, hw⟩
      case round =>
        clear hw hlt
        obtain ⟨k, hk, rfl, hw⟩ := hrel
        by_cases hlt : k < ni
        · obtain ⟨nd, rfl, hcn⟩ := hI.cell k hlt
          obtain ⟨n0, n1⟩ := wf_i64' (hI.wf_nth k hlt)
          obtain ⟨n, hn⟩ : ∃ n, n = nth is k := ⟨_, rfl⟩
          rw [← hn] at hcn n0 n1
          clear hn
          have hcn1 := cell_keep hw hcn
          have hz := zag_zig n
          have hzr := Lib.hid (zigI_rng n n0 n1)
          have q0 : (0 : Int) ≤ (k : Int) := by omega
          have q1 : (k : Int) < (ni : Int) := by omega
          go_wp2_with fail
          go_region_held3 (fun w' => w'.cell? (nd.add k) = some (.int .i64 n) ∧ Below w.heap.size w w')
            (first
              | exact ⟨hcn1, hw.drew⟩
              | exact hh)
            (first
              | (go_at_call 32; have hh : _ ∧ Below w.heap.size w _ := (by assumption); refine (zig_any n n0 n1 _).mono ?_; rintro e w2 ⟨rfl, rfl⟩)
              | (go_at_call 40; have hh : _ ∧ Below w.heap.size w _ := (by assumption); refine (rzig_any n n0 n1 _).mono ?_; rintro e w3 ⟨rfl, rfl⟩)
              | (go_at_call 31; have hh : _ ∧ Below w.heap.size w _ := (by assumption); refine (zag_any (zigI n) hzr.out.1 hzr.out.2 _).mono ?_; rw [hz]; rintro e w4 ⟨rfl, rfl⟩))
          all_goals
            go_wp2_with fail
            go_roundw
            case rel => exact ⟨k + 1, by omega, by go_num, (by first | exact hh.2 | (rename_i hf; exact hf.2) | exact And.right (by assumption))⟩
            case measure => simp [intOf]; omega
        · go_wp2_with fail
          go_loopw [10] (fun i wr => ∃ (k : Nat), k ≤ nb ∧ i = .int .i64 k ∧ Below w.heap.size w wr) (fun i _ => nb - (intOf i).toNat)
          case atStart => exact ⟨0, by omega, rfl, hw⟩
          case round =>
            clear hw hlt
            obtain ⟨k, hk, rfl, hw⟩ := hrel
            by_cases hlt : k < nb
            · obtain ⟨ad, A2, c2, rfl, hcb, hr2, hn2, hc2⟩ := hB.cell k hlt
              obtain ⟨l2, hl2⟩ : ∃ l2, l2 = ls.getD k [] := ⟨_, rfl⟩
              rw [← hl2] at hcb hr2 hn2 hc2
              clear hl2
              obtain ⟨n2, hn2'⟩ : ∃ n2, n2 = l2.length := ⟨_, rfl⟩
              rw [← hn2'] at hcb hr2 hn2 hc2
              clear hn2'
              have HL2 := Lib.hid hr2.len.symm
              have hcb1 := cell_keep hw hcb
              have hys := sb_by hr2.by_ (by rw [hr2.len]; omega)
              have hls : (sb l2).length ≤ n2 + 10 := by unfold sb; rw [List.length_append, hr2.len]; have := (vb_len n2).2; omega
              have HLS := Lib.hid hls
              have qs := eqI_self (sb l2)
              clear hls
              go_wp2_with (first
                | (go_at_call 21; refine (lent_any A2 n2 c2 l2 hn2 _ (hr2.below hw)).mono ?_; rintro e w21 ⟨g, cap, rfl, hg, hcap, hL, hw21⟩; have hlr := (show RB w21 (some ⟨g, 0, none⟩) n2 l2 from OB.rb hL HL2.out.symm hr2.by_ (by omega)); have hw2 := below_step hw hw21; have hcb2 := cell_keep hw2 hcb; have hgl := own_blk_lt hL g rfl)
                | (go_at_call 29; refine (string_any (some ⟨g, 0, none⟩) n2 cap l2 hn2 _ hlr).mono ?_; rintro e w29 ⟨v1, rfl, hO1, hw29⟩; have hw3 := below_step hw2 hw29; have hcb3 := cell_keep hw3 hcb; have hL3 := hL.below hw29; obtain ⟨A3, n3, c3, rfl, hc3, hb3⟩ := hO1.readN hys (by have := HLS.out; omega))
                | (go_at_call 41; with_reducible refine (rstring_any A2 n2 c2 l2 hn2 w29 (hr2.below hw3)).mono ?_; rintro e w41 ⟨v2, rfl, hO2, hw41⟩; have hw4 := below_step hw3 hw41; have hcb4 := cell_keep hw4 hcb; have hO3 := hO1.below hw41; have hL4 := hL3.below hw41; have hb5 := hb3.below hw41; obtain ⟨A4, n4, c4, rfl, hc4, hb4⟩ := hO2.readN hys (by have := HLS.out; omega))
                | (go_at_call 26; with_reducible refine (eq_any A3 A4 n3 n4 c3 c4 _ _ _ hb5 hb4).mono ?_; rw [qs]; rintro e w26 ⟨rfl, hw26⟩; have hw5 := below_step hw4 hw26; have hcb5 := cell_keep hw5 hcb)
                | (go_at_call 27; refine (back_any A2 n2 c2 g cap l2 hn2 hcap w _ hw5 hr2 (Nat.le_trans hw.size hg) ((hL4.below hw26).lower hw.size)).mono ?_; rintro e w27 ⟨rfl, hg27⟩; have hw6 := grown_below hw5 hg27 (Nat.le_trans hw.size hg); have hcb6 := cell_keep hw6 hcb; have hb7 := OB.readR ((hO3.below hw26).keptG hg27 (by have := hw2.size; omega)) hb3.len hys (by have := HLS.out; omega))
                | (go_at_call 41; (refine (rstring_any A2 n2 c2 l2 hn2 _ (hr2.below hw6)).mono ?_; rintro e w42 ⟨v5, rfl, hO5, hw42⟩; have hw7 := below_step hw6 hw42; obtain ⟨A5, n5, c5, rfl, hc5, hb8⟩ := hO5.readN hys (by have := HLS.out; omega)))
                | (go_at_call 26; (refine (eq_any A3 A5 n3 n5 c3 c5 _ _ _ (hb7.below hw42) hb8).mono ?_; rw [qs]; rintro e w28 ⟨rfl, hw28⟩; have hw8 := below_step hw7 hw28)))
              go_roundw
              case rel => exact ⟨k + 1, by omega, by go_num, hw8⟩
              case measure => simp [intOf]; omega
            · go_wp2_with fail
              go_ret
              exact ⟨rfl, hw⟩
end Go.Proofs.Ythggicgbcgeggaa
