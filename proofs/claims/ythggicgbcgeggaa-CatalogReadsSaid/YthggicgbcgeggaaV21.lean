/- Walk: flumelaw1.WireApart returns true. -/
import Derived.Test.YthggicgbcgeggaaV20
set_option linter.unusedVariables false
set_option linter.unusedSimpArgs false
namespace Go.Proofs.Ythggicgbcgeggaa
open Go.RowKit
theorem vb_top (n : Nat) : (vb n).length ≤ 140737488355328 := by have := (vb_len n).2; omega
theorem fb_top (n : Int) (k : Nat) (h : k ≤ 8) : (fb n k).length ≤ 140737488355328 := by rw [fb_len]; omega
theorem MD.step {w0 w w' : World} {low : Nat} {us : List UL} {v : Value} {l : List Int} (h : MD w w0.heap.size us low) (hB : Below w0.heap.size w0 w) (hw : Below w.heap.size w w') (ho : OB 5 w' w.heap.size v l) (ht : l.length ≤ 140737488355328) (hl : low ≤ w.heap.size) : MD w' w0.heap.size (us ++ [⟨v, l⟩]) low := h.snoc hw ho ht hB.size hl
theorem MD.rot4 {w : World} {base low : Nat} {a b c d : UL} (h : MD w base ([] ++ [a] ++ [b] ++ [c] ++ [d]) low) : MD w base [c, d, a, b] low := by
  refine h.perm (fun j => (j + 2) % 4) (fun j hj => ?_) (fun i j hi hj hij => ?_)
  · simp only [List.length_cons, List.length_nil] at hj
    have : j = 0 ∨ j = 1 ∨ j = 2 ∨ j = 3 := by omega
    rcases this with rfl | rfl | rfl | rfl <;> exact ⟨by simp, rfl⟩
  · simp only [List.length_cons, List.length_nil] at hi hj
    omega
set_option maxRecDepth 20000 in
set_option maxHeartbeats 4000000 in
theorem apart_law (AU : Option Addr) (nu cu : Nat) (us : List Int) (AB : Option Addr) (nb cb : Nat) (ls : List (List Int)) (w : World)
    (hU : RI .u64 w AU nu us) (hB : RBB w AB nb ls) :
    Calls Try.prog 6 #[.slice AU nu cu, .slice AB nb cb] w fun e w' => e = .returned (.bool true) ∧ Below w.heap.size w w' := by
  have tu := hU.top
  have tb := hB.top
  go_enter Try.func6, Try.ntmps6
  go_wp2_with (go_at_call 20; refine (begun_any _).mono ?_; rintro e w1 ⟨rfl, hw⟩; have hK0 := (KB.new w1 w.heap.size 4194304 hw.size); have hw2 := hw.alloc hw.size (.cells #[.slice none 0 0, .int .i64 0] 43); have hkb := Lib.hid hw.size)
  generalize hW : (w1.alloc (.cells #[.slice none 0 0, .int .i64 0] 43)) = W at hK0 hw2 ⊢
  clear hW hw
  obtain ⟨kb, hkb2⟩ : ∃ kb, kb = w1.heap.size := ⟨_, rfl⟩
  rw [← hkb2] at hK0 ⊢
  clear hkb2 hkb
  go_loopw [6] (fun i wr => ∃ (k : Nat) (lv : Value) (sz : Int) (ks : List KL), k ≤ nu ∧ i = .int .i64 k ∧ KB wr w.heap.size kb lv sz 4194304 ks ∧ Below w.heap.size w wr) (fun i _ => nu - (intOf i).toNat)
  case atStart => exact ⟨0, _, _, [], by omega, rfl, hK0, hw2⟩
  case round =>
    clear hK0 hw2
    obtain ⟨k, lv, sz, ks, hk, rfl, hK, hw⟩ := hrel
    by_cases hlt : k < nu
    · obtain ⟨ud', rfl, hcu⟩ := hU.cell k hlt
      obtain ⟨u0, u1⟩ := wf_u64 (hU.wf_nth k hlt)
      obtain ⟨u, hu⟩ : ∃ u, u = nth us k := ⟨_, rfl⟩
      rw [← hu] at hcu u0 u1
      clear hu
      have ew : IntKind.u32.wrap u = u % 4294967296 := by rw [IntKind.wrap_u32]
      have k0 : (0 : Int) ≤ (k : Int) := by omega
      have k1 : (k : Int) < (nu : Int) := by omega
      have hwd := hw.drew
      have hcud := cell_keep hwd hcu
      have hKd := hK.drew
      have hM0 := MD.nil wr.drew w.heap.size wr.drew.heap.size
      have HS0 := Lib.hid (show wr.drew.heap.size ≤ wr.drew.heap.size from Nat.le_refl _)
      have hKs := Lib.hid hKd.hks
      go_wp2_with fail
      go_region_held3 (fun w' => w'.cell? (ud'.add k) = some (.int .u64 u) ∧ Below w.heap.size w w')
        (first | exact ⟨cell_keep hw9 hcu, hw9⟩ | exact ⟨cell_keep (hw7.alloc hw7.size _) hcu, hw7.alloc hw7.size _⟩ | exact ⟨cell_keep hw7 hcu, hw7⟩ | exact ⟨cell_keep hw6 hcu, hw6⟩ | exact ⟨cell_keep hw5 hcu, hw5⟩ | exact ⟨cell_keep hw4 hcu, hw4⟩ | exact ⟨cell_keep hw3 hcu, hw3⟩ | exact ⟨cell_keep hw2 hcu, hw2⟩ | exact ⟨hcud, hwd⟩)
        (first
          | (go_at_call 28; with_reducible refine (varint_any u u0 u1 wr.drew).mono ?_; rintro e w2 ⟨v2, rfl, hO2, hb2⟩; have hw2 := below_to hwd hwd.size hb2; have hM1 := hM0.step hwd hb2 hO2 (vb_top _) (Nat.le_refl _); have hK2 := hKd.below hb2; obtain ⟨A2, c2, rfl, -⟩ := own_cap hO2; have HS1 := Lib.hid (Nat.le_trans HS0.out hb2.size); clear hO2)
          | (go_at_call 28; refine (varint_any u u0 u1 w2).mono ?_; rintro e w3 ⟨v3, rfl, hO3, hb3⟩; have hw3 := below_to hw2 hw2.size hb3; have hM2 := hM1.step hw2 hb3 hO3 (vb_top _) HS1.out; have hK3 := hK2.below hb3; obtain ⟨A3, c3, rfl, -⟩ := own_cap hO3; have HS2 := Lib.hid (Nat.le_trans HS1.out hb3.size); clear hO3)
          | (go_at_call 34; with_reducible refine (fixed32_any (u % 4294967296) (by omega) (by omega) w3).mono ?_; rintro e w4 ⟨v4, rfl, hO4, hb4⟩; have hw4 := below_to hw3 hw3.size hb4; have hM3 := hM2.step hw3 hb4 hO4 (fb_top _ _ (by omega)) HS2.out; have hK4 := hK3.below hb4; obtain ⟨A4, c4, rfl, -⟩ := own_cap hO4; have HS3 := Lib.hid (Nat.le_trans HS2.out hb4.size); clear hO4)
          | (go_at_call 34; refine (fixed32_any (u % 4294967296) (by omega) (by omega) w4).mono ?_; rintro e w5 ⟨v5, rfl, hO5, hb5⟩; have hw5 := below_to hw4 hw4.size hb5; have hM4 := hM3.step hw4 hb5 hO5 (fb_top _ _ (by omega)) HS3.out; have hK5 := hK4.below hb5; obtain ⟨A5, c5, rfl, -⟩ := own_cap hO5; have HS4 := Lib.hid (Nat.le_trans HS3.out hb5.size); clear hO5)
          | (go_at_call 35; with_reducible refine (fixed64_any u u0 u1 w5).mono ?_; rintro e w6 ⟨v6, rfl, hO6, hb6⟩; have hw6 := below_to hw5 hw5.size hb6; have hM5 := hM4.step hw5 hb6 hO6 (fb_top _ _ (by omega)) HS4.out; have hK6 := hK5.below hb6; obtain ⟨A6, c6, rfl, -⟩ := own_cap hO6; have HS5 := Lib.hid (Nat.le_trans HS4.out hb6.size); clear hO6)
          | (go_at_call 35; refine (fixed64_any u u0 u1 w6).mono ?_; rintro e w7 ⟨v7, rfl, hO7, hb7⟩; have hw7 := below_to hw6 hw6.size hb7; have hM6 := hM5.step hw6 hb7 hO7 (fb_top _ _ (by omega)) HS5.out; have hK7 := hK6.below hb7; obtain ⟨A7, c7, rfl, -⟩ := own_cap hO7; clear hO7)
          | (go_at_call 33; refine (keep_call w.heap.size kb 6 _ lv sz ks _ _ w w7 rfl hw7 hK7 hM6 hKs.out rfl (by omega) rfl).mono ?_; rintro e w9 ⟨rfl, lv9, sz9, new9, hK9, hF9, hw9⟩))
      all_goals go_wp2_with fail
      go_roundw
      case rel => exact ⟨k + 1, _, _, _, by omega, by go_num, hK9, hw9⟩
      case measure => simp [intOf]; omega
    · go_wp2_with fail
      obtain ⟨w3, hw3⟩ : ∃ w3 : World, w3 = wr := ⟨_, rfl⟩
      subst hw3
      go_loopw [7] (fun i wr => ∃ (j : Nat) (lv : Value) (sz : Int) (ks : List KL), j ≤ nb ∧ i = .int .i64 j ∧ KB wr w.heap.size kb lv sz 4194304 ks ∧ Below w.heap.size w wr) (fun i _ => nb - (intOf i).toNat)
      case atStart => exact ⟨0, _, _, _, by omega, rfl, hK, hw⟩
      case round =>
        clear hK hw
        obtain ⟨j, lv, sz, ks, hj, rfl, hK, hw⟩ := hrel
        by_cases hlt2 : j < nb
        · obtain ⟨bd, A2, c2, rfl, hcb, hr2, hn2, hc2⟩ := hB.cell j hlt2
          obtain ⟨l, hl⟩ : ∃ l, l = ls.getD j [] := ⟨_, rfl⟩
          rw [← hl] at hcb hr2 hn2 hc2
          obtain ⟨n, hn⟩ : ∃ n, n = l.length := ⟨_, rfl⟩
          rw [← hn] at hcb hr2 hn2 hc2
          have HN := Lib.hid hn
          clear hl hn
          have j0 : (0 : Int) ≤ (j : Int) := by omega
          have j1 : (j : Int) < (nb : Int) := by omega
          have hcb1 := cell_keep hw hcb
          have hs := rsI_props l 1048576 hr2.by_
          have hsl := Lib.hid (show (rsI l 1048576).1.length ≤ 140737488355328 by have := hs.2; have := HN.out; omega)
          have hsb := Lib.hid (show (sb l).length ≤ 140737488355328 by unfold sb; rw [List.length_append, ← HN.out]; have := (vb_len n).2; omega)
          clear hs
          obtain ⟨sI, hsI⟩ : ∃ sI, sI = rsI l 1048576 := ⟨_, rfl⟩
          rw [← hsI] at hsl
          have HSI := Lib.hid hsI
          clear hsI
          have hM0 := MD.nil wr w.heap.size wr.heap.size
          have hks := Lib.hid hK.hks
          have HS0 := Lib.hid (show wr.heap.size ≤ wr.heap.size from Nat.le_refl _)
          go_wp2_with (first
            | (go_at_call 24; with_reducible refine (rstr_any A2 n c2 l 1048576 wr (hr2.below hw) hc2 (by omega) (by omega)).mono ?_; rw [← HSI.out]; rintro e w2 ⟨v2, rfl, hO2, hb2⟩; have hw2 := below_to hw hw.size hb2; have hM1 := hM0.step hw hb2 hO2 hsl.out (Nat.le_refl _); have hK2 := hK.below hb2; obtain ⟨A4, c4, rfl, -⟩ := own_cap hO2; have HS1 := Lib.hid (Nat.le_trans HS0.out hb2.size); have hcb2 := cell_keep hw2 hcb; clear hO2)
            | (go_at_call 24; refine (rstr_any A2 n c2 l 1048576 w2 (hr2.below hw2) hc2 (by omega) (by omega)).mono ?_; rw [← HSI.out]; rintro e w3 ⟨v3, rfl, hO3, hb3⟩; have hw3 := below_to hw2 hw2.size hb3; have hM2 := hM1.step hw2 hb3 hO3 hsl.out HS1.out; have hK3 := hK2.below hb3; obtain ⟨A5, c5, rfl, -⟩ := own_cap hO3; have HS2 := Lib.hid (Nat.le_trans HS1.out hb3.size); have hcb3 := cell_keep hw3 hcb; clear hO3))
          have hw3d := hw3.drew
          have hcb3d := cell_keep hw3d hcb
          have hM2d := hM2.drew
          have hK3d := hK3.drew
          have HS2d := Lib.hid (show wr.heap.size ≤ w3.drew.heap.size from HS2.out)
          go_region_held3 (fun w' => w'.cell? (bd.add j) = some (.slice A2 n c2) ∧ Below w.heap.size w w')
            (first | exact ⟨cell_keep hw9 hcb, hw9⟩ | exact ⟨cell_keep (hw5.alloc hw5.size _) hcb, hw5.alloc hw5.size _⟩ | exact ⟨cell_keep hw5 hcb, hw5⟩ | exact ⟨cell_keep hw4 hcb, hw4⟩ | exact ⟨hcb3d, hw3d⟩)
            (first
              | (go_at_call 29; with_reducible refine (string_any A2 n c2 l hn2 w3.drew (hr2.below hw3d)).mono ?_; rintro e w4 ⟨v4, rfl, hO4, hb4⟩; have hw4 := below_to hw3d hw3d.size hb4; have hM3 := hM2d.step hw3d hb4 hO4 hsb.out HS2d.out; have hK4 := hK3d.below hb4; obtain ⟨A6, c6, rfl, -⟩ := own_cap hO4; have HS3 := Lib.hid (Nat.le_trans HS2d.out hb4.size); clear hO4)
              | (go_at_call 29; refine (string_any A2 n c2 l hn2 w4 (hr2.below hw4)).mono ?_; rintro e w5 ⟨v5, rfl, hO5, hb5⟩; have hw5 := below_to hw4 hw4.size hb5; have hM4 := hM3.step hw4 hb5 hO5 hsb.out HS3.out; have hK5 := hK4.below hb5; obtain ⟨A7, c7, rfl, -⟩ := own_cap hO5; clear hO5; have hM5 := hM4.rot4)
              | (go_at_call 33; refine (keep_call w.heap.size kb 4 _ lv sz ks _ _ w w5 rfl hw5 hK5 hM5 hks.out rfl (by omega) rfl).mono ?_; rintro e w9 ⟨rfl, lv9, sz9, new9, hK9, hF9, hw9⟩))
          all_goals go_wp2_with fail
          go_roundw
          case rel => exact ⟨j + 1, _, _, _, by omega, by go_num, hK9, hw9⟩
          case measure => simp [intOf]; omega
        · have hk2 := hK.hb
          go_wp2_with (go_at_call 36; refine (apart_any w.heap.size kb lv sz ks _ hK).mono ?_; rintro e w4 ⟨rfl, hF⟩; have hw4 := hF.below hw (fun k hk => hk))
          go_ret
          exact ⟨rfl, hw4⟩
end Go.Proofs.Ythggicgbcgeggaa
