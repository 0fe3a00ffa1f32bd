/- Walk: flumelaw2.CrcJoins returns true for any three byte strings. -/
import Derived.Test.YthggicgbcgeggaaDoorW4
set_option linter.unusedVariables false
set_option linter.unusedSimpArgs false
namespace Go.Proofs.YthggicgbcgeggaaDoor
open Go.RowKit
theorem joinI_pos (a b : Int) (n : Nat) : joinI a b n = bits .xor .u32 (iu (sn (8 * n) (u a))) b := by
  unfold joinI; rw [if_neg (by omega), Int.toNat_natCast]
theorem join_sum (a b : List Int) (n : Nat) (hn : b.length = n) : joinI (iu (more 0#32 a)) (iu (more 0#32 b)) n = iu (more 0#32 (a ++ b)) := by
  rw [joinI_pos, bits_xor, u_iu, u_iu, u_iu, more_join, hn]
theorem more_sum (a b : List Int) : iu (more (u (iu (more 0#32 a))) b) = iu (more 0#32 (a ++ b)) := by
  rw [u_iu, more_append]
theorem len_dec (n : Nat) (h : n ≤ 10000) : decide ((10000 : Int) < (n : Int)) = false := by simp; omega
/-- RB behind a name -/
structure RBat (w : World) (A : Option Addr) (n : Nat) (l : List Int) : Prop where mk :: (out : RB w A n l)
theorem RBat.below {w w' : World} {A : Option Addr} {n : Nat} {l : List Int} (h : RBat w A n l) (hb : Below w.heap.size w w') : RBat w' A n l := ⟨h.out.below hb⟩
set_option maxRecDepth 100000 in
set_option maxHeartbeats 1000000 in
theorem joins_any (A B C : Option Addr) (na ca nb cb nc cc : Nat) (la lb lc : List Int) (w : World) (ht : Tab w) (ha : RB w A na la) (hb : RB w B nb lb) (hc : RB w C nc lc) :
    Calls Tryd.prog 3 #[.slice A na ca, .slice B nb cb, .slice C nc cc] w fun e w' => e = .returned (.bool true) ∧ Below w.heap.size w w' := by
  by_cases hbig : na ≤ 10000 ∧ nb ≤ 10000 ∧ nc ≤ 10000
  · obtain ⟨b1, b2, b3⟩ := hbig
    have d1 := len_dec na b1
    have d2 := len_dec nb b2
    have d3 := len_dec nc b3
    have hlb := Lib.hid hb.len
    have hlc := Lib.hid hc.len
    have hla := Lib.hid ha.len
    have h1 := join_sum la lb nb hb.len
    have h2 := join_sum (la ++ lb) lc nc hc.len
    have h3 := join_sum lb lc nc hc.len
    have h4 := join_sum la (lb ++ lc) (nb + nc) (by rw [List.length_append, hb.len, hc.len])
    rw [Int.natCast_add] at h4
    rw [List.append_assoc] at h2
    have h5 := more_sum la lb
    have h6 := more_sum (la ++ lb) lc
    rw [List.append_assoc] at h6
    have h7 := u_zero
    have hE := List.nil_append la
    go_enter Tryd.func3, Tryd.ntmps3
    go_wp2_with (first
      | (go_at_call 7; refine (begun_any _ ht).mono ?_; rintro e w1 ⟨rfl, hw⟩)
      | (at_builtin; refine wpList_append_by (w0 := w) rfl w.heap.size (.const (.slice none 0 0)) (.tmp 26) 22 5 rfl Tryd.underlying22 info5 (.slice none 0 0) [] rfl (OB.nil _ _ _) A na ca la rfl (ha.below hw) hw hw.size ?_ ?_; (simp; omega); intro v1 w2 o1 hw2 g1 t1; replace hw := hw2; clear hw2 g1 t1; rw [List.nil_append] at o1)
      | (at_builtin; refine wpList_append_by (w0 := w) rfl w.heap.size (.tmp 27) (.tmp 28) 22 5 rfl Tryd.underlying22 info5 v1 la rfl o1 B nb cb lb rfl (hb.below hw) hw hw.size ?_ ?_; (rw [hla.out]; omega); intro v2 w3 o2 hw2 g1 t1; replace hw := hw2; clear hw2 g1 t1)
      | (at_builtin; refine wpList_append_by (w0 := w) rfl w.heap.size (.tmp 29) (.tmp 30) 22 5 rfl Tryd.underlying22 info5 v2 (la ++ lb) rfl o2 C nc cc lc rfl (hc.below hw) hw hw.size ?_ ?_; (rw [List.length_append, hla.out, hlb.out]; omega); intro v3 w4 o3 hw2 g1 t1; replace hw := hw2; clear hw2 g1 t1; obtain ⟨D, nd, cd, rfl, hcd, hd0⟩ := o3.readN ((ha.by_.append hb.by_).append hc.by_) (by rw [List.length_append, List.length_append, hla.out, hlb.out, hlc.out]; omega); rw [List.append_assoc] at hd0; have hd := RBat.mk hd0; clear hd0 o1 o2 o3)
      | (go_at_call 8; with_reducible refine (sum_any A na ca la _ (ha.below hw)).mono ?_; rintro e w9 ⟨rfl, hwn⟩; replace hd := hd.below hwn; replace hw := hw.trans (hwn.mono hw.size); clear hwn)
      | (go_at_call 8; with_reducible refine (sum_any B nb cb lb _ (hb.below hw)).mono ?_; rintro e w9 ⟨rfl, hwn⟩; replace hd := hd.below hwn; replace hw := hw.trans (hwn.mono hw.size); clear hwn)
      | (go_at_call 8; with_reducible refine (sum_any C nc cc lc _ (hc.below hw)).mono ?_; rintro e w9 ⟨rfl, hwn⟩; replace hd := hd.below hwn; replace hw := hw.trans (hwn.mono hw.size); clear hwn)
      | (go_at_call 8; with_reducible refine (sum_any D nd cd _ _ hd.out).mono ?_; rintro e w9 ⟨rfl, hwn⟩; replace hd := hd.below hwn; replace hw := hw.trans (hwn.mono hw.size); clear hwn)
      | (go_at_call 9; refine (join_any _ _ _ (iu_lo _) (iu_hi _) (by omega) _ (ht.below hw)).mono ?_; rintro e w9 ⟨rfl, hwn⟩; replace hd := hd.below hwn; replace hw := hw.trans (hwn.mono hw.size); clear hwn)
      | (go_at_call 10; with_reducible refine (more_any _ (iu_lo _) (iu_hi _) B nb cb lb _ (hb.below hw)).mono ?_; rintro e w9 ⟨rfl, hwn⟩; replace hd := hd.below hwn; replace hw := hw.trans (hwn.mono hw.size); clear hwn)
      | (go_at_call 10; with_reducible refine (more_any _ (iu_lo _) (iu_hi _) C nc cc lc _ (hc.below hw)).mono ?_; rintro e w9 ⟨rfl, hwn⟩; replace hd := hd.below hwn; replace hw := hw.trans (hwn.mono hw.size); clear hwn)
      | (go_at_call 10; with_reducible refine (more_any 0 (by omega) (by omega) D nd cd _ _ hd.out).mono ?_; rintro e w9 ⟨rfl, hwn⟩; replace hd := hd.below hwn; replace hw := hw.trans (hwn.mono hw.size); clear hwn))
    go_ret
    exact ⟨rfl, hw⟩
  · by_cases b1 : na ≤ 10000
    · by_cases b2 : nb ≤ 10000
      · have d1 := len_dec na b1
        have d2 := len_dec nb b2
        have d3 : decide ((10000 : Int) < (nc : Int)) = true := by simp; omega
        go_enter Tryd.func3, Tryd.ntmps3
        go_wp2_with (go_at_call 7; refine (begun_any _ ht).mono ?_; rintro e w1 ⟨rfl, hw⟩)
        go_ret
        exact ⟨rfl, hw⟩
      · have d1 := len_dec na b1
        have d2 : decide ((10000 : Int) < (nb : Int)) = true := by simp; omega
        go_enter Tryd.func3, Tryd.ntmps3
        go_wp2_with (go_at_call 7; refine (begun_any _ ht).mono ?_; rintro e w1 ⟨rfl, hw⟩)
        go_ret
        exact ⟨rfl, hw⟩
    · have d1 : decide ((10000 : Int) < (na : Int)) = true := by simp; omega
      go_enter Tryd.func3, Tryd.ntmps3
      go_wp2_with (go_at_call 7; refine (begun_any _ ht).mono ?_; rintro e w1 ⟨rfl, hw⟩)
      go_ret
      exact ⟨rfl, hw⟩
end Go.Proofs.YthggicgbcgeggaaDoor
