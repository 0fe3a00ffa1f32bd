/- Walks: flumelaw1.Lent and Back, wire.String and its document's twin. -/
import Derived.Test.YthggicgbcgeggaaV2
set_option linter.unusedVariables false
set_option linter.unusedSimpArgs false
namespace Go.Proofs.Ythggicgbcgeggaa
open Go.RowKit
theorem by_two : BY [171, 172] := by intro x hx; simp at hx; omega
/-- lent bytes: the two marks behind them -/
def Lent (w : World) (base g n cap : Nat) (l : List Int) : Prop := OB 5 w base (.slice (some ⟨g, 0, none⟩) (n + 2) cap) (l ++ [171, 172])
set_option maxHeartbeats 400000 in
theorem lent_any (A : Option Addr) (n c : Nat) (l : List Int) (hn : n ≤ 140737488351232) (w : World) (hl : RB w A n l) :
    Calls Try.prog 21 #[.slice A n c] w fun e w' => ∃ g cap, e = .returned (.slice (some ⟨g, 0, none⟩) n cap) ∧ w.heap.size ≤ g ∧ n + 2 ≤ cap ∧
      Lent w' w.heap.size g n cap l ∧ Below w.heap.size w w' := by
  have hll := hl.len
  have HLL := Lib.hid hll
  clear hll
  go_enter Try.func21, Try.ntmps21
  go_wp2_with (first
    | (at_builtin; refine wpList_append_by (w0 := w) rfl w.heap.size (.const (.slice none 0 0)) (.tmp 4) 25 5 rfl Try.underlying25 info5 (.slice none 0 0) [] rfl (OB.nil _ _ _) A n c l rfl hl (Below.refl _ _) (Nat.le_refl _) ?_ ?_; (simp; omega); intro v1 w1 hown1 hB1 hg1 hat1; rw [List.nil_append] at hown1)
    | (at_builtin; refine wpList_append_by (w0 := w) rfl w.heap.size (.tmp 6) (.tmp 7) 25 5 rfl Try.underlying25 info5 v1 l rfl (hown1.below (below_alloc1 _ _)) (some ⟨w1.heap.size, 0, none⟩) 2 2 [171, 172] rfl (RB_lit (heap_alloc_new w1 _) by_two (by simp)) (hB1.alloc hB1.size _) ?_ ?_ ?_; (have := hB1.size; simp; omega); (rw [HLL.out]; omega); intro v2 w2 hown2 hB2 hg2 hat2; obtain ⟨g, cap, rfl, hgb, hgl, hcap⟩ := own_form hown2 (by simp); rw [List.length_append, HLL.out] at hown2 hcap))
  go_ret
  exact ⟨g, cap, rfl, hgb, hcap, hown2, hB2⟩

theorem grown_below {w0 w w' : World} {g : Nat} (hB : Below w0.heap.size w0 w) (h : w.grownBy w' (some g)) (hg : w0.heap.size ≤ g) : Below w0.heap.size w0 w' :=
  hB.grown h hB.size (fun k hk => by injection hk with hk; omega)
theorem set_bys (l : List Int) (j : Nat) (x : Int) : (bys l).set j (.int .u8 x) = bys (l.set j x) := by simp [bys, List.map_set]
theorem nth_set_ne (l : List Int) (i j : Nat) (x : Int) (h : i ≠ j) : nth (l.set i x) j = nth l j := by
  unfold nth
  rw [List.getD_eq_getElem?_getD, List.getD_eq_getElem?_getD, List.getElem?_set_ne h]
theorem nth_app1 (a b : List Int) (j : Nat) (h : j < a.length) : nth (a ++ b) j = nth a j := by
  unfold nth; rw [List.getD_eq_getElem?_getD, List.getD_eq_getElem?_getD, List.getElem?_append_left h]
theorem nth_app2 (a b : List Int) (j : Nat) : nth (a ++ b) (a.length + j) = nth b j := by
  unfold nth; rw [List.getD_eq_getElem?_getD, List.getD_eq_getElem?_getD, List.getElem?_append_right (by omega)]; congr 2; omega
theorem ownsRow_drewN {w : World} {base : Nat} {e : TypeId} {size : Nat} {v : Value} {n : Nat} {xs : List Value} (h : w.ownsRow base e size v n xs) (k : Nat) : (w.drewN k).ownsRow base e size v n xs := h
theorem grown_drewN {w w' : World} {row : Option Nat} (h : w.grownBy w' row) (k : Nat) : w.grownBy (w'.drewN k) row := ⟨h.os, h.tape, h.output, h.size, h.block⟩
set_option maxHeartbeats 1000000 in
theorem back_any (A : Option Addr) (n c g cap : Nat) (l : List Int) (hn : n ≤ 140737488351232) (hcap : n + 2 ≤ cap) (w0 w : World) (hB : Below w0.heap.size w0 w) (hl : RB w0 A n l) (hg : w0.heap.size ≤ g) (hL : Lent w w0.heap.size g n cap l) :
    Calls Try.prog 27 #[.slice (some ⟨g, 0, none⟩) n cap, .slice A n c] w fun e w' => e = .returned (.bool true) ∧ w.grownBy w' (some g) := by
  have hll := hl.len
  have hL' : w.ownsRow w0.heap.size 5 1 (.slice (some ⟨g, 0, none⟩) (n + 2) cap) (n + 2) (bys (l ++ [171, 172])) := by
    have := hL
    unfold Lent OB at this
    rw [List.length_append, hll] at this
    exact this
  have c1 : w.cell? ⟨g, n, none⟩ = some (.int .u8 171) := by
    rw [hL'.cellAt n (by omega), bys_at _ _ (by simp; omega)]
    have := nth_app2 l [171, 172] 0
    rw [hll, Nat.add_zero] at this
    rw [this]; rfl
  have c2 : w.cell? ⟨g, n + 1, none⟩ = some (.int .u8 172) := by
    rw [hL'.cellAt (n + 1) (by omega), bys_at _ _ (by simp; omega)]
    have := nth_app2 l [171, 172] 1
    rw [hll] at this
    rw [this]; rfl
  have HLL := Lib.hid hll
  have HL' := Lib.hid hL'
  clear hll hL'
  go_enter Try.func27, Try.ntmps27
  go_wp2_with fail
  clear c1 c2
  go_loopw [5, 6] (fun ok i wr => ∃ (k : Nat) (lk : List Int), k ≤ n ∧ i = .int .i64 k ∧ ok = .bool true ∧ lk.length = n + 2 ∧ wr.ownsRow w0.heap.size 5 1 (.slice (some ⟨g, 0, none⟩) (n + 2) cap) (n + 2) (bys lk) ∧ Hid (∀ j, k ≤ j → j < n → nth lk j = nth l j) ∧ w.grownBy wr (some g)) (fun _ i _ => n - (intOf i).toNat)
  case atStart => exact ⟨0, l ++ [171, 172], by omega, rfl, rfl, by simp [HLL.out], HL'.out, fun j _ hj => nth_app1 _ _ _ (by rw [HLL.out]; exact hj), ⟨rfl, rfl, rfl, Nat.le_refl _, fun _ _ _ => rfl⟩⟩
  case round =>
    obtain ⟨k, lk, hk, rfl, rfl, hlk, hown, HN, hgr⟩ := hrel
    have HLK := Lib.hid hlk
    by_cases hlt : k < n
    · have hi0 : (0 : Int) ≤ (k : Int) := Int.natCast_nonneg _
      have hi1 : (k : Int) < (n : Int) := by omega
      have hi2 : (k : Int) < (n : Int) + 2 := by omega
      have hl1 := hl.below (grown_below hB hgr hg)
      obtain ⟨ad, rfl, hca⟩ := hl1.cell k hlt
      have hcl : wr.cell? ⟨g, k, none⟩ = some (.int .u8 (nth l k)) := by
        rw [hown.cellAt k (by omega), bys_at _ _ (by omega), HN.out k (Nat.le_refl _) hlt]
      have hfr := hown.frozenAt k
      clear hlk
      go_wp2_with fail
      go_quiet (fail)
      go_wp2_with fail
      have hst := (ownsRow_drewN hown nq).stored k (.int .u8 (bits .xor .u8 (nth l k) 85))
      rw [set_bys] at hst
      go_roundw
      case rel =>
        refine ⟨k + 1, _, by omega, by go_num, rfl, ?_, hst.1, ?_, ?_⟩
        · rw [List.length_set]; exact HLK.out
        · intro j hj1 hj2; rw [nth_set_ne _ _ _ _ (by omega)]; exact HN.out j (by omega) hj2
        · exact (grown_drewN hgr nq).trans hst.2
      case measure => simp [intOf]; omega
    · clear hlk
      go_wp2_with fail
      go_ret
      exact ⟨rfl, hgr⟩
/-- the form of a string -/
def sb (l : List Int) : List Int := vb l.length ++ l
theorem sb_by {l : List Int} (h : BY l) (hn : l.length < 2 ^ 64) : BY (sb l) := (vb_by _ hn).append h
set_option maxHeartbeats 400000 in
theorem string_any (A : Option Addr) (n c : Nat) (l : List Int) (hn : n ≤ 140737488351232) (w : World) (hl : RB w A n l) :
    Calls Try.prog 29 #[.slice A n c] w fun e w' => ∃ v, e = .returned v ∧ OB 5 w' w.heap.size v (sb l) ∧ Below w.heap.size w w' := by
  have HLL := Lib.hid hl.len
  have hw := wrap_u64 n (by omega) (by omega)
  have hv := (vb_len n).2
  go_enter Try.func29, Try.ntmps29
  go_wp2_with (first
    | (go_at_call 28; refine (varint_any n (by omega) (by omega) _).mono ?_; rintro e w1 ⟨v1, rfl, hown1, hB1⟩; rw [Int.toNat_natCast] at hown1)
    | (at_builtin; go_loud (refine wpList_append_by (w0 := w) rfl w.heap.size (.tmp 6) (.tmp 7) 25 5 rfl Try.underlying25 info5 v1 (vb n) rfl hown1 A n c l rfl (hl.below hB1) hB1 hB1.size ?_ ?_; (omega); intro v2 w2 hown2 hB2 hg2 hat2)))
  go_ret
  exact ⟨v2, rfl, by unfold sb; rw [HLL.out]; exact hown2, hB2⟩
set_option maxHeartbeats 400000 in
theorem rstring_any (A : Option Addr) (n c : Nat) (l : List Int) (hn : n ≤ 140737488351232) (w : World) (hl : RB w A n l) :
    Calls Try.prog 41 #[.slice A n c] w fun e w' => ∃ v, e = .returned v ∧ OB 5 w' w.heap.size v (sb l) ∧ Below w.heap.size w w' := by
  have HLL := Lib.hid hl.len
  have hw := wrap_u64 n (by omega) (by omega)
  have hv := (vb_len n).2
  go_enter Try.func41, Try.ntmps41
  go_wp2_with (first
    | (go_at_call 37; refine (rvarint_any n (by omega) (by omega) _).mono ?_; rintro e w1 ⟨v1, rfl, hown1, hB1⟩; rw [Int.toNat_natCast] at hown1)
    | (at_builtin; go_loud (refine wpList_append_by (w0 := w) rfl w.heap.size (.tmp 6) (.tmp 7) 25 5 rfl Try.underlying25 info5 v1 (vb n) rfl hown1 A n c l rfl (hl.below hB1) hB1 hB1.size ?_ ?_; (omega); intro v2 w2 hown2 hB2 hg2 hat2)))
  go_ret
  exact ⟨v2, rfl, by unfold sb; rw [HLL.out]; exact hown2, hB2⟩
end Go.Proofs.Ythggicgbcgeggaa
