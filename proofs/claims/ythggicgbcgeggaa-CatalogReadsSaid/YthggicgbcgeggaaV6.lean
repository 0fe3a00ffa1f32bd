/- Walk: flumelaw1.begun returns true. -/
import Derived.Test.YthggicgbcgeggaaV5
import Derived.Lib.SlBytesConst
set_option linter.unusedVariables false
set_option linter.unusedSimpArgs false
namespace Go.Proofs.Ythggicgbcgeggaa
open Go.RowKit
set_option maxHeartbeats 400000 in
theorem newReader_any (A : Option Addr) (n c : Nat) (l : List Int) (w : World) (hl : RB w A n l) :
    Calls Try.prog 42 #[.slice A n c] w fun e w' => ∃ g A2 c2, e = .returned (.pointer (some ⟨g, 0, none⟩)) ∧ w.heap.size ≤ g ∧ RD w' g (.slice A2 n c2) 0 0 ∧ RB w' A2 n l ∧ n ≤ c2 ∧ Below w.heap.size w w' := by
  have HLL := Lib.hid hl.len
  have ht := hl.top
  go_enter Try.func42, Try.ntmps42
  go_wp2_with (at_builtin; refine wpList_append_by (w0 := w) rfl w.heap.size (.const (.slice none 0 0)) (.tmp 3) 25 5 rfl Try.underlying25 info5 (.slice none 0 0) [] rfl (OB.nil _ _ _) A n c l rfl hl (Below.refl _ _) (Nat.le_refl _) ?_ ?_; (simp; omega); intro v1 w1 hown1 hB1 hg1 hat1; rw [List.nil_append] at hown1; obtain ⟨A2, n2, c2, rfl, hc2, hb2⟩ := hown1.readN hl.by_ (by rw [HLL.out]; exact ht); obtain rfl : n2 = n := (by rw [← hb2.len, HLL.out]))
  go_ret
  have hn := heap_alloc_new w1 (.cells #[.slice A2 n2 c2, .int .i64 0, .int .i64 0] 65)
  exact ⟨_, A2, c2, rfl, hB1.size, hn, hb2.below (below_alloc1 _ _), hc2, hB1.alloc hB1.size _⟩
theorem err_bad (g : Nat) (s : Value) (p b : Int) (w : World) (hr : RD w g s p b) (hb : b ≠ 0) :
    Calls Try.prog 44 #[.pointer (some ⟨g, 0, none⟩)] w fun e w' => e = .returned (.tuple #[.int .i64 p, .int .i64 b]) ∧ ∃ k, w' = w.drewN k := by
  have c1 := hr.c1
  have c2 := hr.c2
  have hd : (b == 0) = false := by simpa using hb
  clear hb
  go_enter Try.func44, Try.ntmps44
  go_wp2_with fail
  go_quiet (fail)
  go_wp2_with fail
  go_ret2
  exact ⟨rfl, nq, rfl⟩
theorem left_any (g : Nat) (A : Option Addr) (n c : Nat) (p : Nat) (b : Int) (w : World) (hr : RD w g (.slice A n c) p b) (hp : p ≤ n) (hn : n ≤ 140737488355328) :
    Calls Try.prog 47 #[.pointer (some ⟨g, 0, none⟩)] w fun e w' => e = .returned (.int .i64 ((n : Int) - p)) ∧ ∃ k, w' = w.drewN k := by
  have c0 := hr.c0
  have c1 := hr.c1
  have hw : IntKind.i64.wrap ((n : Int) - p) = (n : Int) - p := by rw [IntKind.wrap_i64]; omega
  go_enter Try.func47, Try.ntmps47
  go_wp2_with fail
  go_quiet (fail)
  go_wp2_with fail
  go_ret
  exact ⟨rfl, nq, rfl⟩
theorem vb300 : vb (300 : Int).toNat = [172, 2] := by decide
theorem rv300 : rvI [172, 2] = (300, 2, 0) := by decide
theorem rv128 : rvI [128, 0] = (0, 0, 4) := by decide
theorem rs97 : rsI [2, 97, 98, 99] 9 = ([97, 98], 3, 0) := by decide
theorem rv5 : rvI (List.drop 0 [5, 1, 0]) = (5, ((1 : Nat) : Int), 0) := by decide
theorem below_drewN {w w' : World} {b : Nat} (h : Below b w w') (k : Nat) : Below b w (w'.drewN k) := ⟨h.os, h.tape, h.output, h.size, h.block⟩
theorem below_grow {b : Nat} {w w1 w2 : World} {g : Nat} (h : Below b w w1) (hb : b ≤ w1.heap.size) (hg : w1.grownBy w2 (some g)) (hgb : b ≤ g) : Below b w w2 :=
  h.grown hg hb (fun k hk => by injection hk with hk; omega)
theorem below_to {b : Nat} {w w1 w2 : World} (h : Below b w w1) (hb : b ≤ w1.heap.size) (k : Below w1.heap.size w1 w2) : Below b w w2 := h.trans (k.mono hb)
theorem by_lit (l : List Int) (h : l.all (fun x => decide (0 ≤ x) && decide (x ≤ 255)) = true) : BY l := by
  intro x hx
  have := List.all_eq_true.1 h x hx
  simpa using this
theorem RD.below {w w' : World} {g : Nat} {s : Value} {p b : Int} (h : RD w g s p b) (hb : Below w.heap.size w w') : RD w' g s p b := by
  unfold RD; rw [hb.block g (lt_of_block h)]; exact h
theorem by128 : BY [128, 0] := by_lit _ (by decide)
theorem by2 : BY [2, 97, 98, 99] := by_lit _ (by decide)
theorem by5 : BY [5, 1, 0] := by_lit _ (by decide)
theorem by172 : BY [172, 2] := by_lit _ (by decide)
theorem by97 : BY [97, 98] := by_lit _ (by decide)
set_option maxRecDepth 20000 in
set_option maxHeartbeats 2000000 in
theorem begun_any (w : World) :
    Calls Try.prog 20 #[] w fun e w' => e = .returned (.bool true) ∧ Below w.heap.size w w' := by
  have kc := fun (w : World) (C : Array Value) (n c : Nat) => Lib.run_convert_bytes_const (P := Try.prog) w 25 5 C n c Try.underlying25 Try.underlying5
  have q1 : eqI [172, 2] [172, 2] = true := by decide
  have q2 : eqI [97, 98] [97, 98] = true := by decide
  go_enter Try.func20, Try.ntmps20
  go_wp2_with (first
    | (go_at_call 28; refine (varint_any 300 (by omega) (by omega) _).mono ?_; rw [vb300]; rintro e w1 ⟨v1, rfl, hown1, hB1⟩; obtain ⟨A1, n1, c1, rfl, hc1, hb1⟩ := hown1.readN by172 (by simp); obtain rfl : n1 = 2 := hb1.len.symm)
    | (go_at_call 22; with_reducible refine (read_any _ 2 _ _ _ hb1).mono ?_; rw [rv300]; rintro e w2 ⟨rfl, rfl⟩)
    | (go_at_call 22; refine (read_any _ 2 _ [128, 0] _ (RB_lit (heap_alloc_new w1 _) by128 (by simp))).mono ?_; rw [rv128]; rintro e w3 ⟨rfl, rfl⟩; have hB3 := hB1.alloc hB1.size (.cells (bys [128, 0]).toArray 5); have hb3 := hb1.below (below_alloc1 w1 (.cells (bys [128, 0]).toArray 5)); generalize (w1.alloc (.cells (bys [128, 0]).toArray 5)) = w3 at hB3 hb3 ⊢)
    | (go_at_call 24; refine (rstr_any _ 4 4 [2, 97, 98, 99] 9 _ (RB_lit (heap_alloc_new w3 _) by2 (by simp)) (by omega) (by omega) (by omega)).mono ?_; rw [rs97]; rintro e w4 ⟨v4, rfl, hown4, hB4⟩; obtain ⟨A4, n4, c4, rfl, hc4, hb4⟩ := hown4.readN by97 (by simp); obtain rfl : n4 = 2 := hb4.len.symm; have hB5 := below_to (hB3.alloc hB3.size _) (hB3.alloc hB3.size _).size hB4; have hb5 := (hb3.below (below_alloc1 w3 _)).below hB4)
    | (go_at_call 42; refine (newReader_any _ 3 _ [5, 1, 0] _ (RB_lit (heap_alloc_new w4 _) by5 (by simp))).mono ?_; rintro e w5 ⟨g, A5, c5, rfl, hg5, hr5, hs5, hc5, hB6⟩; have hB7 := below_to (hB5.alloc hB5.size _) (hB5.alloc hB5.size _).size hB6; have hb7 := (hb5.below (below_alloc1 w4 _)).below hB6; have hb8 := (hb4.below (below_alloc1 w4 _)).below hB6; have hgw := Nat.le_trans (hB5.alloc hB5.size _).size hg5)
    | (go_at_call 48; refine (varintR_ok g A5 3 c5 [5, 1, 0] 0 9 5 1 w5 hr5 hs5 hc5 (by omega) rv5 (by omega) (by omega)).mono ?_; rintro e w6 ⟨rfl, hr6, hg6⟩; have hB8 := below_grow hB7 hB7.size hg6 hgw; have hs6 := hs5.grown hr5 (fun x => by simp) hg6; have hb9 := hb7.grown hr5 (fun x => by simp) hg6; have hb10 := hb8.grown hr5 (fun x => by simp) hg6)
    | (go_at_call 50; refine (fixed32_short g A5 3 c5 [5, 1, 0] 1 w6 hr6 hs6 hc5 (by omega) (by omega)).mono ?_; rintro e w7 ⟨rfl, hr7, hg7⟩; have hB9 := below_grow hB8 hB8.size hg7 hgw; have hb11 := hb9.grown hr6 (fun x => by simp) hg7; have hb12 := hb10.grown hr6 (fun x => by simp) hg7)
    | (go_at_call 44; refine (err_bad g _ _ 2 w7 hr7 (by omega)).mono ?_; rintro e w8 ⟨rfl, k8, rfl⟩; have hB10 := below_drewN hB9 k8; have hb13 := hb11.drewN k8; have hb14 := hb12.drewN k8; have hr8 : RD (w7.drewN k8) g (.slice A5 3 c5) _ 2 := hr7; generalize w7.drewN k8 = w8 at hB10 hb13 hb14 hr8 ⊢)
    | (go_at_call 26; with_reducible refine (eq_any A1 _ 2 2 c1 _ [172, 2] [172, 2] _ (hb13.below (below_alloc1 _ _)) (RB_lit (heap_alloc_new _ _) by172 (by simp))).mono ?_; rw [q1]; rintro e w9 ⟨rfl, hB11⟩; have hB12 := below_to (hB10.alloc hB10.size _) (hB10.alloc hB10.size _).size hB11; have hb15 := (hb14.below (below_alloc1 _ _)).below hB11; have hr9 := (hr8.below (below_alloc1 _ _)).below hB11)
    | (go_at_call 26; refine (eq_any A4 _ 2 2 c4 _ [97, 98] [97, 98] _ (hb15.below (below_alloc1 _ _)) (RB_lit (heap_alloc_new _ _) by97 (by simp))).mono ?_; rw [q2]; rintro e w10 ⟨rfl, hB13⟩; have hB14 := below_to (hB12.alloc hB12.size _) (hB12.alloc hB12.size _).size hB13; have hr10 := (hr9.below (below_alloc1 _ _)).below hB13)
    | (go_at_call 47; refine (left_any g A5 3 c5 1 2 w10 hr10 (by omega) (by omega)).mono ?_; rintro e w11 ⟨rfl, k11, rfl⟩))
  go_ret
  exact ⟨rfl, below_drewN hB14 _⟩
end Go.Proofs.Ythggicgbcgeggaa
