/- Walk: the document's own reader's String. -/
import Derived.Test.YthggicgbcgeggaaV16
set_option linter.unusedVariables false
set_option linter.unusedSimpArgs false
namespace Go.Proofs.Ythggicgbcgeggaa
open Go.RowKit
set_option maxHeartbeats 2000000 in
theorem qstring_any (g : Nat) (A : Option Addr) (n c : Nat) (l : List Int) (p : Nat) (b most : Int) (w : World) (h : QS w g A n c l p b) (m0 : -9223372036854775808 ≤ most) (m1 : most ≤ 9223372036854775807) :
    Calls Try.prog 91 #[.pointer (some ⟨g, 0, none⟩), .int .i64 most] w fun e w' => ∃ v, e = .returned v ∧ OB 5 w' w.heap.size v (rdS l p b most).1 ∧ QS w' g A n c l (rdS l p b most).2.1 (rdS l p b most).2.2 ∧ w.grownBy w' (some g) := by
  by_cases hb0 : b = 0
  · subst hb0
    have c0 := h.rd.c0
    have c1 := h.rd.c1
    have c2 := h.rd.c2
    have H := Lib.hid h
    have p0 : (0 : Int) ≤ (p : Int) := Int.natCast_nonneg _
    have p1 : (p : Int) ≤ (n : Int) := by have := h.hp; omega
    have p3 : (n : Int) ≤ (c : Int) := by have := h.hc; omega
    have p2 : (p : Int) ≤ (c : Int) := by omega
    have HCN := Lib.hid (show n - p ≤ c - p by omega)
    have hll := h.rb.len
    have HL := Lib.hid hll
    have ht := h.rb.top
    obtain ⟨s, j, e, hv, hxj, hxs⟩ : ∃ s j e, rsI (l.drop p) most = (s, j, e) ∧ (e = 0 → 0 ≤ j ∧ (p : Int) + j ≤ n) ∧ (e ≠ 0 → s = []) := by
      rcases rsI_cases (l.drop p) (by_drop h.rb.by_ p) most with ⟨e, he, h'⟩ | ⟨s, k, h', hk, _⟩
      · exact ⟨_, _, _, h', by omega, fun _ => rfl⟩
      · rw [List.length_drop] at hk; exact ⟨_, _, _, h', by omega, fun h => absurd rfl h⟩
    have HJ := Lib.hid (And.intro hxj hxs)
    have HV := Lib.hid hv
    have HC : Hid (∀ W A' c', RB W A' (n - p) (l.drop p) → n - p ≤ c' → Calls Try.prog 25 #[.slice A' (n - p) c', .int .i64 most] W fun e' w' => ∃ v, e' = .returned (.tuple #[v, .int .i64 j, .int .i64 e]) ∧ OB 5 w' W.heap.size v s ∧ Below W.heap.size W w') := by
      refine Lib.hid ?_
      intro W A' c' hr hc'
      refine (rrstr_any A' _ c' _ most W hr hc' m0 m1).mono ?_
      rw [hv]
      rintro e' w' ⟨v, rfl, h1, h2⟩
      exact ⟨v, rfl, h1, h2⟩
    have HRB : Hid ((p = n → ∀ A', RB w.drew A' (n - p) (l.drop p)) ∧ (p < n → ∃ ad, A = some ad ∧ RB w.drew (some (ad.add p)) (n - p) (l.drop p))) := by
      refine Lib.hid ?_
      refine ⟨fun e A' => RB_end _ _ HL.out e, fun hlt => ?_⟩
      obtain ⟨ad, rfl, -⟩ := h.rb.cell p hlt
      have hs := h.rb.sub p (n - p) (by omega)
      rw [List.take_of_length_le (by rw [List.length_drop, h.rb.len]; omega)] at hs
      exact ⟨ad, rfl, hs.drew⟩
    have HE := Lib.hid (show rdS l p 0 most = if e ≠ 0 then ([], p, e) else (s, p + j.toNat, 0) by simp only [rdS, HV.out]; simp)
    clear hll hxj hxs hv h
    by_cases hd : e = 0
    · subst hd
      obtain ⟨j0, j1⟩ := HJ.out.1 rfl
      have hr := Lib.hid (show rdS l p 0 most = (s, p + j.toNat, 0) by rw [HE.out]; simp)
      by_cases hcp : c = p
      · have h1 := H.out.hc
        have h2 := H.out.hp
        obtain rfl : n = c := by omega
        obtain rfl : p = n := by omega
        have hc0 := HC.out
        have hrb0 : ∀ A', RB w.drew A' (p - p) (l.drop p) := fun A' => HRB.out.1 rfl A'
        rw [Nat.sub_self] at hc0 hrb0
        have HC0 := Lib.hid hc0
        have HRB0 := Lib.hid hrb0
        clear hcp h1 h2 hc0 hrb0
        go_enter Try.func91, Try.ntmps91
        go_wp2_with fail
        go_region_held3 (fun w' => w'.cell? ⟨g, 0, none⟩ = some (.slice A p p) ∧ w'.cell? ⟨g, 1, none⟩ = some (.int .i64 p)) (first | exact ⟨d0, d1⟩ | exact ⟨c0, c1⟩)
          (first | (go_at_call 25; refine (HC0.out _ _ _ (HRB0.out _) (Nat.le_refl _)).mono ?_; rintro e w3 ⟨v3, rfl, hO3, hw3⟩; have HO3 := Lib.hid (show OB 5 w3 w.heap.size v3 s from hO3); clear hO3; have HQ := Lib.hid (show QD w3 g (.slice A p p) p 0 from (hw3.block _ (lt_of_block H.out.rd)).trans H.out.rd); have d0 := HQ.out.c0; have d1 := HQ.out.c1; have d4 := HQ.out.c2; have d2 := blk_free HQ.out 1; have d3 := blk_free HQ.out 2; have hgW : w.grownBy w3 (some g) := ⟨hw3.os, hw3.tape, hw3.output, hw3.size, fun i hi _ => hw3.block i hi⟩))
        go_wp2_with fail
        go_ret
        have hq := HQ.out
        refine ⟨v3, rfl, by rw [hr.out]; exact HO3.out.far (grown_setCell 1 _) (lt_of_block H.out.rd), ?_, hgW.trans (grown_setCell 1 _)⟩
        rw [hr.out]
        have hq2 := blk_set hq 1 (.int .i64 ((p : Int) + j))
        exact qs_of H.out (by simp only; omega) (by rw [show ((p + j.toNat : Nat) : Int) = (p : Int) + j by omega]; exact hq2) (hgW.trans (grown_setCell 1 _))
      · by_cases hpn : p = n
        · have HN := Lib.hid hpn
          clear hpn
          go_enter Try.func91, Try.ntmps91
          go_wp2_with fail
          go_region_held3 (fun w' => w'.cell? ⟨g, 0, none⟩ = some (.slice A n c) ∧ w'.cell? ⟨g, 1, none⟩ = some (.int .i64 p)) (first | exact ⟨d0, d1⟩ | exact ⟨c0, c1⟩)
            (first | (go_at_call 25; refine (HC.out _ _ _ (HRB.out.1 HN.out _) HCN.out).mono ?_; rintro e w3 ⟨v3, rfl, hO3, hw3⟩; have HO3 := Lib.hid (show OB 5 w3 w.heap.size v3 s from hO3); clear hO3; have HQ := Lib.hid (show QD w3 g (.slice A n c) p 0 from (hw3.block _ (lt_of_block H.out.rd)).trans H.out.rd); have d0 := HQ.out.c0; have d1 := HQ.out.c1; have d4 := HQ.out.c2; have d2 := blk_free HQ.out 1; have d3 := blk_free HQ.out 2; have hgW : w.grownBy w3 (some g) := ⟨hw3.os, hw3.tape, hw3.output, hw3.size, fun i hi _ => hw3.block i hi⟩))
          go_wp2_with fail
          go_ret
          have hq := HQ.out
          refine ⟨v3, rfl, by rw [hr.out]; exact HO3.out.far (grown_setCell 1 _) (lt_of_block H.out.rd), ?_, hgW.trans (grown_setCell 1 _)⟩
          rw [hr.out]
          have hq2 := blk_set hq 1 (.int .i64 ((p : Int) + j))
          exact qs_of H.out (by simp only; omega) (by rw [show ((p + j.toNat : Nat) : Int) = (p : Int) + j by omega]; exact hq2) (hgW.trans (grown_setCell 1 _))
        · have hlt := H.out.hp
          obtain ⟨ad, rfl, hs⟩ := HRB.out.2 (by omega)
          have HS := Lib.hid hs
          clear hpn hs
          go_enter Try.func91, Try.ntmps91
          go_wp2_with fail
          go_region_held3 (fun w' => w'.cell? ⟨g, 0, none⟩ = some (.slice (some ad) n c) ∧ w'.cell? ⟨g, 1, none⟩ = some (.int .i64 p)) (first | exact ⟨d0, d1⟩ | exact ⟨c0, c1⟩)
            (first | (go_at_call 25; refine (HC.out _ _ _ HS.out HCN.out).mono ?_; rintro e w3 ⟨v3, rfl, hO3, hw3⟩; have HO3 := Lib.hid (show OB 5 w3 w.heap.size v3 s from hO3); clear hO3; have HQ := Lib.hid (show QD w3 g (.slice (some ad) n c) p 0 from (hw3.block _ (lt_of_block H.out.rd)).trans H.out.rd); have d0 := HQ.out.c0; have d1 := HQ.out.c1; have d4 := HQ.out.c2; have d2 := blk_free HQ.out 1; have d3 := blk_free HQ.out 2; have hgW : w.grownBy w3 (some g) := ⟨hw3.os, hw3.tape, hw3.output, hw3.size, fun i hi _ => hw3.block i hi⟩))
          go_wp2_with fail
          go_ret
          have hq := HQ.out
          refine ⟨v3, rfl, by rw [hr.out]; exact HO3.out.far (grown_setCell 1 _) (lt_of_block H.out.rd), ?_, hgW.trans (grown_setCell 1 _)⟩
          rw [hr.out]
          have hq2 := blk_set hq 1 (.int .i64 ((p : Int) + j))
          exact qs_of H.out (by simp only; omega) (by rw [show ((p + j.toNat : Nat) : Int) = (p : Int) + j by omega]; exact hq2) (hgW.trans (grown_setCell 1 _))
    · have hr := Lib.hid (show rdS l p 0 most = ([], p, e) by rw [HE.out]; simp [hd])
      have d1' : (e == 0) = false := by simpa using hd
      have d2' : (e != 0) = true := by simpa using hd
      clear hd
      by_cases hcp : c = p
      · have h1 := H.out.hc
        have h2 := H.out.hp
        obtain rfl : n = c := by omega
        obtain rfl : p = n := by omega
        have hc0 := HC.out
        have hrb0 : ∀ A', RB w.drew A' (p - p) (l.drop p) := fun A' => HRB.out.1 rfl A'
        rw [Nat.sub_self] at hc0 hrb0
        have HC0 := Lib.hid hc0
        have HRB0 := Lib.hid hrb0
        clear hcp h1 h2 hc0 hrb0
        go_enter Try.func91, Try.ntmps91
        go_wp2_with fail
        go_region_held3 (fun w' => w'.cell? ⟨g, 0, none⟩ = some (.slice A p p) ∧ w'.cell? ⟨g, 1, none⟩ = some (.int .i64 p)) (first | exact ⟨d0, d1⟩ | exact ⟨c0, c1⟩)
          (first | (go_at_call 25; refine (HC0.out _ _ _ (HRB0.out _) (Nat.le_refl _)).mono ?_; rintro e w3 ⟨v3, rfl, hO3, hw3⟩; have HO3 := Lib.hid (show OB 5 w3 w.heap.size v3 s from hO3); clear hO3; have HQ := Lib.hid (show QD w3 g (.slice A p p) p 0 from (hw3.block _ (lt_of_block H.out.rd)).trans H.out.rd); have d0 := HQ.out.c0; have d1 := HQ.out.c1; have d4 := HQ.out.c2; have d2 := blk_free HQ.out 1; have d3 := blk_free HQ.out 2; have hgW : w.grownBy w3 (some g) := ⟨hw3.os, hw3.tape, hw3.output, hw3.size, fun i hi _ => hw3.block i hi⟩))
        go_wp2_with fail
        go_ret
        have hq := HQ.out
        refine ⟨.slice none 0 0, rfl, by rw [hr.out]; exact OB.nil _ _ _, ?_, hgW.trans (grown_setCell 2 _)⟩
        rw [hr.out]
        exact qs_of H.out H.out.hp (blk_set hq 2 _) (hgW.trans (grown_setCell 2 _))
      · by_cases hpn : p = n
        · have HN := Lib.hid hpn
          clear hpn
          go_enter Try.func91, Try.ntmps91
          go_wp2_with fail
          go_region_held3 (fun w' => w'.cell? ⟨g, 0, none⟩ = some (.slice A n c) ∧ w'.cell? ⟨g, 1, none⟩ = some (.int .i64 p)) (first | exact ⟨d0, d1⟩ | exact ⟨c0, c1⟩)
            (first | (go_at_call 25; refine (HC.out _ _ _ (HRB.out.1 HN.out _) HCN.out).mono ?_; rintro e w3 ⟨v3, rfl, hO3, hw3⟩; have HO3 := Lib.hid (show OB 5 w3 w.heap.size v3 s from hO3); clear hO3; have HQ := Lib.hid (show QD w3 g (.slice A n c) p 0 from (hw3.block _ (lt_of_block H.out.rd)).trans H.out.rd); have d0 := HQ.out.c0; have d1 := HQ.out.c1; have d4 := HQ.out.c2; have d2 := blk_free HQ.out 1; have d3 := blk_free HQ.out 2; have hgW : w.grownBy w3 (some g) := ⟨hw3.os, hw3.tape, hw3.output, hw3.size, fun i hi _ => hw3.block i hi⟩))
          go_wp2_with fail
          go_ret
          have hq := HQ.out
          refine ⟨.slice none 0 0, rfl, by rw [hr.out]; exact OB.nil _ _ _, ?_, hgW.trans (grown_setCell 2 _)⟩
          rw [hr.out]
          exact qs_of H.out H.out.hp (blk_set hq 2 _) (hgW.trans (grown_setCell 2 _))
        · have hlt := H.out.hp
          obtain ⟨ad, rfl, hs⟩ := HRB.out.2 (by omega)
          have HS := Lib.hid hs
          clear hpn hs
          go_enter Try.func91, Try.ntmps91
          go_wp2_with fail
          go_region_held3 (fun w' => w'.cell? ⟨g, 0, none⟩ = some (.slice (some ad) n c) ∧ w'.cell? ⟨g, 1, none⟩ = some (.int .i64 p)) (first | exact ⟨d0, d1⟩ | exact ⟨c0, c1⟩)
            (first | (go_at_call 25; refine (HC.out _ _ _ HS.out HCN.out).mono ?_; rintro e w3 ⟨v3, rfl, hO3, hw3⟩; have HO3 := Lib.hid (show OB 5 w3 w.heap.size v3 s from hO3); clear hO3; have HQ := Lib.hid (show QD w3 g (.slice (some ad) n c) p 0 from (hw3.block _ (lt_of_block H.out.rd)).trans H.out.rd); have d0 := HQ.out.c0; have d1 := HQ.out.c1; have d4 := HQ.out.c2; have d2 := blk_free HQ.out 1; have d3 := blk_free HQ.out 2; have hgW : w.grownBy w3 (some g) := ⟨hw3.os, hw3.tape, hw3.output, hw3.size, fun i hi _ => hw3.block i hi⟩))
          go_wp2_with fail
          go_ret
          have hq := HQ.out
          refine ⟨.slice none 0 0, rfl, by rw [hr.out]; exact OB.nil _ _ _, ?_, hgW.trans (grown_setCell 2 _)⟩
          rw [hr.out]
          exact qs_of H.out H.out.hp (blk_set hq 2 _) (hgW.trans (grown_setCell 2 _))
  · have hr : rdS l p b most = ([], p, b) := by simp [rdS, hb0]
    have hd : (b != 0) = true := by simpa using hb0
    have c2 := h.rd.c2
    rw [hr]
    clear hb0
    go_enter Try.func91, Try.ntmps91
    go_wp2_with fail
    go_ret
    exact ⟨_, rfl, OB.nil _ _ _, h, grown_refl _ _⟩
end Go.Proofs.Ythggicgbcgeggaa
