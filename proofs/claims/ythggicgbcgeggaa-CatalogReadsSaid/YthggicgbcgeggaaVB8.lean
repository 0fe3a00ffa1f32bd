/- Plain words and a walk: the document's own number; reading at an offset; errors stay. -/
import Derived.Test.YthggicgbcgeggaaVB7
import Derived.Test.YthggicgbcgeggaaV16
set_option linter.unusedVariables false
set_option linter.unusedSimpArgs false
namespace Go.Proofs.Ythggicgbcgeggaa
open Go.RowKit
open K
/-- the document's word for an error: too long is of no form -/
def mb (b : Int) : Int := if b = 3 then 4 else b
theorem mb0 : mb 0 = 0 := rfl
theorem mb_ne {b : Int} (h : b ≠ 0) : mb b ≠ 0 := by unfold mb; split <;> omega
theorem mb_eq {b : Int} (h : mb b = 0) : b = 0 := Classical.byContradiction fun h2 => mb_ne h2 h
theorem rdN_stick (l : List Int) (p : Nat) (b most : Int) (h : b ≠ 0) : rdN l p b most = (0, p, b) := by unfold rdN; rw [if_pos h]
theorem rdL_stick (l : List Int) (p : Nat) (b : Int) (h : b ≠ 0) : rdL l p b 4 = (0, p, b) := by unfold rdL; rw [if_pos h]
theorem rdSeg_stick (l : List Int) (p : Nat) (b : Int) (h : b ≠ 0) : rdSeg l p b = (⟨0, 0, 0, 0, 0⟩, p, b) :=
  rdSeg_of (rdN_stick l p b M63 h) (rdN_stick l p b M63 h) (rdL_stick l p b h) (rdN_stick l p b M63 h) (rdN_stick l p b M63 h)
theorem rdSegs_stick (l : List Int) (p : Nat) (b : Int) (k : Nat) (h : (rdSegs l p b k).2.2 ≠ 0) : ∀ d, (rdSegs l p b (k + d)).2.2 = (rdSegs l p b k).2.2
  | 0 => rfl
  | d + 1 => by
    have ih := rdSegs_stick l p b k h d
    show (rdSeg l (rdSegs l p b (k + d)).2.1 (rdSegs l p b (k + d)).2.2).2.2 = _
    rw [rdSeg_stick l _ _ (by rw [ih]; exact h)]
    exact ih
/-- S is L from the fourth byte on -/
theorem rdN_off {L S : List Int} (hS : S = L.drop 4) (p : Nat) (b most : Int) : rdN L (p + 4) (mb b) most = ((rdN S p b most).1, (rdN S p b most).2.1 + 4, if b = 0 then (rdN S p b most).2.2 else mb b) := by
  subst hS
  by_cases h : b = 0
  · subst h
    rw [if_pos rfl, mb0]
    unfold rdN
    rw [List.drop_drop, show 4 + p = p + 4 by omega]
    simp only [ne_eq, not_true_eq_false, if_false]
    split
    · rfl
    · split
      · rfl
      · simp only [Prod.mk.injEq, true_and, and_true]; omega
  · rw [if_neg h, rdN_stick _ _ _ _ (mb_ne h), rdN_stick _ _ _ _ h]
theorem rdL_off {L S : List Int} (hS : S = L.drop 4) (hl : 4 ≤ L.length) (p : Nat) (b : Int) : rdL L (p + 4) (mb b) 4 = ((rdL S p b 4).1, (rdL S p b 4).2.1 + 4, if b = 0 then (rdL S p b 4).2.2 else mb b) := by
  subst hS
  by_cases h : b = 0
  · subst h
    rw [if_pos rfl, mb0]
    unfold rdL
    rw [List.drop_drop, List.length_drop, show 4 + p = p + 4 by omega, show L.length - 4 - p = L.length - (p + 4) by omega]
    simp only [ne_eq, not_true_eq_false, if_false]
    split
    · rfl
    · simp only [Prod.mk.injEq, true_and, and_true]
  · rw [if_neg h, rdL_stick _ _ _ (mb_ne h), rdL_stick _ _ _ h]
theorem rdL_b (l : List Int) (p : Nat) (b : Int) : (rdL l p b 4).2.2 = b ∨ (rdL l p b 4).2.2 = 2 ∨ (rdL l p b 4).2.2 = 0 := by
  unfold rdL
  split
  · exact .inl rfl
  · split
    · exact .inr (.inl rfl)
    · exact .inr (.inr rfl)
set_option maxHeartbeats 400000 in
theorem rnumber_any (g : Nat) (A : Option Addr) (n c : Nat) (L S : List Int) (hS : S = L.drop 4) (p : Nat) (b : Int) (w : World) (h : QS w g A n c L (p + 4) (mb b)) :
    Calls Try.prog 114 #[.pointer (some ⟨g, 0, none⟩)] w fun e w' => e = .returned (.int .i64 (rdN S p b M63).1) ∧ QS w' g A n c L ((rdN S p b M63).2.1 + 4) (mb (rdN S p b M63).2.2) ∧ w.grownBy w' (some g) := by
  have ho := rdN_off hS p b M63
  have hq := rdN_bd L h.rb.by_ (p + 4) (by rw [h.rb.len]; exact h.hp) (mb b) M63 (by decide)
  rw [ho] at hq
  have hw := wrap_pos (rdN S p b M63).1 hq.1 hq.2.1
  obtain ⟨x, q, y, hr⟩ : ∃ x q y, rdN S p b M63 = (x, q, y) := ⟨_, _, _, rfl⟩
  have hst : b ≠ 0 → y = b := fun hb => by rw [rdN_stick S p b M63 hb] at hr; simp only [Prod.mk.injEq] at hr; exact hr.2.2.symm
  rw [hr] at ho hw
  rw [hr]
  have HR := Lib.hid ho
  clear ho hq hr
  by_cases h3 : (if b = 0 then y else mb b) = 3
  · have hb : b = 0 := Classical.byContradiction fun hb => by rw [if_neg hb] at h3; unfold mb at h3; split at h3 <;> omega
    subst hb
    rw [if_pos rfl] at h3
    subst h3
    rw [if_pos rfl] at HR
    go_enter Try.func114, Try.ntmps114
    go_wp2_with (go_at_call 88; refine (qvarint_any g A n c L (p + 4) _ M63 _ h).mono ?_; rw [HR.out]; rintro e w1 ⟨rfl, hs1, hg1⟩; have c2 := hs1.rd.c2; have f2 := blk_free hs1.rd 2)
    go_ret
    have hg2 : w1.grownBy (w1.setCell ⟨g, 2, none⟩ (.int .i64 4)) (some g) := by
      have hB := (Below.refl g w1).setCell (p := ⟨g, 2, none⟩) (Nat.le_refl _) (.int .i64 4)
      exact ⟨hB.os, hB.tape, hB.output, hB.size, fun k _ hk => Below.heap_setCell w1 ⟨g, 2, none⟩ (.int .i64 4) k (fun e => hk (by rw [e]))⟩
    exact ⟨rfl, qs_of hs1 hs1.hp (blk_set hs1.rd 2 (.int .i64 4)) hg2, ⟨hg2.os.trans hg1.os, hg2.tape.trans hg1.tape, hg2.output.trans hg1.output, Nat.le_trans hg1.size hg2.size, fun k hk hn => (hg2.block k (Nat.lt_of_lt_of_le hk hg1.size) hn).trans (hg1.block k hk hn)⟩⟩
  · have hyy : (if b = 0 then y else mb b) = mb y := by
      by_cases hb : b = 0
      · subst hb; rw [if_pos rfl] at h3 ⊢; unfold mb; rw [if_neg h3]
      · rw [if_neg hb, hst hb]
    rw [hyy] at HR h3
    have h3b : (mb y == 3) = false := by simpa using h3
    clear hyy hst
    go_enter Try.func114, Try.ntmps114
    go_wp2_with (go_at_call 88; refine (qvarint_any g A n c L (p + 4) _ M63 _ h).mono ?_; rw [HR.out]; rintro e w1 ⟨rfl, hs1, hg1⟩; have c2 := hs1.rd.c2)
    go_ret
    exact ⟨rfl, hs1, hg1⟩
theorem fb_lo : ∀ (k : Nat) (l : List Int), BY l → k ≤ l.length → fb (lo l k) k = l.take k
  | 0, l, _, _ => rfl
  | k + 1, l, hb, hl => by
    obtain ⟨x, r, rfl⟩ : ∃ x r, l = x :: r := by
      cases l with
      | nil => simp at hl
      | cons x r => exact ⟨x, r, rfl⟩
    have hr : BY r := fun y hy => hb y (by simp [hy])
    have hx := hb x (by simp)
    have h0 := low_small hr k
    rw [lo_cons]
    have e1 : nth (x :: r) 0 = x := rfl
    have e2 : (x :: r).drop 1 = r := rfl
    rw [e1, e2]
    unfold fb
    rw [show (x + 256 * lo r k) % 256 = x by omega, show (x + 256 * lo r k) / 256 = lo r k by omega, fb_lo k r hr (by simpa using hl)]
    rfl
theorem take_app (l : List Int) (p j : Nat) : l.take (p + j) = l.take p ++ (l.drop p).take j := by rw [List.take_add]
theorem rdN_back {l : List Int} (hb : BY l) {p p' : Nat} (hp : p ≤ l.length) {b x most : Int} (h : rdN l p b most = (x, p', 0)) : b = 0 ∧ l.take p' = l.take p ++ vb x.toNat ∧ p' ≤ l.length := by
  rcases rdN_cases l hb p hp b most with ⟨y, j, h0, h1, _, h3, _, _, h4⟩ | ⟨e, he, h4, _⟩
  · rw [h4] at h
    simp only [Prod.mk.injEq] at h
    obtain ⟨rfl, rfl, -⟩ := h
    refine ⟨h0, ?_, h3⟩
    rw [take_app, vb_rv (l.drop p) (by_drop hb p) y j h1]
  · rw [h4] at h
    simp only [Prod.mk.injEq] at h
    exact absurd h.2.2 he
theorem rdL_back {l : List Int} (hb : BY l) {p p' : Nat} {b x : Int} (h : rdL l p b 4 = (x, p', 0)) (hp : p ≤ l.length) : b = 0 ∧ l.take p' = l.take p ++ fb x 4 ∧ p' ≤ l.length := by
  unfold rdL at h
  split at h
  · rename_i hb0
    simp only [Prod.mk.injEq] at h
    exact absurd h.2.2 hb0
  · rename_i hb0
    split at h
    · simp at h
    · rename_i hl
      simp only [Prod.mk.injEq, and_true] at h
      obtain ⟨rfl, rfl⟩ := h
      refine ⟨Classical.byContradiction hb0, ?_, by omega⟩
      rw [take_app, fb_lo 4 (l.drop p) (by_drop hb p) (by rw [List.length_drop]; omega)]
theorem rdSeg_back {l : List Int} (hb : BY l) {p p' : Nat} (hp : p ≤ l.length) {b : Int} {s : Sg} (h : rdSeg l p b = (s, p', 0)) : b = 0 ∧ l.take p' = l.take p ++ segB s ∧ p' ≤ l.length := by
  rcases h1 : rdN l p b M63 with ⟨x1, p1, b1⟩
  rcases h2 : rdN l p1 b1 M63 with ⟨x2, p2, b2⟩
  rcases h3 : rdL l p2 b2 4 with ⟨x3, p3, b3⟩
  rcases h4 : rdN l p3 b3 M63 with ⟨x4, p4, b4⟩
  rcases h5 : rdN l p4 b4 M63 with ⟨x5, p5, b5⟩
  rw [rdSeg_of h1 h2 h3 h4 h5] at h
  simp only [Prod.mk.injEq] at h
  obtain ⟨rfl, rfl, rfl⟩ := h
  have q1 := rdN_bd l hb p hp b M63 (by decide)
  rw [h1] at q1
  have q2 := rdN_bd l hb p1 q1.2.2 b1 M63 (by decide)
  rw [h2] at q2
  have q3 := rdL_bd l hb p2 q2.2.2 b2
  rw [h3] at q3
  have q4 := rdN_bd l hb p3 q3.2.2 b3 M63 (by decide)
  rw [h4] at q4
  obtain ⟨rfl, t5, l5⟩ := rdN_back hb q4.2.2 h5
  obtain ⟨rfl, t4, l4⟩ := rdN_back hb q3.2.2 h4
  obtain ⟨rfl, t3, l3⟩ := rdL_back hb h3 q2.2.2
  obtain ⟨rfl, t2, l2⟩ := rdN_back hb q1.2.2 h2
  obtain ⟨rfl, t1, l1⟩ := rdN_back hb hp h1
  refine ⟨rfl, ?_, l5⟩
  rw [t5, t4, t3, t2, t1]
  simp [segB]
theorem rdSegs_back {l : List Int} (hb : BY l) {p : Nat} (hp : p ≤ l.length) {b : Int} : ∀ k, (rdSegs l p b k).2.2 = 0 → b = 0 ∧ l.take (rdSegs l p b k).2.1 = l.take p ++ ((rdSegs l p b k).1.map segB).flatten
  | 0, h => ⟨h, by simp [rdSegs]⟩
  | k + 1, h => by
    have hq := rdSegs_bd l hb p hp b k
    rcases hr : rdSegs l p b k with ⟨ss, q, b1⟩
    rw [hr] at hq
    rcases hs : rdSeg l q b1 with ⟨s, q2, b2⟩
    have e : rdSegs l p b (k + 1) = (ss ++ [s], q2, b2) := by
      show ((rdSegs l p b k).1 ++ [(rdSeg l (rdSegs l p b k).2.1 (rdSegs l p b k).2.2).1], (rdSeg l (rdSegs l p b k).2.1 (rdSegs l p b k).2.2).2) = _
      rw [hr]; simp only [hs]
    rw [e] at h ⊢
    simp only at h
    subst h
    obtain ⟨rfl, t, _⟩ := rdSeg_back hb hq.2 hs
    obtain ⟨h0, ih⟩ := rdSegs_back hb hp k (by rw [hr])
    rw [hr] at ih
    refine ⟨h0, ?_⟩
    simp only at ih ⊢
    rw [t, ih]
    simp
theorem bodyI_back {l : List Int} (hb : BY l) {g f : Int} {ss : List Sg} {e : Int} (h : bodyI l = (e, g, f, some ss)) : e = 0 ∧ mayB g f ss = true ∧ (∀ j, SW (sg ss j)) ∧ i64r g ∧ i64r f ∧ l = vb g.toNat ++ (vb f.toNat ++ (vb ss.length ++ (ss.map segB).flatten)) := by
  rcases h1 : rdN l 0 0 M63 with ⟨x1, p1, b1⟩
  have q1 := rdN_bd l hb 0 (by omega) 0 M63 (by decide)
  rw [h1] at q1
  rcases h2 : rdN l p1 b1 M63 with ⟨x2, p2, b2⟩
  have q2 := rdN_bd l hb p1 q1.2.2 b1 M63 (by decide)
  rw [h2] at q2
  rcases h3 : rdN l p2 b2 64 with ⟨x3, p3, b3⟩
  have q3 := rdN_bd l hb p2 q2.2.2 b2 64 (by decide)
  rw [h3] at q3
  unfold bodyI at h
  simp only [h1, h2, h3] at h
  have hq := rdSegs_bd l hb p3 q3.2.2 b3 x3.toNat
  have hlen := rdSegs_len l p3 b3 x3.toNat
  have hback := rdSegs_back hb q3.2.2 (b := b3) x3.toNat
  rcases hr : rdSegs l p3 b3 x3.toNat with ⟨s2, p4, b4⟩
  rw [hr] at h hq hlen hback
  simp only at h hq hlen hback
  split at h
  · simp at h
  · split at h
    · simp at h
    · rename_i hn2 hn
      simp only [Prod.mk.injEq, Option.some.injEq] at h
      obtain ⟨he, rfl, rfl, rfl⟩ := h
      have hb4 : b4 = 0 := Classical.byContradiction fun h => hn (.inl h)
      have hp4 : ¬ p4 < l.length := fun h => hn (.inr (.inl h))
      have hm : mayB x1 x2 s2 = true := by
        cases hm : mayB x1 x2 s2
        · exact absurd (.inr (.inr hm)) hn
        · rfl
      subst hb4
      obtain ⟨rfl, t4⟩ := hback rfl
      obtain ⟨rfl, t3, _⟩ := rdN_back hb q2.2.2 h3
      obtain ⟨rfl, t2, _⟩ := rdN_back hb q1.2.2 h2
      obtain ⟨-, t1, _⟩ := rdN_back hb (by omega) h1
      simp only [M63] at q1 q2
      refine ⟨he.symm, hm, hq.1, ⟨by show (-9223372036854775808 : Int) ≤ x1; omega, by show x1 ≤ (9223372036854775807 : Int); omega⟩, ⟨by show (-9223372036854775808 : Int) ≤ x2; omega, by show x2 ≤ (9223372036854775807 : Int); omega⟩, ?_⟩
      have : l = l.take p4 := (List.take_of_length_le (by omega)).symm
      rw [this, t4, t3, t2, t1, hlen]
      simp
/-- what is read, written, is what was read -/
theorem catI_read {l : List Int} (hb : BY l) {g f e : Int} {ss : List Sg} (h : readI l = (e, g, f, some ss)) : e = 0 ∧ mayB g f ss = true ∧ (∀ j, SW (sg ss j)) ∧ i64r g ∧ i64r f ∧ catI g f ss = (l, 0) := by
  unfold readI at h
  split at h
  · simp at h
  · split at h
    · simp at h
    · split at h
      · simp at h
      · rename_i h8 hm hc
        have hm' : l.take 4 = [70, 67, 65, 84] := Classical.byContradiction hm
        have hc' : (rdL (l.drop (l.length - 4)) 0 0 4).1 = iu (more 0#32 (l.take (l.length - 4))) := Classical.byContradiction hc
        obtain ⟨he, hmay, hsw, hg, hf, hl⟩ := bodyI_back (fun x hx => hb x (List.mem_of_mem_drop (List.mem_of_mem_take hx))) h
        refine ⟨he, hmay, hsw, hg, hf, ?_⟩
        have hB : bodyB g f ss = l.take (l.length - 4) := by
          rw [bodyB_eq, ← hl, ← hm', show l.length - 4 = 4 + (l.length - 8) by omega, take_app]
        have hF : fb (iu (more 0#32 (l.take (l.length - 4)))) 4 = l.drop (l.length - 4) := by
          rw [← hc']
          have hd : (l.drop (l.length - 4)).length = 4 := by rw [List.length_drop]; omega
          unfold rdL
          rw [if_neg (fun h => h rfl), if_neg (by rw [hd]; omega)]
          show fb (lo ((l.drop (l.length - 4)).drop 0) 4) 4 = _
          rw [List.drop_zero, fb_lo 4 _ (by_drop hb _) (by omega), List.take_of_length_le (by omega)]
        unfold catI
        rw [if_pos hmay, hB, hF, List.take_append_drop]
end Go.Proofs.Ythggicgbcgeggaa
