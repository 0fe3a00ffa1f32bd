/- Plain law: a catalog's bytes, read, are the catalog. -/
import Derived.Test.YthggicgbcgeggaaVB5
set_option linter.unusedVariables false
set_option linter.unusedSimpArgs false
namespace Go.Proofs.Ythggicgbcgeggaa
open Go.RowKit
open K
theorem rdN_at {L pre rest : List Int} {p : Nat} (x most : Int) (hL : L = pre ++ (vb x.toNat ++ rest)) (hp : p = pre.length) (h0 : 0 ≤ x) (h1 : x ≤ most) (h2 : x < 18446744073709551616) : rdN L p 0 most = (x, p + (vb x.toNat).length, 0) := by
  subst hL; subst hp
  rw [rdN_vb pre rest x.toNat most (by omega) (by omega)]
  rw [Int.toNat_of_nonneg h0]
theorem rdL_at {L pre rest : List Int} {p : Nat} (x : Int) (hL : L = pre ++ (fb x 4 ++ rest)) (hp : p = pre.length) (h0 : 0 ≤ x) (h1 : x < 4294967296) : rdL L p 0 4 = (x, p + 4, 0) := by
  subst hL; subst hp
  exact rdL_fb pre rest x 4 h0 (by omega)
/-- what a catalog's segments are within -/
structure NN (s : Sg) : Prop where
  n0 : 0 ≤ s.num
  b0 : 0 ≤ s.base
  e0 : 0 ≤ s.end_
  z0 : 0 ≤ s.size
theorem seg_read (pre rest : List Int) (s : Sg) (h : NN s) (hw : SW s) : rdSeg (pre ++ (segB s ++ rest)) pre.length 0 = (s, (pre ++ segB s).length, 0) := by
  obtain ⟨x, y, z, d, f⟩ := s
  obtain ⟨n0, b0, e0, z0⟩ := h
  obtain ⟨⟨-, h1⟩, ⟨-, h2⟩, ⟨h3, h3'⟩, ⟨-, h4⟩, ⟨-, h5⟩⟩ := hw
  simp only at n0 b0 e0 z0 h1 h2 h3 h3' h4 h5
  have a1 := rdN_at (L := pre ++ (segB ⟨x, y, z, d, f⟩ ++ rest)) (pre := pre) (rest := vb y.toNat ++ (fb z 4 ++ (vb d.toNat ++ (vb f.toNat ++ rest)))) (p := pre.length) x M63 (by simp [segB]) rfl n0 h1 (by omega)
  have a2 := rdN_at (L := pre ++ (segB ⟨x, y, z, d, f⟩ ++ rest)) (pre := pre ++ vb x.toNat) (rest := fb z 4 ++ (vb d.toNat ++ (vb f.toNat ++ rest))) (p := pre.length + (vb x.toNat).length) y M63 (by simp [segB]) (by simp) b0 h2 (by omega)
  have a3 := rdL_at (L := pre ++ (segB ⟨x, y, z, d, f⟩ ++ rest)) (pre := pre ++ vb x.toNat ++ vb y.toNat) (rest := vb d.toNat ++ (vb f.toNat ++ rest)) (p := pre.length + (vb x.toNat).length + (vb y.toNat).length) z (by simp [segB]) (by simp; omega) h3 h3'
  have a4 := rdN_at (L := pre ++ (segB ⟨x, y, z, d, f⟩ ++ rest)) (pre := pre ++ vb x.toNat ++ vb y.toNat ++ fb z 4) (rest := vb f.toNat ++ rest) (p := pre.length + (vb x.toNat).length + (vb y.toNat).length + 4) d M63 (by simp [segB]) (by simp [fb_len]; omega) e0 h4 (by omega)
  have a5 := rdN_at (L := pre ++ (segB ⟨x, y, z, d, f⟩ ++ rest)) (pre := pre ++ vb x.toNat ++ vb y.toNat ++ fb z 4 ++ vb d.toNat) (rest := rest) (p := pre.length + (vb x.toNat).length + (vb y.toNat).length + 4 + (vb d.toNat).length) f M63 (by simp [segB]) (by simp [fb_len]; omega) z0 h5 (by omega)
  rw [rdSeg_of a1 a2 a3 a4 a5]
  simp [segB, fb_len]
  omega
theorem segs_read (pre : List Int) (ss : List Sg) (hn : ∀ j, j < ss.length → NN (sg ss j)) (hw : ∀ j, SW (sg ss j)) : ∀ k, k ≤ ss.length → ∀ rest, rdSegs (pre ++ (((ss.take k).map segB).flatten ++ rest)) pre.length 0 k = (ss.take k, (pre ++ ((ss.take k).map segB).flatten).length, 0)
  | 0, _, rest => by simp [rdSegs]
  | k + 1, hk, rest => by
    have e : ss.take (k + 1) = ss.take k ++ [sg ss k] := by
      rw [List.take_succ_eq_append_getElem (by omega : k < ss.length), sg_at ss k (by omega)]
    have ih := segs_read pre ss hn hw k (by omega) (segB (sg ss k) ++ rest)
    have e2 : ((ss.take (k + 1)).map segB).flatten = ((ss.take k).map segB).flatten ++ segB (sg ss k) := by
      rw [e, List.map_append, List.flatten_append]; simp
    have e3 : pre ++ (((ss.take (k + 1)).map segB).flatten ++ rest) = pre ++ (((ss.take k).map segB).flatten ++ (segB (sg ss k) ++ rest)) := by
      rw [e2, List.append_assoc]
    rw [e3]
    unfold rdSegs
    rw [ih]
    simp only
    have h := seg_read (pre ++ ((ss.take k).map segB).flatten) rest (sg ss k) (hn k (by omega)) (hw k)
    rw [List.append_assoc] at h
    rw [h, e]
    simp [List.append_assoc]
theorem nn_of {gen first : Int} {ss : List Sg} (h : mayB gen first ss = true) (j : Nat) (hj : j < ss.length) : NN (sg ss j) := by
  have := sg_pos h j hj
  exact ⟨by omega, by omega, this.2.2.1, this.2.2.2⟩
theorem body_read {gen first : Int} {ss : List Sg} (h : mayB gen first ss = true) (hw : ∀ j, SW (sg ss j)) (hg : i64r gen) (hf : i64r first) :
    bodyI (vb gen.toNat ++ (vb first.toNat ++ (vb ss.length ++ (ss.map segB).flatten))) = (0, gen, first, some ss) := by
  have hm := may_out h
  have g2 : gen ≤ 9223372036854775807 := hg.2
  have f2 : first ≤ 9223372036854775807 := hf.2
  have a1 := rdN_at (L := vb gen.toNat ++ (vb first.toNat ++ (vb ss.length ++ (ss.map segB).flatten))) (pre := []) (rest := vb first.toNat ++ (vb ss.length ++ (ss.map segB).flatten)) (p := 0) gen M63 rfl rfl (by omega) g2 (by omega)
  have a2 := rdN_at (L := vb gen.toNat ++ (vb first.toNat ++ (vb ss.length ++ (ss.map segB).flatten))) (pre := vb gen.toNat) (rest := vb ss.length ++ (ss.map segB).flatten) (p := 0 + (vb gen.toNat).length) first M63 rfl (by simp) (by omega) f2 (by omega)
  have a3 := rdN_at (L := vb gen.toNat ++ (vb first.toNat ++ (vb ss.length ++ (ss.map segB).flatten))) (pre := vb gen.toNat ++ vb first.toNat) (rest := (ss.map segB).flatten) (p := 0 + (vb gen.toNat).length + (vb first.toNat).length) (ss.length : Int) 64 (by simp) (by simp) (by omega) (by omega) (by omega)
  have a4 := segs_read (vb gen.toNat ++ vb first.toNat ++ vb ss.length) ss (fun j hj => nn_of h j hj) hw ss.length (Nat.le_refl _) []
  rw [List.take_length, List.append_nil] at a4
  have e1 : (vb gen.toNat ++ vb first.toNat ++ vb ss.length).length = 0 + (vb gen.toNat).length + (vb first.toNat).length + (vb ((ss.length : Int)).toNat).length := by simp; omega
  rw [e1] at a4
  have e2 : vb gen.toNat ++ vb first.toNat ++ vb ss.length ++ (ss.map segB).flatten = vb gen.toNat ++ (vb first.toNat ++ (vb ss.length ++ (ss.map segB).flatten)) := by simp
  rw [e2] at a4
  unfold bodyI
  simp only [a1, a2, a3]
  rw [show ((ss.length : Int)).toNat = ss.length from Int.toNat_natCast _] at a4 ⊢
  simp only [a4]
  rw [if_neg (by omega), if_neg (by intro h2; rcases h2 with h2 | h2 | h2; exact h2 rfl; omega; (rw [h] at h2; cases h2))]
theorem fcat_take (l : List Int) : ([70, 67, 65, 84] ++ l).take 4 = [70, 67, 65, 84] := by simp
theorem bodyB_eq (gen first : Int) (ss : List Sg) : bodyB gen first ss = [70, 67, 65, 84] ++ (vb gen.toNat ++ (vb first.toNat ++ (vb ss.length ++ (ss.map segB).flatten))) := by
  unfold bodyB headB; simp
/-- what is written, read, is the catalog -/
theorem read_catI {gen first : Int} {ss : List Sg} (h : mayB gen first ss = true) (hw : ∀ j, SW (sg ss j)) (hg : i64r gen) (hf : i64r first) : readI (catI gen first ss).1 = (0, gen, first, some ss) := by
  unfold catI
  rw [if_pos h]
  simp only
  have hb := bodyB_eq gen first ss
  have hr := body_read h hw hg hf
  have h1 := (vb_len gen.toNat).1
  generalize hR : vb gen.toNat ++ (vb first.toNat ++ (vb ss.length ++ (ss.map segB).flatten)) = R at hb hr
  generalize hB : bodyB gen first ss = B at hb
  have hl : (B ++ fb (iu (more 0#32 B)) 4).length = B.length + 4 := by rw [List.length_append, fb_len]
  have hbl : B.length = 4 + R.length := by rw [hb]; simp; omega
  have hR4 : 4 ≤ R.length := by
    have h2 := (vb_len first.toNat).1
    have h3 := (vb_len ss.length).1
    have h4 := may_out h
    have h5 : 1 ≤ ((ss.map segB).flatten).length := by
      obtain ⟨s, rest, rfl⟩ : ∃ s r, ss = s :: r := by
        cases ss with
        | nil => have := h4.2.2.1; simp at this
        | cons s r => exact ⟨s, r, rfl⟩
      have h6 := (vb_len s.num.toNat).1
      simp [segB]; omega
    rw [← hR]; simp only [List.length_append]; omega
  unfold readI
  rw [hl, if_neg (by omega), if_neg (by rw [hb, List.append_assoc]; simp), show B.length + 4 - 4 = B.length by omega, show B.length + 4 - 8 = R.length by omega, List.drop_left, List.take_left]
  have a := rdL_at (L := fb (iu (more 0#32 B)) 4) (pre := []) (rest := []) (p := 0) (iu (more 0#32 B)) (by simp) rfl (iu_lo _) (iu_hi _)
  rw [a, if_neg (fun h => h rfl)]
  rw [show List.take R.length (List.drop 4 (B ++ fb (iu (more 0#32 B)) 4)) = R by rw [hb]; simp [List.append_assoc]]
  exact hr
end Go.Proofs.Ythggicgbcgeggaa
