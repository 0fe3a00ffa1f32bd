/- Walks: where a reader stands (At, Left, Err); plain laws: fields written are read. -/
import Derived.Test.YthggicgbcgeggaaV14
import Derived.Test.YthggicgbcgeggaaV12
set_option linter.unusedVariables false
set_option linter.unusedSimpArgs false
namespace Go.Proofs.Ythggicgbcgeggaa
open Go.RowKit
set_option maxHeartbeats 400000 in
theorem at_any (g : Nat) (A : Option Addr) (n c : Nat) (l : List Int) (p : Nat) (b : Int) (w : World) (h : RS w g A n c l p b) :
    Calls Try.prog 46 #[.pointer (some ⟨g, 0, none⟩)] w fun e w' => e = .returned (.int .i64 p) ∧ w = w' := by
  have c1 := h.rd.c1
  go_enter Try.func46, Try.ntmps46
  go_wp2_with fail
  go_ret
  exact ⟨rfl, rfl⟩
/-- what Err answers -/
def erI (p : Nat) (b : Int) : Int × Int := if b = 0 then (0, 0) else ((p : Int), b)
set_option maxHeartbeats 400000 in
theorem err_any (g : Nat) (A : Option Addr) (n c : Nat) (l : List Int) (p : Nat) (b : Int) (w : World) (h : RS w g A n c l p b) :
    Calls Try.prog 44 #[.pointer (some ⟨g, 0, none⟩)] w fun e w' => e = .returned (.tuple #[.int .i64 (erI p b).1, .int .i64 (erI p b).2]) ∧ ∃ k, w' = w.drewN k := by
  by_cases hb : b = 0
  · subst hb
    have c2 := h.rd.c2
    have he : erI p 0 = (0, 0) := by simp [erI]
    rw [he]
    go_enter Try.func44, Try.ntmps44
    go_wp2_with fail
    go_ret2
    exact ⟨rfl, 0, rfl⟩
  · have he : erI p b = ((p : Int), b) := by simp [erI, hb]
    rw [he]
    exact err_bad g _ p b w h.rd hb
theorem left_rs (g : Nat) (A : Option Addr) (n c : Nat) (l : List Int) (p : Nat) (b : Int) (w : World) (h : RS w g A n c l p b) :
    Calls Try.prog 47 #[.pointer (some ⟨g, 0, none⟩)] w fun e w' => e = .returned (.int .i64 ((n : Int) - p)) ∧ ∃ k, w' = w.drewN k :=
  left_any g A n c p b w h.rd h.hp h.rb.top
theorem RS.drewN {w : World} {g : Nat} {A : Option Addr} {n c : Nat} {l : List Int} {p : Nat} {b : Int} (h : RS w g A n c l p b) (k : Nat) : RS (w.drewN k) g A n c l p b := ⟨h.rd, h.rb.drewN k, h.hc, h.hp⟩
theorem RS.below {w w' : World} {g : Nat} {A : Option Addr} {n c : Nat} {l : List Int} {p : Nat} {b : Int} (h : RS w g A n c l p b) (hb : Below w.heap.size w w') : RS w' g A n c l p b := ⟨h.rd.below hb, h.rb.below hb, h.hc, h.hp⟩
theorem newReader_rs (A : Option Addr) (n c : Nat) (l : List Int) (w : World) (hl : RB w A n l) :
    Calls Try.prog 42 #[.slice A n c] w fun e w' => ∃ g A2 c2, e = .returned (.pointer (some ⟨g, 0, none⟩)) ∧ w.heap.size ≤ g ∧ RS w' g A2 n c2 l 0 0 ∧ Below w.heap.size w w' := by
  refine (newReader_any A n c l w hl).mono ?_
  rintro e w' ⟨g, A2, c2, rfl, hg, hr, hb, hc, hB⟩
  exact ⟨g, A2, c2, rfl, hg, ⟨hr, hb, hc, by omega⟩, hB⟩
theorem drop_pre (a b : List Int) : (a ++ b).drop a.length = b := by simp
theorem rdN_vb (pre rest : List Int) (n : Nat) (most : Int) (hn : n < 2 ^ 64) (hm : (n : Int) ≤ most) : rdN (pre ++ (vb n ++ rest)) pre.length 0 most = ((n : Int), pre.length + (vb n).length, 0) := by
  unfold rdN
  rw [drop_pre, rv_vb n hn]
  simp; omega
theorem rdL_fb (pre rest : List Int) (n : Int) (k : Nat) (h0 : 0 ≤ n) (h1 : n < 2 ^ (8 * k)) : rdL (pre ++ (fb n k ++ rest)) pre.length 0 k = (n, pre.length + k, 0) := by
  unfold rdL
  rw [drop_pre, lo_fb n k rest h0 h1]
  simp [fb_len]
theorem rdS_sb (pre rest s : List Int) (hs : s.length ≤ 140737488351232) : rdS (pre ++ (sb s ++ rest)) pre.length 0 s.length = (s, pre.length + (sb s).length, 0) := by
  unfold rdS
  rw [drop_pre, rs_sb s rest hs]
  simp
theorem joinF_split (us is : List Int) (ls : List (List Int)) (k : Nat) : ∀ m, k < m → ∃ rest, joinF us is ls m = joinF us is ls k ++ (fld (nth us k) (nth is k) (ls.getD k []) ++ rest)
  | 0, h => by omega
  | m + 1, h => by
    by_cases e : k = m
    · subst e; exact ⟨[], by simp [joinF]⟩
    · obtain ⟨rest, hr⟩ := joinF_split us is ls k m (by omega)
      exact ⟨rest ++ fld (nth us m) (nth is m) (ls.getD m []), by simp only [joinF]; rw [hr]; simp⟩
/-- one field is read back -/
theorem fld_read (pre rest s : List Int) (u i : Int) (u0 : 0 ≤ u) (u1 : u < 18446744073709551616) (i0 : -9223372036854775808 ≤ i) (i1 : i ≤ 9223372036854775807) (hs : s.length ≤ 140737488351232) :
    ∃ p1 p2 : Nat, rdN (pre ++ (fld u i s ++ rest)) pre.length 0 18446744073709551615 = (u, p1, 0) ∧ rdN (pre ++ (fld u i s ++ rest)) p1 0 18446744073709551615 = (zigI i, p2, 0) ∧
      rdL (pre ++ (fld u i s ++ rest)) p2 0 4 = (u % 4294967296, p2 + 4, 0) ∧ rdL (pre ++ (fld u i s ++ rest)) (p2 + 4) 0 8 = (u, p2 + 12, 0) ∧
      rdS (pre ++ (fld u i s ++ rest)) (p2 + 12) 0 s.length = (s, (pre ++ fld u i s).length, 0) := by
  obtain ⟨z0, z1⟩ := zigI_rng i i0 i1
  have a1 := rdN_vb pre (vb (zigI i).toNat ++ (fb (u % 4294967296) 4 ++ (fb u 8 ++ sb s)) ++ rest) u.toNat 18446744073709551615 (by omega) (by omega)
  have a2 := rdN_vb (pre ++ vb u.toNat) (fb (u % 4294967296) 4 ++ (fb u 8 ++ sb s) ++ rest) (zigI i).toNat 18446744073709551615 (by omega) (by omega)
  have a3 := rdL_fb (pre ++ vb u.toNat ++ vb (zigI i).toNat) (fb u 8 ++ sb s ++ rest) (u % 4294967296) 4 (by omega) (by omega)
  have a4 := rdL_fb (pre ++ vb u.toNat ++ vb (zigI i).toNat ++ fb (u % 4294967296) 4) (sb s ++ rest) u 8 (by omega) (by omega)
  have a5 := rdS_sb (pre ++ vb u.toNat ++ vb (zigI i).toNat ++ fb (u % 4294967296) 4 ++ fb u 8) rest s hs
  simp only [List.append_assoc] at a1 a2 a3 a4 a5
  simp only [List.length_append, fb_len] at a1 a2 a3 a4 a5
  refine ⟨pre.length + (vb u.toNat).length, pre.length + ((vb u.toNat).length + (vb (zigI i).toNat).length), ?_, ?_, ?_, ?_, ?_⟩
  · unfold fld; simp only [List.append_assoc]; rw [a1]; simp; omega
  · unfold fld; simp only [List.append_assoc]; rw [a2]; simp; omega
  · unfold fld; simp only [List.append_assoc]; rw [a3]
  · unfold fld; simp only [List.append_assoc]
    rw [show pre.length + ((vb u.toNat).length + (vb (zigI i).toNat).length) + 4 = pre.length + ((vb u.toNat).length + ((vb (zigI i).toNat).length + 4)) by omega, a4]
    simp; omega
  · unfold fld; simp only [List.append_assoc]
    rw [show pre.length + ((vb u.toNat).length + (vb (zigI i).toNat).length) + 12 = pre.length + ((vb u.toNat).length + ((vb (zigI i).toNat).length + (4 + 8))) by omega, a5]
    simp [fb_len]; omega
end Go.Proofs.Ythggicgbcgeggaa
