/- From a row's readings of the arguments to what the walks ask. -/
import Derived.Test.YthggicgbcgeggaaVB
import Derived.WalkKit
import Derived.ProofKit
import Derived.OpenShut
import Derived.ShutString
import Derived.ChangeOld
import Derived.Below
import Derived.SizedLaws
import Derived.ChangeSlices
import Derived.Deep.Matrix
set_option linter.unusedVariables false
set_option linter.unusedSimpArgs false
namespace Go.Proofs.Ythggicgbcgeggaa
open Go.ChangeShapes Go.WideShapes Go.ChangeAt Go.RowKit

/-- a slice of whole numbers that came in: its numbers, how many, and how long it may be -/
theorem open_nums {H : Type} {enc : TypeId × Value → H} {P : Program} {W : World} {base : Nat} {spare : Nat → Bool} {held : Bool} {t e : TypeId} {k : IntKind} {a : Option Addr} {len cap : Nat} {d : DataW H} {ps : List MemPlace} {ts : List TypeId} {ds : List (DataW H)} {j : Nat}
    (hsz : (DataW.weightsEach P ts ds).all (· ≤ reachBytes) = true) (ht : ts[j]? = some t) (hd : ds[j]? = some d) (hu : P.underlying t = some (.slice e)) (he : P.underlying e = some (.int k)) (hc : P.cellsOf e = 1) {B : Nat} (hB : P.bytesOf e = B)
    (h : DataW.Trod enc P W base spare held t (.slice a len cap) d ps) :
    ∃ l : List Int, l.length = len ∧ len * B ≤ 140737488351232 ∧ len ≤ cap ∧ (∀ j, j < len → ∃ ad, a = some ad ∧ W.cell? (ad.add j) = some (.int k (nth l j))) ∧ ∀ x ∈ l, (Lit.int k x).wf = true := by
  obtain ⟨fuel, hf⟩ := h
  rcases open_ints hu he hc hf with ⟨hcs, _⟩ | ⟨x, l, c, zs, hcs, _, hl, _, hz, hx, hcell, hwz⟩
  · simp [Value.cells] at hcs
    obtain ⟨rfl, rfl, rfl⟩ := hcs
    exact ⟨[], rfl, by omega, Nat.le_refl _, fun j hj => by omega, fun x hx => by simp at hx⟩
  · simp [Value.cells] at hcs
    obtain ⟨rfl, rfl, rfl⟩ := hcs
    obtain ⟨hx, _⟩ := Prod.mk.inj hx
    subst hx
    have z := sized_slice hsz ht hd hu
    rw [hB] at z
    have hl2 : len ≤ zs.length := by
      rw [hz]
      split
      · exact hl
      · exact Nat.le_refl _
    have h1 : (lits (H := H) k (zs.take len)).length + (lits (H := H) k (zs.drop len)).length = zs.length := by
      simp [lits]
      omega
    rw [h1] at z
    refine ⟨zs.take len, by rw [List.length_take]; omega, Nat.le_trans (Nat.mul_le_mul_right _ hl2) z, hl, fun j hj => ⟨_, rfl, ?_⟩, fun y hy => hwz y (List.mem_of_mem_take hy)⟩
    rw [hcell j (by omega)]
    unfold nth
    rw [List.getD_eq_getElem?_getD, List.getD_eq_getElem?_getD, List.getElem?_take_of_lt hj]
theorem wf_byte {x : Int} (h : (Lit.int .u8 x).wf = true) : 0 ≤ x ∧ x ≤ 255 := by
  simp [Lit.wf, IntKind.min, IntKind.max, IntKind.signed, IntKind.bits] at h; omega
theorem wf_u32 {x : Int} (h : (Lit.int .u32 x).wf = true) : 0 ≤ x ∧ x < 4294967296 := by
  simp [Lit.wf, IntKind.min, IntKind.max, IntKind.signed, IntKind.bits] at h; omega
theorem wf_i64' {x : Int} (h : (Lit.int .i64 x).wf = true) : -9223372036854775808 ≤ x ∧ x ≤ 9223372036854775807 := by
  simp [Lit.wf, IntKind.min, IntKind.max, IntKind.signed, IntKind.bits] at h; omega
theorem RB_of {W : World} {a : Option Addr} {len : Nat} {l : List Int} (hl : l.length = len) (hn : len * 1 ≤ 140737488351232)
    (hc : ∀ j, j < len → ∃ ad, a = some ad ∧ W.cell? (ad.add j) = some (.int .u8 (nth l j))) (hw : ∀ x ∈ l, (Lit.int .u8 x).wf = true) : RB W a len l :=
  ⟨hl, by omega, hc, BY.nth fun x hx => wf_byte (hw x hx)⟩
theorem RI_of {k : IntKind} {W : World} {a : Option Addr} {len B : Nat} {l : List Int} (hl : l.length = len) (hB : 0 < B) (hn : len * B ≤ 140737488351232)
    (hc : ∀ j, j < len → ∃ ad, a = some ad ∧ W.cell? (ad.add j) = some (.int k (nth l j))) (hw : ∀ x ∈ l, (Lit.int k x).wf = true) : RI k W a len l :=
  ⟨hl, Nat.le_trans (Nat.le_mul_of_pos_right _ hB) hn, hc, hw⟩
theorem weights_all_mem {H : Type} {P : Program} {e : TypeId} : ∀ {l : List (DataW H)} {d : DataW H}, d ∈ l → ∀ n ∈ d.weights P e, n ∈ DataW.weightsAll P e l
  | x :: l, d, hd, n, hn => by
    simp only [DataW.weightsAll, List.mem_append]
    rcases List.mem_cons.1 hd with rfl | hd
    · exact .inl hn
    · exact .inr (weights_all_mem hd n hn)
open Go.Deep in
/-- a slice of slices of bytes that came in -/
theorem open_rows {H : Type} {enc : TypeId × Value → H} {P : Program} {W : World} {base : Nat} {held : Bool} {t e q : TypeId} {a : Option Addr} {len cap : Nat} {d : DataW H} {ps : List MemPlace} {ts : List TypeId} {ds : List (DataW H)} {j : Nat}
    (hsz : (DataW.weightsEach P ts ds).all (· ≤ reachBytes) = true) (ht : ts[j]? = some t) (hd : ds[j]? = some d) (hu : P.underlying t = some (.slice e)) (he : P.underlying e = some (.slice q)) (hq : P.underlying q = some (.int .u8)) (ce : P.cellsOf e = 1) (cq : P.cellsOf q = 1) (hBe : 0 < P.bytesOf e) (hBq : P.bytesOf q = 1)
    (h : DataW.Trod enc P W base (fun _ => true) held t (.slice a len cap) d ps) : ∃ ls, RBB W a len ls := by
  obtain ⟨fuel, hf⟩ := h
  rcases open_int_rows hu he hq ce cq hf with ⟨hcs, _⟩ | ⟨x, l, c, A, L, C, Z, hcs, _, hl, _, hx, hall⟩
  · simp [Value.cells] at hcs
    obtain ⟨rfl, rfl, rfl⟩ := hcs
    exact ⟨[], rfl, by omega, fun j hj => by omega⟩
  · simp [Value.cells] at hcs
    obtain ⟨rfl, rfl, rfl⟩ := hcs
    obtain ⟨hx, _⟩ := Prod.mk.inj hx
    subst hx
    have z := sized_slice hsz ht hd hu
    have z2 : len * P.bytesOf e ≤ reachBytes := Nat.le_trans (Nat.mul_le_mul_right _ (by simp)) z
    have z3 : len ≤ reachBytes := Nat.le_trans (Nat.le_mul_of_pos_right _ hBe) z2
    have hls : ∀ r, r < len → ((List.range len).map fun r => (Z r).take (L r)).getD r [] = (Z r).take (L r) := by
      intro r hr
      simp [List.getD_eq_getElem?_getD, hr]
    refine ⟨(List.range len).map fun r => (Z r).take (L r), by simp, z3, fun r hr => ?_⟩
    rw [hls r hr]
    obtain ⟨h1, h2, h3, h4, h5, h6, h7⟩ := hall r (by omega)
    have hlen : ((Z r).take (L r)).length = L r := by rw [List.length_take]; omega
    rw [hlen]
    have hsmall : L r ≤ reachBytes := by
      rcases hA : A r with _ | a'
      · have := h6 hA; omega
      · have hm : (C r) * 1 ∈ (intRow (H := H) .u8 (A r) (L r) (Z r)).weights P e := by
          rw [hA]
          have hZ : ((Z r).take (L r)).length + ((Z r).drop (L r)).length = C r := by
            rw [← List.length_append, List.take_append_drop, h4]
          simp only [intRow, DataW.weights, he, hBq, List.mem_cons, lits, List.length_map]
          left
          rw [hZ]
        have hm2 := DataW.weights_mem_each (P := P) ht hd ((C r) * 1) (by
          simp only [DataW.weights, hu, List.mem_cons, List.mem_append]
          right; left
          exact weights_all_mem (List.mem_map.2 ⟨r, List.mem_range.2 hr, rfl⟩) _ hm)
        have := List.all_eq_true.1 hsz _ hm2
        simp only [decide_eq_true_eq] at this
        omega
    refine ⟨x, A r, C r, rfl, h1, ⟨hlen, by unfold reachBytes at hsmall; omega, fun i hi => ?_, BY.nth fun y hy => wf_byte (h5 y (List.mem_of_mem_take hy))⟩, by unfold reachBytes at hsmall; omega, h2⟩
    rcases hA : A r with _ | a'
    · have := h6 hA; omega
    · refine ⟨a', rfl, ?_⟩
      obtain ⟨_, h8⟩ := h7 a' hA
      rw [h8 i (by omega)]
      unfold nth
      rw [List.getD_eq_getElem?_getD, List.getD_eq_getElem?_getD, List.getElem?_take_of_lt hi]
end Go.Proofs.Ythggicgbcgeggaa
