/- From a row's readings to cells: slices of structs of whole numbers. -/
import Derived.Test.YthggicgbcgeggaaVR
import Derived.Deep.Slices
import Derived.Deep.Fields
import Derived.ChangeSame
set_option linter.unusedVariables false
set_option linter.unusedSimpArgs false
namespace Go.Proofs.Ythggicgbcgeggaa
open Go.ChangeShapes Go.WideShapes Go.ChangeAt Go.RowKit Go.Deep
/-- the number in a cell -/
def cellInt (o : Option Value) : Int := match o with
  | some (.int _ n) => n
  | _ => 0
/-- the address of field j behind an element's -/
def fad (a : Addr) (j : Nat) : Addr := if j = 0 then a else ⟨a.block, a.off + j, none⟩
theorem fad_add (a : Addr) (i j : Nat) : a.add (i + j) = fad (a.add i) j := by
  unfold fad Addr.add
  by_cases h1 : i = 0 <;> by_cases h2 : j = 0 <;> simp [h1, h2]
  omega
theorem open_structs {H : Type} {enc : TypeId × Value → H} {P : Program} {W : World} {base : Nat} {held : Bool} {t e : TypeId} {fs : Array Field} {a : Option Addr} {len cap : Nat} {d : DataW H} {ps : List MemPlace} {ts : List TypeId} {ds : List (DataW H)} {q : Nat} (ks : List IntKind)
    (hsz : (DataW.weightsEach P ts ds).all (· ≤ reachBytes) = true) (ht : ts[q]? = some t) (hd : ds[q]? = some d) (hu : P.underlying t = some (.slice e)) (he : P.underlying e = some (.struct fs)) (hone : oneCellFields P fs = true) (hC : P.cellsOf e = fs.size) (hB : 0 < P.bytesOf e)
    (hk : ∀ (j : Nat) (k : IntKind), ks[j]? = some k → ∃ f : Field, fs[j]? = some f ∧ P.underlying f.type = some (.int k))
    (h : DataW.Trod enc P W base (fun _ => true) held t (.slice a len cap) d ps) :
    len ≤ 140737488351232 ∧ len * P.bytesOf e ≤ 140737488351232 ∧ len ≤ cap ∧ ∀ i, i < len → ∃ ad, a = some ad ∧ ∀ (j : Nat) (k : IntKind), ks[j]? = some k → W.cell? (fad (ad.add (i * fs.size)) j) = some (.int k (cellInt (W.cell? (fad (ad.add (i * fs.size)) j)))) ∧ (Lit.int k (cellInt (W.cell? (fad (ad.add (i * fs.size)) j)))).wf = true := by
  obtain ⟨fuel, hf⟩ := h
  rcases open_slice hu hf with ⟨hcs, _⟩ | ⟨x, l, c, m, n, D, Pl, hcs, _, hl, _, hm, hx, hi⟩
  · simp [Value.cells] at hcs
    obtain ⟨rfl, rfl, rfl⟩ := hcs
    exact ⟨by omega, by omega, by omega, fun i hi => by omega⟩
  · simp [Value.cells] at hcs
    obtain ⟨rfl, rfl, rfl⟩ := hcs
    obtain ⟨hx, _⟩ := Prod.mk.inj hx
    subst hx
    have z := sized_slice hsz ht hd hu
    have z2 : len * P.bytesOf e ≤ reachBytes := Nat.le_trans (Nat.mul_le_mul_right _ (by simp)) z
    have z3 : len ≤ reachBytes := Nat.le_trans (Nat.le_mul_of_pos_right _ hB) z2
    unfold reachBytes at z2 z3
    refine ⟨z3, z2, hl, fun i hil => ⟨x, rfl, fun j k hjk => ?_⟩⟩
    simp only [if_true] at hm
    obtain ⟨cs', hc, ht'⟩ := hi i (by omega)
    rw [hC] at hc
    obtain ⟨f, hfj, hfk⟩ := hk j k hjk
    obtain ⟨ys, n', _, _, hcl', _, hff⟩ := DataW.trod_struct he ht'
    obtain ⟨_, hcl, hat⟩ := World.cells?_some hc
    obtain ⟨ho, ho1⟩ := hone_of hone j f hfj
    have hjl : j < fs.size := (Array.getElem?_eq_some_iff.1 hfj).1
    have h1 := hff j f hfj
    rw [ho, ho1] at h1
    have hcell := hat j hjl
    have hlt : j < cs'.length := by omega
    have hone' : (cs'.drop j).take 1 = [cs'[j]] := by
      rw [List.drop_eq_getElem_cons hlt]
      rfl
    rw [hone'] at h1
    have hys : ∃ y, ys[j]? = some y := by
      rcases hy : ys[j]? with _ | y
      · have := List.getElem?_eq_none_iff.1 hy; omega
      · exact ⟨y, rfl⟩
    obtain ⟨y, hy⟩ := hys
    rw [hy] at h1
    obtain ⟨v, hv, _, hwf⟩ := DataW.trod_int hfk h1
    have hv' : cs'[j] = .int k v := by injection hv
    rw [List.getElem?_eq_getElem hlt, hv', Go.Deep.add_add, fad_add] at hcell
    rw [hcell]
    exact ⟨rfl, hwf⟩
end Go.Proofs.Ythggicgbcgeggaa
