/- Words on memory: arrays of uint32 as functions; what a store does to a block. -/
import Derived.WalkKit
import Derived.WalkSpells
import Derived.Lib.Hide
import Derived.WalkLawsBesides
import Derived.Deep.Draws
set_option linter.unusedVariables false
set_option linter.unusedSimpArgs false
namespace Go.Proofs.Ythggicgbcgeggaa
open Go.RowKit

/-- an array of n numbers of 32 bits -/
def arrU (n : Nat) (f : Nat → Int) : Array Value := ((List.range n).map fun i => Value.int .u32 (f i)).toArray
theorem arrU_size (n : Nat) (f : Nat → Int) : (arrU n f).size = n := by simp [arrU]
theorem arrU_get (n : Nat) (f : Nat → Int) (i : Nat) (h : i < n) : (arrU n f)[i]? = some (.int .u32 (f i)) := by
  simp [arrU, h]
theorem arrU_set (n : Nat) (f : Nat → Int) (i : Nat) (v : Int) : (arrU n f).setIfInBounds i (.int .u32 v) = arrU n (fun j => if j = i then v else f j) := by
  apply Array.ext_getElem?
  intro j
  rw [Array.getElem?_setIfInBounds]
  rcases Nat.lt_or_ge j n with h | h
  · rw [arrU_get n f j h, arrU_get n (fun j => if j = i then v else f j) j h, arrU_size]
    by_cases he : i = j
    · subst he; simp [h]
    · have : ¬ j = i := fun e => he e.symm
      simp [he, this]
  · have h1 : (arrU n f)[j]? = none := Array.getElem?_eq_none (by rw [arrU_size]; exact h)
    have h2 : (arrU n (fun j => if j = i then v else f j))[j]? = none := Array.getElem?_eq_none (by rw [arrU_size]; exact h)
    rw [h1, h2, arrU_size]
    by_cases he : i = j
    · subst he; simp; omega
    · simp [he]
theorem arrU_congr (n : Nat) (f g : Nat → Int) (h : ∀ i, i < n → f i = g i) : arrU n f = arrU n g := by
  apply Array.ext_getElem?
  intro j
  rcases Nat.lt_or_ge j n with hj | hj
  · rw [arrU_get n f j hj, arrU_get n g j hj, h j hj]
  · rw [Array.getElem?_eq_none (by rw [arrU_size]; exact hj), Array.getElem?_eq_none (by rw [arrU_size]; exact hj)]
theorem arrU_one (n : Nat) (f : Nat → Int) : (arrU n f).all (·.oneCell') = true := by
  rw [Array.all_eq_true_iff_forall_mem]
  intro x hx
  simp [arrU] at hx
  obtain ⟨i, _, rfl⟩ := hx
  rfl

/-- what a block holds, behind a store into it, elsewhere, behind a new block -/
theorem blk_set {w : World} {g : Nat} {cs : Array Value} {t : TypeId} (h : w.heap[g]? = some (.cells cs t (0, 0))) (i : Nat) (v : Value) :
    (w.setCell ⟨g, i, none⟩ v).heap[g]? = some (.cells (cs.setIfInBounds i v) t (0, 0)) := heap_setCell_same w g i cs t v h
theorem blk_set_ne {w : World} {g k : Nat} {o : Option Obj} (h : w.heap[k]? = o) (i : Nat) (v : Value) (hk : k ≠ g) :
    (w.setCell ⟨g, i, none⟩ v).heap[k]? = o := by rw [heap_setCell_other w _ k v hk]; exact h
theorem blk_old {w : World} {k : Nat} {o : Obj} (h : w.heap[k]? = some o) (x : Obj) : (w.alloc x).heap[k]? = some o := by
  rw [Below.heap_alloc w x k (lt_of_block h)]; exact h
theorem blk_below {B : Nat} {w w' : World} (hb : Below B w w') {k : Nat} (hk : k < B) {o : Option Obj} (h : w.heap[k]? = o) : w'.heap[k]? = o := by
  rw [hb.block k hk]; exact h
theorem blk_cell {w : World} {g : Nat} {cs : Array Value} {t : TypeId} {fr : Nat × Nat} (h : w.heap[g]? = some (.cells cs t fr)) (j : Nat) {v : Option Value} (hv : cs[j]? = v) : w.cell? ⟨g, j, none⟩ = v := by
  rw [cell_of_row w g j cs t fr h]; exact hv
theorem blk_free {w : World} {g : Nat} {cs : Array Value} {t : TypeId} (h : w.heap[g]? = some (.cells cs t (0, 0))) (j : Nat) : w.frozen? ⟨g, j, none⟩ = false := frozen_of_row w g j cs t h

def upd (f : Nat → Int) (i : Nat) (v : Int) : Nat → Int := fun j => if j = i then v else f j
theorem upd_same (f : Nat → Int) (i : Nat) (v : Int) : upd f i v i = v := by simp [upd]
theorem upd_ne (f : Nat → Int) (i j : Nat) (v : Int) (h : j ≠ i) : upd f i v j = f j := by simp [upd, h]
theorem upd_upto {f g : Nat → Int} {k : Nat} (h : ∀ j, j < k → f j = g j) {v : Int} (hv : v = g k) : ∀ j, j < k + 1 → upd f k v j = g j := by
  intro j hj
  by_cases hjk : j = k
  · subst hjk; rw [upd_same, hv]
  · rw [upd_ne _ _ _ _ hjk]; exact h j (by omega)
theorem blk_setU {w : World} {g n : Nat} {f : Nat → Int} {t : TypeId} (h : w.heap[g]? = some (.cells (arrU n f) t (0, 0))) (i : Nat) (v : Int) :
    (w.setCell ⟨g, i, none⟩ (.int .u32 v)).heap[g]? = some (.cells (arrU n (upd f i v)) t (0, 0)) := by
  rw [blk_set h, arrU_set]; rfl

theorem ret_int {k : IntKind} {a b : Int} (h : a = b) : Ending.returned (.int k a) = .returned (.int k b) := by rw [h]
theorem int_val {k : IntKind} {a b : Int} (h : a = b) : Value.int k a = .int k b := by rw [h]
/-- the element at k, 0 beyond the end -/
def nth (l : List Int) (k : Nat) : Int := l.getD k 0
theorem nth_at (l : List Int) (k : Nat) (h : k < l.length) : nth l k = l[k] := by
  unfold nth; rw [List.getD_eq_getElem?_getD, List.getElem?_eq_getElem h]; rfl
/-- a slice of bytes that is read -/
structure RB (w : World) (A : Option Addr) (n : Nat) (l : List Int) : Prop where
  len : l.length = n
  top : n ≤ 140737488355328
  cell : ∀ j, j < n → ∃ ad, A = some ad ∧ w.cell? (ad.add j) = some (.int .u8 (nth l j))
  rng : ∀ j, 0 ≤ nth l j ∧ nth l j ≤ 255
theorem RB.below {w w' : World} {A : Option Addr} {n : Nat} {l : List Int} (h : RB w A n l) (hb : Below w.heap.size w w') : RB w' A n l :=
  ⟨h.len, h.top, fun j hj => by
    obtain ⟨ad, e, hc⟩ := h.cell j hj
    exact ⟨ad, e, (hb.cell (World.block_lt_of_cell? w _ hc)).trans hc⟩, h.rng⟩
theorem take_snocI (l : List Int) (k : Nat) (h : k < l.length) : l.take (k + 1) = l.take k ++ [nth l k] := by
  rw [List.take_succ_eq_append_getElem h, nth_at l k h]
end Go.Proofs.Ythggicgbcgeggaa
