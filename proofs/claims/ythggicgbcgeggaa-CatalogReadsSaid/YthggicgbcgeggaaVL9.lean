/- Walk: catalog.Cut. -/
import Derived.Test.YthggicgbcgeggaaVL8
set_option linter.unusedVariables false
set_option linter.unusedSimpArgs false
namespace Go.Proofs.Ythggicgbcgeggaa
open Go.RowKit
theorem info2 : (Try.prog.info? 2).map (fun i => (i.zero, i.size, i.bytes)) = some (some (.int .i64 0), 1, 8) := by kernel_rfl
def i64s (l : List Int) : List Value := l.map (.int .i64 ·)
/-- whole numbers of the call's own -/
def OI (w : World) (base : Nat) (v : Value) (l : List Int) : Prop := w.ownsRow base 2 1 v l.length (i64s l)
theorem OI.nil (w : World) (base : Nat) : OI w base (.slice none 0 0) [] := ⟨rfl, .inl ⟨rfl, rfl⟩⟩
theorem OI.below {w w' : World} {base : Nat} {v : Value} {l : List Int} (h : OI w base v l) (hb : Below w.heap.size w w') : OI w' base v l := own_fr h fun k hk => hb.block k (own_blk_lt h k hk).2
theorem OI.alloc {w : World} {base : Nat} {v : Value} {l : List Int} (h : OI w base v l) (o : Obj) : OI (w.alloc o) base v l := World.ownsRow.alloc h o
section
variable {ops : Array Oper} {rest : List Oper} {o : Oper} {a : Act} {Q : Exit → Act → World → Prop}
theorem wpList_append_i1 {w0 w : World} (hgd : o.guard = none) (base : Nat) (s x : Operand)
    (ho : o.op = .call { callee := .builtin .append, args := #[s, x], argTypes := #[48, 48] })
    (v : Value) (l : List Int) (hs : a.eval s = v) (HO : OI w base v l) (g : Nat) (z : Int) (t : TypeId) (hx : a.eval x = .slice (some ⟨g, 0, none⟩) 1 1) (HR : w.heap[g]? = some (.cells #[.int .i64 z] t (0, 0)))
    (hB : Below w0.heap.size w0 w) (hb0 : w0.heap.size ≤ base) (hbase : base ≤ w.heap.size) (hbytes : l.length ≤ 3518437208882)
    (h : ∀ v' w', OI w' base v' (l ++ [z]) → Below w0.heap.size w0 w' → w.grownBy w' v.ownBlock → (v'.ownBlock = v.ownBlock ∨ v'.ownBlock = some w.heap.size) → wpList Try.prog ops Q rest (a.put o.dst v') w') :
    wpList Try.prog ops Q (o :: rest) a w := by
  refine wpList_append_rv hgd base s x 48 2 _ 1 8 ho Try.underlying48 info2 rfl (by omega) (by omega) v l.length (i64s l) hs HO (some ⟨g, 0, none⟩) 1 1 [.int .i64 z] hx (RV_one HR rfl) (by omega) hbase fun v' w' h1 h2 h3 => h v' w' ?_ (hB.grown h2 (Nat.le_trans hb0 hbase) fun k hk => Nat.le_trans hb0 (own_blk_lt HO k hk).1) h2 h3
  unfold OI i64s
  rw [List.length_append, List.map_append]
  exact h1
end
/-- how many of the first segments end at most at lsn -/
def cutF (ss : List Sg) (lsn : Int) : Nat → Nat → Nat
  | 0, k => k
  | d + 1, k => if (sg ss k).end_ ≤ lsn then cutF ss lsn d (k + 1) else k
def cutK (ss : List Sg) (lsn : Int) : Nat := cutF ss lsn (ss.length - 1) 0
def nums (ss : List Sg) (k : Nat) : List Int := (ss.take k).map Sg.num
def cutI (gen first : Int) (ss : List Sg) (lsn : Int) : Int × Option (List Sg) × List Int :=
  if mayB gen first ss = false then (4, none, []) else
  if lsn < first then (1, none, []) else
  if gen = 9223372036854775807 ∨ mayB (gen + 1) lsn (ss.drop (cutK ss lsn)) = false then (1, none, []) else (0, some (ss.drop (cutK ss lsn)), nums ss (cutK ss lsn))
theorem cutF_le (ss : List Sg) (lsn : Int) : ∀ d k, k ≤ cutF ss lsn d k ∧ cutF ss lsn d k ≤ k + d
  | 0, k => ⟨Nat.le_refl _, Nat.le_refl _⟩
  | d + 1, k => by
    unfold cutF
    split
    · have := cutF_le ss lsn d (k + 1); omega
    · omega
theorem cutF_yes (ss : List Sg) (lsn : Int) : ∀ d k, (∀ j, j < k → (sg ss j).end_ ≤ lsn) → ∀ j, j < cutF ss lsn d k → (sg ss j).end_ ≤ lsn
  | 0, k, h => h
  | d + 1, k, h => by
    unfold cutF
    split
    · exact cutF_yes ss lsn d (k + 1) fun j hj => by
        by_cases e : j = k
        · subst e; assumption
        · exact h j (by omega)
    · exact h
theorem cutF_no (ss : List Sg) (lsn : Int) : ∀ d k, cutF ss lsn d k < k + d → ¬ (sg ss (cutF ss lsn d k)).end_ ≤ lsn
  | 0, k, h => by unfold cutF at h; omega
  | d + 1, k, h => by
    unfold cutF at h ⊢
    split
    · rename_i e; rw [if_pos e] at h; exact cutF_no ss lsn d (k + 1) (by omega)
    · assumption
theorem nums_succ (ss : List Sg) (k : Nat) (h : k < ss.length) : nums ss (k + 1) = nums ss k ++ [(sg ss k).num] := by
  unfold nums
  rw [List.take_add_one, List.getElem?_eq_getElem h, List.map_append, sg_at ss k h]
  rfl
theorem nums_len (ss : List Sg) (k : Nat) (h : k ≤ ss.length) : (nums ss k).length = k := by
  unfold nums; simp; omega
/-- the segments from the k-th on are read -/
theorem sg_drop (ss : List Sg) (k j : Nat) : sg (ss.drop k) j = sg ss (k + j) := by
  unfold sg
  rw [List.getD_eq_getElem?_getD, List.getD_eq_getElem?_getD, List.getElem?_drop]
theorem RSg.drop {w : World} {ad : Addr} {n : Nat} {ss : List Sg} (h : RSg w (some ad) n ss) (k : Nat) (hk : k ≤ n) : RSg w (some (ad.add (k * 5))) (n - k) (ss.drop k) := by
  refine ⟨by rw [List.length_drop, h.len], by have := h.top; omega, fun j hj => ?_, fun j => by rw [sg_drop]; exact h.rng _⟩
  obtain ⟨ad', e, r⟩ := h.cell (k + j) (by omega)
  obtain rfl : ad = ad' := by injection e
  refine ⟨_, rfl, ?_⟩
  rw [add_add, sg_drop, show k * 5 + j * 5 = (k + j) * 5 by omega]
  exact r
end Go.Proofs.Ythggicgbcgeggaa
