/- Words on segments of the call's own; walk: catalog.next. -/
import Derived.Test.YthggicgbcgeggaaVL3
set_option linter.unusedVariables false
set_option linter.unusedSimpArgs false
namespace Go.Proofs.Ythggicgbcgeggaa
open Go.RowKit
theorem info96 : (Try.prog.info? 96).map (fun i => (i.zero, i.size, i.bytes)) = some (some (.agg #[.int .i64 0, .int .i64 0, .int .u32 0, .int .i64 0, .int .i64 0]), 5, 40) := by kernel_rfl
def cells (ss : List Sg) : List Value := ss.flatMap Sg.vals
theorem cells_len (ss : List Sg) : (cells ss).length = ss.length * 5 := by
  induction ss with
  | nil => rfl
  | cons s r ih => simp only [cells, List.flatMap_cons, List.length_append, List.length_cons] at ih ⊢; rw [ih]; simp [Sg.vals]; omega
theorem cells_append (a b : List Sg) : cells (a ++ b) = cells a ++ cells b := by simp [cells]
theorem cells_one (ss : List Sg) : ∀ v ∈ cells ss, v.oneCell' = true := by
  intro v hv
  simp only [cells, List.mem_flatMap] at hv
  obtain ⟨s, _, hs⟩ := hv
  simp only [Sg.vals, List.mem_cons, List.not_mem_nil, or_false] at hs
  rcases hs with rfl | rfl | rfl | rfl | rfl <;> rfl
theorem cells_at : ∀ (ss : List Sg) (i j : Nat), i < ss.length → j < 5 → (cells ss)[i * 5 + j]? = (sg ss i).vals[j]?
  | [], i, j, h, _ => absurd h (by simp)
  | s :: r, 0, j, _, hj => by
    show (s.vals ++ cells r)[0 * 5 + j]? = _
    rw [List.getElem?_append_left (by simp [Sg.vals]; omega)]
    simp [sg]
  | s :: r, i + 1, j, h, hj => by
    show (s.vals ++ cells r)[(i + 1) * 5 + j]? = _
    have h5 : s.vals.length = 5 := rfl
    rw [List.getElem?_append_right (by omega), h5, show (i + 1) * 5 + j - 5 = i * 5 + j by omega, cells_at r i j (by simpa using h) hj]
    simp [sg]
/-- segments of the call's own -/
def OSg (w : World) (base : Nat) (v : Value) (ss : List Sg) : Prop := w.ownsRow base 96 5 v ss.length (cells ss)
theorem OSg.nil (w : World) (base : Nat) : OSg w base (.slice none 0 0) [] := ⟨rfl, .inl ⟨rfl, rfl⟩⟩
theorem OSg.below {w w' : World} {base : Nat} {v : Value} {ss : List Sg} (h : OSg w base v ss) (hb : Below w.heap.size w w') : OSg w' base v ss :=
  own_fr h fun k hk => hb.block k (own_blk_lt h k hk).2
theorem OSg.lower {w : World} {base base' : Nat} {v : Value} {ss : List Sg} (h : OSg w base v ss) (hb : base' ≤ base) : OSg w base' v ss := by
  refine ⟨h.1, ?_⟩
  rcases h.2 with h2 | ⟨g, cap, cur, hv, hg, r⟩
  · exact .inl h2
  · exact .inr ⟨g, cap, cur, hv, by omega, r⟩
theorem OSg.drew {w : World} {base : Nat} {v : Value} {ss : List Sg} (h : OSg w base v ss) : OSg w.drew base v ss := h
theorem fad_plain (g i j : Nat) : (⟨((⟨g, 0, none⟩ : Addr).add i).block, ((⟨g, 0, none⟩ : Addr).add i).off + j, none⟩ : Addr) = ⟨g, i + j, none⟩ := by
  have ha : (⟨g, 0, none⟩ : Addr).add i = ⟨g, i, none⟩ := by unfold Addr.add; split <;> simp_all
  rw [ha]
/-- what is owned reads -/
theorem OSg.read {w : World} {base : Nat} {v : Value} {ss : List Sg} (h : OSg w base v ss) (hr : ∀ j, SW (sg ss j)) (ht : ss.length ≤ 3518437208883) : ∃ A n c, v = .slice A n c ∧ n = ss.length ∧ n ≤ c ∧ RSg w A n ss := by
  rcases h.2 with ⟨rfl, h0⟩ | ⟨g, cap, cur, rfl, hg, hh, hnc, r⟩
  · exact ⟨none, 0, 0, rfl, by omega, by omega, by omega, by omega, fun j hj => by omega, hr⟩
  · refine ⟨_, ss.length, cap, rfl, rfl, hnc, rfl, ht, fun j hj => ⟨_, rfl, ?_, ?_, ?_, ?_, ?_⟩, hr⟩
    · have := h.cells (g := g) rfl (j * 5 + 0) _ ((cells_at ss j 0 hj (by omega)).trans rfl)
      exact this
    all_goals
      rw [fad_plain]
    · exact (h.cellAt (j * 5 + 1) (by omega)).trans ((cells_at ss j 1 hj (by omega)).trans rfl)
    · exact (h.cellAt (j * 5 + 2) (by omega)).trans ((cells_at ss j 2 hj (by omega)).trans rfl)
    · exact (h.cellAt (j * 5 + 3) (by omega)).trans ((cells_at ss j 3 hj (by omega)).trans rfl)
    · exact (h.cellAt (j * 5 + 4) (by omega)).trans ((cells_at ss j 4 hj (by omega)).trans rfl)
theorem RSg.rv {w : World} {A : Option Addr} {n : Nat} {ss : List Sg} (h : RSg w A n ss) : RV w A n 5 (cells ss) := by
  refine ⟨by rw [cells_len, h.len], cells_one ss, fun j v hv => ?_⟩
  have hj : j < n * 5 := by
    have := (List.getElem?_eq_some_iff.1 hv).1
    rw [cells_len, h.len] at this; exact this
  obtain ⟨ad, rfl, h0, h1, h2, h3, h4⟩ := h.cell (j / 5) (by omega)
  refine ⟨ad, rfl, ?_⟩
  have hc := cells_at ss (j / 5) (j % 5) (by rw [h.len]; omega) (by omega)
  rw [show j / 5 * 5 + j % 5 = j by omega, hv] at hc
  have hf := fad_add ad (j / 5 * 5) (j % 5)
  rw [show j / 5 * 5 + j % 5 = j by omega] at hf
  rw [hf]
  have h5 : j % 5 = 0 ∨ j % 5 = 1 ∨ j % 5 = 2 ∨ j % 5 = 3 ∨ j % 5 = 4 := by omega
  rcases h5 with e | e | e | e | e <;> rw [e] at hc ⊢
  · exact h0.trans hc.symm
  · exact h1.trans hc.symm
  · exact h2.trans hc.symm
  · exact h3.trans hc.symm
  · exact h4.trans hc.symm
end Go.Proofs.Ythggicgbcgeggaa
