/- Walk: catalog.next. -/
import Derived.Test.YthggicgbcgeggaaVL4
import Derived.Deep.RegionHeld3
set_option linter.unusedVariables false
set_option linter.unusedSimpArgs false
namespace Go.Proofs.Ythggicgbcgeggaa
open Go.RowKit
theorem below2 (w : World) (a b : Obj) : Below w.heap.size w ((w.alloc a).alloc b) := (below_alloc1 w a).alloc (by simp) b
theorem three_keep {w : World} {k g : Nat} {a b c : Value} {t : TypeId} (h : w.heap[k]? = some (.cells #[a, b, c] t)) (hne : k ≠ g) (u v x : Value) : (((w.setCell ⟨g, 0, none⟩ u).setCell ⟨g, 1, none⟩ v).setCell ⟨g, 2, none⟩ x).cell? ⟨k, 0, none⟩ = some a ∧ (((w.setCell ⟨g, 0, none⟩ u).setCell ⟨g, 1, none⟩ v).setCell ⟨g, 2, none⟩ x).cell? ⟨k, 1, none⟩ = some b ∧ (((w.setCell ⟨g, 0, none⟩ u).setCell ⟨g, 1, none⟩ v).setCell ⟨g, 2, none⟩ x).cell? ⟨k, 2, none⟩ = some c := by
  have h3 := blk_set_ne (blk_set_ne (blk_set_ne h 0 u hne) 1 v hne) 2 x hne
  exact ⟨blk_cell h3 0 rfl, blk_cell h3 1 rfl, blk_cell h3 2 rfl⟩
theorem below3 (w : World) (a b c : Obj) : Below w.heap.size w (((w.alloc a).alloc b).alloc c) := (below2 w a b).alloc (by simp; omega) c
theorem three_new (w : World) (a b c : Obj) : (((w.alloc a).alloc b).alloc c).heap[w.heap.size]? = some a ∧ (((w.alloc a).alloc b).alloc c).heap[w.heap.size + 1]? = some b ∧ (((w.alloc a).alloc b).alloc c).heap[w.heap.size + 1 + 1]? = some c := by
  obtain ⟨h1, h2⟩ := two_new w a b
  have h3 := heap_alloc_new ((w.alloc a).alloc b) c
  have e : ((w.alloc a).alloc b).heap.size = w.heap.size + 1 + 1 := by simp
  rw [e] at h3
  exact ⟨blk_old h1 c, blk_old h2 c, h3⟩
set_option maxRecDepth 20000 in
set_option maxHeartbeats 2000000 in
theorem next_no (first0 first : Int) (A0 A : Option Addr) (n0 c0 n c : Nat) (w : World) :
    Calls Try.prog 110 #[.agg #[.int .i64 9223372036854775807, .int .i64 first0, .slice A0 n0 c0], .int .i64 first, .slice A n c] w fun e w' => e = .returned (.tuple #[.agg #[.int .i64 0, .int .i64 0, .slice none 0 0], .bool false]) ∧ Below w.heap.size w w' := by
  go_enter Try.func110, Try.ntmps110
  go_wp2_with fail
  exact bodyPost_ret (v := .tuple #[.agg #[.int .i64 0, .int .i64 0, .slice none 0 0], .bool false]) (by simp [results, Try.results110, go_sem]) rfl ⟨rfl, below2 _ _ _⟩
set_option maxRecDepth 20000 in
set_option maxHeartbeats 2000000 in
theorem next_yes (gen first0 first : Int) (A0 A : Option Addr) (n0 c0 n c : Nat) (ss : List Sg) (w : World) (hs : RSg w A n ss) (hc : n ≤ c) (g0 : -9223372036854775808 ≤ gen) (g1 : gen < 9223372036854775807) :
    Calls Try.prog 110 #[.agg #[.int .i64 gen, .int .i64 first0, .slice A0 n0 c0], .int .i64 first, .slice A n c] w fun e w' => e = .returned (.tuple #[.agg #[.int .i64 (gen + 1), .int .i64 first, .slice A n c], .bool (mayB (gen + 1) first ss)]) ∧ Below w.heap.size w w' := by
  have d1 : (gen == 9223372036854775807) = false := by simp; omega
  have hs3 := (hs.below (below3 w (.cells #[.int .i64 gen, .int .i64 first0, .slice A0 n0 c0] 78) (.cells #[.int .i64 0, .int .i64 0, .slice none 0 0] 78) (.cells #[.int .i64 (gen + 1), .int .i64 first, .slice A n c] 78))).drew
  have hb3 := (below3 w (.cells #[.int .i64 gen, .int .i64 first0, .slice A0 n0 c0] 78) (.cells #[.int .i64 0, .int .i64 0, .slice none 0 0] 78) (.cells #[.int .i64 (gen + 1), .int .i64 first, .slice A n c] 78)).drew
  obtain ⟨-, t1, t2⟩ := three_new w (.cells #[.int .i64 gen, .int .i64 first0, .slice A0 n0 c0] 78) (.cells #[.int .i64 0, .int .i64 0, .slice none 0 0] 78) (.cells #[.int .i64 (gen + 1), .int .i64 first, .slice A n c] 78)
  have HT := Lib.hid (And.intro t1 t2)
  have x0 := blk_cell t2 0 (v := some (.int .i64 (gen + 1))) rfl
  have x1 := blk_cell t2 1 (v := some (.int .i64 first)) rfl
  have x2 := blk_cell t2 2 (v := some (.slice A n c)) rfl
  clear t1 t2
  go_enter Try.func110, Try.ntmps110
  go_wp2_with fail
  go_region_held3 (fun w' => w'.cell? ⟨w.heap.size + 1 + 1, 0, none⟩ = some (.int .i64 (gen + 1)) ∧ w'.cell? ⟨w.heap.size + 1 + 1, 1, none⟩ = some (.int .i64 first) ∧ w'.cell? ⟨w.heap.size + 1 + 1, 2, none⟩ = some (.slice A n c))
    (first | exact three_keep HR.out.2 (by simp) _ _ _ | exact ⟨y0, y1, y2⟩ | exact ⟨x0, x1, x2⟩)
    (first | (go_at_call 59; refine (may_any (gen + 1) first A n c ss _ hs3 hc).mono ?_; rintro e w2 ⟨rfl, hb2⟩; have hw2 := below_to hb3 hb3.size hb2; have hr2 := (hb2.block _ (lt_of_block (w := _) HT.out.2)).trans HT.out.2; have hr1 := (hb2.block _ (lt_of_block HT.out.1)).trans HT.out.1; have y0 := blk_cell hr2 0 (v := some (.int .i64 (gen + 1))) rfl; have y1 := blk_cell hr2 1 (v := some (.int .i64 first)) rfl; have y2 := blk_cell hr2 2 (v := some (.slice A n c)) rfl; have z0 := blk_cell hr1 0 (v := some (.int .i64 0)) rfl; have z1 := blk_cell hr1 1 (v := some (.int .i64 0)) rfl; have z2 := blk_cell hr1 2 (v := some (.slice none 0 0)) rfl; have f0 := blk_free hr1 0; have f1 := blk_free hr1 1; have f2 := blk_free hr1 2; have HR := Lib.hid (And.intro hr1 hr2); clear hr1 hr2))
  all_goals
    have k1 := blk_set HR.out.1 0 (.int .i64 (gen + 1))
    have k2 := blk_set k1 1 (.int .i64 first)
    have k3 := blk_set k2 2 (.slice A n c)
    have c0' := blk_cell k3 0 (v := some (.int .i64 (gen + 1))) rfl
    have c1' := blk_cell k3 1 (v := some (.int .i64 first)) rfl
    have c2' := blk_cell k3 2 (v := some (.slice A n c)) rfl
    clear k1 k2 k3
    have hb9 := ((hw2.setCell (p := ⟨w.heap.size + 1, 0, none⟩) (by simp) (.int .i64 (gen + 1))).setCell (p := ⟨w.heap.size + 1, 1, none⟩) (by simp) (.int .i64 first)).setCell (p := ⟨w.heap.size + 1, 2, none⟩) (by simp) (.slice A n c)
    go_wp2_with fail
    exact bodyPost_ret (v := .tuple #[.agg #[.int .i64 (gen + 1), .int .i64 first, .slice A n c], .bool (mayB (gen + 1) first ss)]) (by simp [results, Try.results110, go_sem, c0', c1', c2']) rfl ⟨rfl, hb9⟩
end Go.Proofs.Ythggicgbcgeggaa
