/- Walk: the reader's String where the bytes are there. -/
import Derived.Test.YthggicgbcgeggaaV9
set_option linter.unusedVariables false
set_option linter.unusedSimpArgs false
namespace Go.Proofs.Ythggicgbcgeggaa
open Go.RowKit
theorem RB.keepRow {w w' : World} {g : Nat} {cs : Array Value} {t : TypeId} {fr : Nat × Nat} {A : Option Addr} {n : Nat} {l : List Int} (hl : RB w A n l) (hr : w.heap[g]? = some (.cells cs t fr)) (hs : ∀ (i : Nat) (x : Int), cs[i]? ≠ some (Value.int .u8 x)) (h : w.grownBy w' (some g)) : RB w' A n l := by
  refine ⟨hl.len, hl.top, fun j hj => ?_, hl.rng⟩
  obtain ⟨ad, rfl, hc⟩ := hl.cell j hj
  refine ⟨ad, rfl, ?_⟩
  have hlt := World.block_lt_of_cell? w _ hc
  have hne : (ad.add j).block ≠ g := by
    intro e
    rcases hx : ad.add j with ⟨bl, o, sp⟩
    rw [hx] at e hc
    simp only at e
    subst e
    unfold World.cell? at hc
    simp only [hr] at hc
    split at hc
    · cases hc
    · exact hs _ _ hc
  rw [← hc]
  unfold World.cell?
  rw [h.block _ hlt (fun e => hne (Option.some.inj e))]
theorem one_cell_no {A : Option Addr} {n c : Nat} : ∀ (i : Nat) (x : Int), (#[Value.slice A n c] : Array Value)[i]? ≠ some (Value.int .u8 x) := by
  intro i x h
  rcases i with _ | i <;> simp at h
set_option maxHeartbeats 1000000 in
theorem stringR_ok (g : Nat) (A : Option Addr) (n c : Nat) (l : List Int) (p : Nat) (most : Int) (s : List Int) (k : Nat) (w : World) (hr : RD w g (.slice A n c) p 0) (hl : RB w A n l) (hc : n ≤ c) (hp : p ≤ n) (m0 : -9223372036854775808 ≤ most) (m1 : most ≤ 9223372036854775807) (hv : rsI (l.drop p) most = (s, (k : Int), 0)) (hk : p + k ≤ n) :
    Calls Try.prog 52 #[.pointer (some ⟨g, 0, none⟩), .int .i64 most] w fun e w' => ∃ A4 n4 c4, e = .returned (.slice A4 n4 c4) ∧ n4 ≤ c4 ∧ RB w' A4 n4 s ∧ RD w' g (.slice A n c) ((p : Int) + k) 0 ∧ w.grownBy w' (some g) := by
  have hmf : ∀ (fn : Fn) (first cap : Array Value) (w : World), (Instr.makeFunc fn first cap).run Try.prog w = .ok (.func fn first cap) w := fun _ _ _ _ => rfl
  have hgl : g < w.heap.size := (Array.getElem?_eq_some_iff.1 hr).1
  have ht := hl.top
  obtain ⟨hys, hsl⟩ := rsI_props (l.drop p) most (fun x hx => hl.by_ x (List.mem_of_mem_drop hx))
  rw [hv] at hys hsl
  have HYS := Lib.hid (And.intro hys (show s.length ≤ 140737488355328 by have := hl.len; rw [List.length_drop] at hsl; simp only at hsl; omega))
  clear hys hsl
  have hr2 : RD ((w.alloc (.cells #[.pointer (some ⟨g, 0, none⟩)] 52)).alloc (.cells #[.slice none 0 0] 25)) g (.slice A n c) p 0 := blk_old (blk_old hr _) _
  have hl2 : RB ((w.alloc (.cells #[.pointer (some ⟨g, 0, none⟩)] 52)).alloc (.cells #[.slice none 0 0] 25)) A n l := hl.below ((below_alloc1 w _).alloc (by simp) _)
  go_enter_defers Try.func52, Try.ntmps52
  obtain ⟨hn1, hn2⟩ := two_new w (.cells #[.pointer (some ⟨g, 0, none⟩)] 52) (.cells #[.slice none 0 0] 25)
  have HN := Lib.hid (And.intro hn1 hn2)
  clear hn1 hn2
  have HG := Lib.hid hgl
  go_wp2_with (first
    | (go_at_call 101; refine (rest_ok g A n c l p _ hr2 hl2 hc hp).mono ?_; rintro e w1 ⟨A', c', kk, rfl, hb, hcc, rfl⟩)
    | (go_at_call 24; refine (rstr_any A' (n - p) c' (l.drop p) most _ (hb.drewN kk) hcc m0 m1).mono ?_; rw [hv]; rintro e w3 ⟨v3, rfl, hO3, hw3⟩; obtain ⟨A4, n4, c4, rfl, hc4, hb4⟩ := hO3.readN HYS.out.1 HYS.out.2; have hp3 : w3.heap[w.heap.size]? = _ := (hw3.block _ (lt_of_block HN.out.1)).trans HN.out.1; have hq3 : w3.heap[w.heap.size + 1]? = _ := (hw3.block _ (lt_of_block HN.out.2)).trans HN.out.2; have hr3 : RD w3 g (.slice A n c) p 0 := (hw3.block _ (lt_of_block hr2)).trans hr2; have HB := Lib.hid (And.intro hp3 (And.intro hq3 hr3)); have ca := blk_cell hp3 0 rfl; have cb := blk_cell hq3 0 rfl; have cc := blk_free hq3 0; clear hp3 hq3; have hr4 : RD (w3.setCell ⟨w.heap.size + 1, 0, none⟩ (.slice A4 n4 c4)) g (.slice A n c) p 0 := (blk_set_ne hr3 0 _ (by have := HG.out; omega)); have cd : (w3.setCell ⟨w.heap.size + 1, 0, none⟩ (.slice A4 n4 c4)).cell? ⟨w.heap.size, 0, none⟩ = some (.pointer (some ⟨g, 0, none⟩)) := blk_cell (blk_set_ne HB.out.1 0 _ (by omega)) 0 rfl)
    | (go_at_call 102; refine (took_ok g (.slice A n c) p k _ hr4 (by omega) (by omega) (by omega)).mono ?_; rintro e w4 ⟨rfl, hr5, hg5⟩; have hq5 := blk_grown hg5 (by have := HG.out; omega) (blk_set HB.out.2.1 0 (.slice A4 n4 c4)); have HQ5 := Lib.hid hq5; have ce := blk_cell hq5 0 rfl; have cf := blk_free hq5 0; clear hq5))
  refine leaves_cons (f := 100) (args := #[.pointer (some ⟨w.heap.size, 0, none⟩), .pointer (some ⟨w.heap.size + 1, 0, none⟩)]) (by simp) (by simp [go_sem]) ?_
  refine (idle100 ⟨w.heap.size, 0, none⟩ ⟨w.heap.size + 1, 0, none⟩ (.pointer (some ⟨g, 0, none⟩)) _ ?_).mono ?_
  · exact blk_cell (blk_set_ne (blk_grown hg5 (by omega) (blk_set_ne HB.out.1 0 _ (by omega))) 0 _ (by omega)) 0 rfl
  rintro e u' w'' ⟨rfl, rfl, rfl⟩
  have hc6 : (w4.setCell ⟨w.heap.size + 1, 0, none⟩ (.slice A4 n4 c4)).drew.cell? ⟨w.heap.size + 1, 0, none⟩ = some (.slice A4 n4 c4) := blk_cell (blk_set HQ5.out 0 _) 0 rfl
  have g1 : w.grownBy w3 (some g) := grown_two _ _ ⟨hw3.os, hw3.tape, hw3.output, hw3.size, fun i hi _ => hw3.block i hi⟩
  have g3 := (grown_new g1 (show w.heap.size ≤ w.heap.size + 1 by omega) 0 (.slice A4 n4 c4)).trans hg5
  have g4 := grown_new g3 (show w.heap.size ≤ w.heap.size + 1 by omega) 0 (.slice A4 n4 c4)
  have b1 := hb4.keepRow HB.out.2.1 one_cell_no (grown_setCell 0 (.slice A4 n4 c4))
  have b2 := b1.grown hr4 (fun x => by simp) hg5
  have hq6 : w4.heap[w.heap.size + 1]? = some (.cells #[.slice A4 n4 c4] 25 (0, 0)) := HQ5.out
  have b3 := b2.keepRow hq6 one_cell_no (grown_setCell 0 (.slice A4 n4 c4))
  have hr6 : RD (w4.setCell ⟨w.heap.size + 1, 0, none⟩ (.slice A4 n4 c4)) g (.slice A n c) ((p : Int) + k) 0 := blk_set_ne hr5 0 _ (by omega)
  have R := Lib.hid (And.intro hc4 (And.intro b3 (And.intro hr6 g4)))
  clear b3 hr6 g4 b1 b2 g1 g3
  simp [Leaves, settle, results, Try.results52, go_sem, hc6]
  refine ⟨A4, n4, c4, ⟨rfl, rfl, rfl⟩, R.out.1, ⟨R.out.2.1.len, R.out.2.1.top, R.out.2.1.cell, R.out.2.1.rng⟩, R.out.2.2.1, ⟨R.out.2.2.2.os, R.out.2.2.2.tape, R.out.2.2.2.output, R.out.2.2.2.size, R.out.2.2.2.block⟩⟩
end Go.Proofs.Ythggicgbcgeggaa
