/- Walks: the reader's Signed, Fixed32 and Fixed64 where the bytes are there. -/
import Derived.Test.YthggicgbcgeggaaV8
import Derived.Test.YthggicgbcgeggaaVZ
set_option linter.unusedVariables false
set_option linter.unusedSimpArgs false
namespace Go.Proofs.Ythggicgbcgeggaa
open Go.RowKit
theorem lo_top {l : List Int} (hb : BY l) (k : Nat) (hk : k ≤ 8) : 0 ≤ lo l k ∧ lo l k < 18446744073709551616 := by
  obtain ⟨h0, h1⟩ := lo_rng (l := l) (fun j => hb.nth j) k
  have hle : (2 : Nat) ^ (8 * k) ≤ 2 ^ 64 := Nat.pow_le_pow_right (by omega) (by omega)
  have c1 : ((2 : Int) ^ (8 * k)) = ((2 ^ (8 * k) : Nat) : Int) := by simp
  rw [c1] at h1
  omega
set_option maxHeartbeats 1000000 in
theorem fixed64R_ok (g : Nat) (A : Option Addr) (n c : Nat) (l : List Int) (p : Nat)  (w : World) (hr : RD w g (.slice A n c) p 0) (hl : RB w A n l) (hc : n ≤ c) (hp : p ≤ n) (hs : 8 ≤ n - p) :
    Calls Try.prog 51 #[.pointer (some ⟨g, 0, none⟩)] w fun e w' => e = .returned (.int .u64 (lo (l.drop p) 8)) ∧ RD w' g (.slice A n c) ((p : Int) + (8 : Nat)) 0 ∧ w.grownBy w' (some g) := by
  have hmf : ∀ (fn : Fn) (first cap : Array Value) (w : World), (Instr.makeFunc fn first cap).run Try.prog w = .ok (.func fn first cap) w := fun _ _ _ _ => rfl
  have hgl : g < w.heap.size := (Array.getElem?_eq_some_iff.1 hr).1
  have hr2 : RD ((w.alloc (.cells #[.pointer (some ⟨g, 0, none⟩)] 52)).alloc (.cells #[.int .u64 0] 27)) g (.slice A n c) p 0 := blk_old (blk_old hr _) _
  have hl2 : RB ((w.alloc (.cells #[.pointer (some ⟨g, 0, none⟩)] 52)).alloc (.cells #[.int .u64 0] 27)) A n l := hl.below ((below_alloc1 w _).alloc (by simp) _)
  go_enter_defers Try.func51, Try.ntmps51
  obtain ⟨hn1, hn2⟩ := two_new w (.cells #[.pointer (some ⟨g, 0, none⟩)] 52) (.cells #[.int .u64 0] 27)
  have HN := Lib.hid (And.intro hn1 hn2)
  clear hn1 hn2
  have HG := Lib.hid hgl
  go_wp2_with (first
    | (go_at_call 98; refine (low_ok g A n c l p 8 _ hr2 hl2 hc hp hs (by omega)).mono ?_; rintro e w1 ⟨rfl, hr1, hg1⟩; have hb1 := blk_grown hg1 (by have := HG.out; omega) HN.out.1; have hb2 := blk_grown hg1 (by have := HG.out; omega) HN.out.2; have hq1 := blk_cell hb2 0 rfl; have hz1 := blk_free hb2 0; have hb3 := Lib.hid hb1; have hb4 := Lib.hid hb2; clear hb1 hb2))
  refine leaves_cons (f := 99) (args := #[.pointer (some ⟨w.heap.size, 0, none⟩), .pointer (some ⟨w.heap.size + 1, 0, none⟩)]) (by simp) (by simp [go_sem]) ?_
  refine (idle99 ⟨w.heap.size, 0, none⟩ ⟨w.heap.size + 1, 0, none⟩ (.pointer (some ⟨g, 0, none⟩)) _ ?_).mono ?_
  · exact blk_cell (blk_set_ne hb3.out 0 _ (by omega)) 0 rfl
  rintro e u' w'' ⟨rfl, rfl, rfl⟩
  have hc4 : (w1.setCell ⟨w.heap.size + 1, 0, none⟩ (.int .u64 (lo (l.drop p) 8))).drew.cell? ⟨w.heap.size + 1, 0, none⟩ = some (.int .u64 (lo (l.drop p) 8)) := blk_cell (blk_set hb4.out 0 _) 0 rfl
  simp [Leaves, settle, results, Try.results51, go_sem, hc4]
  refine ⟨blk_set_ne hr1 0 _ (by omega), ?_⟩
  have := grown_new (grown_two _ _ hg1) (show w.heap.size ≤ w.heap.size + 1 by omega) 0 (.int .u64 (lo (l.drop p) 8))
  exact ⟨this.os, this.tape, this.output, this.size, this.block⟩
set_option maxHeartbeats 1000000 in
theorem fixed32R_ok (g : Nat) (A : Option Addr) (n c : Nat) (l : List Int) (p : Nat)  (w : World) (hr : RD w g (.slice A n c) p 0) (hl : RB w A n l) (hc : n ≤ c) (hp : p ≤ n) (hs : 4 ≤ n - p) (hw : IntKind.u32.wrap (lo (l.drop p) 4) = lo (l.drop p) 4) :
    Calls Try.prog 50 #[.pointer (some ⟨g, 0, none⟩)] w fun e w' => e = .returned (.int .u32 (lo (l.drop p) 4)) ∧ RD w' g (.slice A n c) ((p : Int) + (4 : Nat)) 0 ∧ w.grownBy w' (some g) := by
  have hmf : ∀ (fn : Fn) (first cap : Array Value) (w : World), (Instr.makeFunc fn first cap).run Try.prog w = .ok (.func fn first cap) w := fun _ _ _ _ => rfl
  have hgl : g < w.heap.size := (Array.getElem?_eq_some_iff.1 hr).1
  have hr2 : RD ((w.alloc (.cells #[.pointer (some ⟨g, 0, none⟩)] 52)).alloc (.cells #[.int .u32 0] 46)) g (.slice A n c) p 0 := blk_old (blk_old hr _) _
  have hl2 : RB ((w.alloc (.cells #[.pointer (some ⟨g, 0, none⟩)] 52)).alloc (.cells #[.int .u32 0] 46)) A n l := hl.below ((below_alloc1 w _).alloc (by simp) _)
  go_enter_defers Try.func50, Try.ntmps50
  obtain ⟨hn1, hn2⟩ := two_new w (.cells #[.pointer (some ⟨g, 0, none⟩)] 52) (.cells #[.int .u32 0] 46)
  have HN := Lib.hid (And.intro hn1 hn2)
  clear hn1 hn2
  have HG := Lib.hid hgl
  go_wp2_with (first
    | (go_at_call 98; refine (low_ok g A n c l p 4 _ hr2 hl2 hc hp hs (by omega)).mono ?_; rintro e w1 ⟨rfl, hr1, hg1⟩; have hb1 := blk_grown hg1 (by have := HG.out; omega) HN.out.1; have hb2 := blk_grown hg1 (by have := HG.out; omega) HN.out.2; have hq1 := blk_cell hb2 0 rfl; have hz1 := blk_free hb2 0; have hb3 := Lib.hid hb1; have hb4 := Lib.hid hb2; clear hb1 hb2))
  refine leaves_cons (f := 97) (args := #[.pointer (some ⟨w.heap.size, 0, none⟩), .pointer (some ⟨w.heap.size + 1, 0, none⟩)]) (by simp) (by simp [go_sem]) ?_
  refine (idle97 ⟨w.heap.size, 0, none⟩ ⟨w.heap.size + 1, 0, none⟩ (.pointer (some ⟨g, 0, none⟩)) _ ?_).mono ?_
  · exact blk_cell (blk_set_ne hb3.out 0 _ (by omega)) 0 rfl
  rintro e u' w'' ⟨rfl, rfl, rfl⟩
  have hc4 : (w1.setCell ⟨w.heap.size + 1, 0, none⟩ (.int .u32 (lo (l.drop p) 4))).drew.cell? ⟨w.heap.size + 1, 0, none⟩ = some (.int .u32 (lo (l.drop p) 4)) := blk_cell (blk_set hb4.out 0 _) 0 rfl
  simp [Leaves, settle, results, Try.results50, go_sem, hc4]
  refine ⟨blk_set_ne hr1 0 _ (by omega), ?_⟩
  have := grown_new (grown_two _ _ hg1) (show w.heap.size ≤ w.heap.size + 1 by omega) 0 (.int .u32 (lo (l.drop p) 4))
  exact ⟨this.os, this.tape, this.output, this.size, this.block⟩
set_option maxHeartbeats 1000000 in
theorem signedR_ok (g : Nat) (A : Option Addr) (n c : Nat) (l : List Int) (p : Nat) (x : Int) (j : Nat) (w : World) (hr : RD w g (.slice A n c) p 0) (hl : RB w A n l) (hc : n ≤ c) (hp : p ≤ n) (hv : rvI (l.drop p) = (x, (j : Int), 0)) (hj : p + j ≤ n) (x0 : 0 ≤ x) (x1 : x ≤ 18446744073709551615) :
    Calls Try.prog 49 #[.pointer (some ⟨g, 0, none⟩)] w fun e w' => e = .returned (.int .i64 (zagI x)) ∧ RD w' g (.slice A n c) ((p : Int) + j) 0 ∧ w.grownBy w' (some g) := by
  have hmf : ∀ (fn : Fn) (first cap : Array Value) (w : World), (Instr.makeFunc fn first cap).run Try.prog w = .ok (.func fn first cap) w := fun _ _ _ _ => rfl
  have hgl : g < w.heap.size := (Array.getElem?_eq_some_iff.1 hr).1
  have hr2 : RD ((w.alloc (.cells #[.pointer (some ⟨g, 0, none⟩)] 52)).alloc (.cells #[.int .i64 0] 2)) g (.slice A n c) p 0 := blk_old (blk_old hr _) _
  have hl2 : RB ((w.alloc (.cells #[.pointer (some ⟨g, 0, none⟩)] 52)).alloc (.cells #[.int .i64 0] 2)) A n l := hl.below ((below_alloc1 w _).alloc (by simp) _)
  go_enter_defers Try.func49, Try.ntmps49
  obtain ⟨hn1, hn2⟩ := two_new w (.cells #[.pointer (some ⟨g, 0, none⟩)] 52) (.cells #[.int .i64 0] 2)
  have HN := Lib.hid (And.intro hn1 hn2)
  clear hn1 hn2
  have HG := Lib.hid hgl
  go_wp2_with (first
    | (go_at_call 95; refine (number_ok g A n c l p 18446744073709551615 x j _ hr2 hl2 hc hp hv hj x1).mono ?_; rintro e w1 ⟨rfl, hr1, hg1⟩; have hb1 := blk_grown hg1 (by have := HG.out; omega) HN.out.1; have hb2 := blk_grown hg1 (by have := HG.out; omega) HN.out.2; have hq1 := blk_cell hb2 0 rfl; have hz1 := blk_free hb2 0; have hb3 := Lib.hid hb1; have hb4 := Lib.hid hb2; clear hb1 hb2)
    | (go_at_call 31; refine (zag_any x x0 (by omega) _).mono ?_; rintro e w2 ⟨rfl, rfl⟩))
  refine leaves_cons (f := 96) (args := #[.pointer (some ⟨w.heap.size, 0, none⟩), .pointer (some ⟨w.heap.size + 1, 0, none⟩)]) (by simp) (by simp [go_sem]) ?_
  refine (idle96 ⟨w.heap.size, 0, none⟩ ⟨w.heap.size + 1, 0, none⟩ (.pointer (some ⟨g, 0, none⟩)) _ ?_).mono ?_
  · exact blk_cell (blk_set_ne hb3.out 0 _ (by omega)) 0 rfl
  rintro e u' w'' ⟨rfl, rfl, rfl⟩
  have hc4 : (w1.setCell ⟨w.heap.size + 1, 0, none⟩ (.int .i64 (zagI x))).drew.cell? ⟨w.heap.size + 1, 0, none⟩ = some (.int .i64 (zagI x)) := blk_cell (blk_set hb4.out 0 _) 0 rfl
  simp [Leaves, settle, results, Try.results49, go_sem, hc4]
  refine ⟨blk_set_ne hr1 0 _ (by omega), ?_⟩
  have := grown_new (grown_two _ _ hg1) (show w.heap.size ≤ w.heap.size + 1 by omega) 0 (.int .i64 (zagI x))
  exact ⟨this.os, this.tape, this.output, this.size, this.block⟩
end Go.Proofs.Ythggicgbcgeggaa
