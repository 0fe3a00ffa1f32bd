/- Walks: the reader's deferred closures; number and low; Varint and Fixed32. -/
import Derived.Test.YthggicgbcgeggaaV4
set_option linter.unusedVariables false
set_option linter.unusedSimpArgs false
namespace Go.Proofs.Ythggicgbcgeggaa
open Go.RowKit
set_option maxHeartbeats 1000000 in
theorem catch93 (p q : Addr) (g : Nat) (s : Value) (pp bb x : Int) (y : Value) (older : List PanicEntry) (w : World) (hp : w.cell? p = some (.pointer (some ⟨g, 0, none⟩))) (hr : RD w g s pp bb)
    (hq : w.cell? q = some y) (hz : w.frozen? q = false) (hqg : q.block ≠ g) :
    CallsD Try.prog 93 #[.pointer (some p), .pointer (some q)] (.panicking ({ v := .iface 151 (.agg #[.int .i64 x]), recovered := false } :: older)) w fun e u' w' =>
      e = .returned (.tuple #[]) ∧ u' = .panicking ({ v := .iface 151 (.agg #[.int .i64 x]), recovered := true } :: older) ∧ ∃ w1, w.grownBy w1 (some g) ∧ RD w1 g s pp x ∧ w' = w1.setCell q (.int .u64 0) := by
  refine callsD_of_wpS Try.func93 rfl fun c₀ cs hu => ?_
  apply wpS_seq
  apply wpS_region_draw
  intro t
  rw [mixed]
  have hd : w.drew.cell? p = some (.pointer (some ⟨g, 0, none⟩)) := hp
  have hql : q.block < w.heap.size := World.block_lt_of_cell? w _ hq
  rcases sched3 (by kernel_rfl) (by kernel_rfl) (by kernel_rfl) (by kernel_rfl) (by kernel_rfl) (by kernel_rfl) t with h | h
  · rw [h]
    simp [wpOpsS, go_sem, recoverD, hu, Try.ntmps93, Exit.thenS, hd]
    refine (stop_yes g s pp bb x w.drew hr).mono ?_
    rintro e w1 ⟨rfl, hr1, hg1⟩
    have hc1 : w1.cell? q = some y := by rw [World.cell?_of_block (hg1.block _ hql (fun e => hqg (Option.some.inj e)))]; exact hq
    have hz1 : w1.frozen? q = false := by rw [World.frozen?_of_block (hg1.block _ hql (fun e => hqg (Option.some.inj e)))]; exact hz
    refine wpS_cond (t := true) (by simp [Act.eval, Array.replicate]) ?_
    simp only [if_true]
    apply wpS_region
    simp [wpOpsS, go_sem, hc1, hz1, bodyPostS, results, Try.results93]
    exact ⟨w1, ⟨hg1.os, hg1.tape, hg1.output, hg1.size, hg1.block⟩, hr1, rfl⟩
  · rw [h]
    simp [wpOpsS, go_sem, recoverD, hu, Try.ntmps93, Exit.thenS, hd]
    refine (stop_yes g s pp bb x w.drew hr).mono ?_
    rintro e w1 ⟨rfl, hr1, hg1⟩
    have hc1 : w1.cell? q = some y := by rw [World.cell?_of_block (hg1.block _ hql (fun e => hqg (Option.some.inj e)))]; exact hq
    have hz1 : w1.frozen? q = false := by rw [World.frozen?_of_block (hg1.block _ hql (fun e => hqg (Option.some.inj e)))]; exact hz
    refine wpS_cond (t := true) (by simp [Act.eval, Array.replicate]) ?_
    simp only [if_true]
    apply wpS_region
    simp [wpOpsS, go_sem, hc1, hz1, bodyPostS, results, Try.results93]
    exact ⟨w1, ⟨hg1.os, hg1.tape, hg1.output, hg1.size, hg1.block⟩, hr1, rfl⟩
theorem idle93 (p q : Addr) (v : Value) (w : World) (hp : w.cell? p = some v) :
    CallsD Try.prog 93 #[.pointer (some p), .pointer (some q)] .returning w fun e u' w' => e = .returned (.tuple #[]) ∧ u' = .returning ∧ w' = w.drew := by
  refine callsD_of_wpS Try.func93 rfl fun c₀ cs hu => ?_
  apply wpS_seq
  apply wpS_region_draw
  intro t
  rw [mixed]
  have hd : w.drew.cell? p = some v := hp
  rcases sched3 (by kernel_rfl) (by kernel_rfl) (by kernel_rfl) (by kernel_rfl) (by kernel_rfl) (by kernel_rfl) t with h | h
  · rw [h]
    simp [wpOpsS, go_sem, recoverD, hu, Try.ntmps93, Exit.thenS, hd]
    refine (stop_no _ w.drew).mono ?_
    rintro e w1 ⟨rfl, rfl⟩
    refine wpS_cond (t := false) (by simp [Act.eval, Array.replicate]) ?_
    simp only [Bool.false_eq_true, if_false]
    refine wpS_of_wp (wp_skip ?_)
    cases c₀
    simp_all [bodyPostS, results, Try.results93]
  · rw [h]
    simp [wpOpsS, go_sem, recoverD, hu, Try.ntmps93, Exit.thenS, hd]
    refine (stop_no _ w.drew).mono ?_
    rintro e w1 ⟨rfl, rfl⟩
    refine wpS_cond (t := false) (by simp [Act.eval, Array.replicate]) ?_
    simp only [Bool.false_eq_true, if_false]
    refine wpS_of_wp (wp_skip ?_)
    cases c₀
    simp_all [bodyPostS, results, Try.results93]
set_option maxHeartbeats 1000000 in
theorem catch97 (p q : Addr) (g : Nat) (s : Value) (pp bb x : Int) (y : Value) (older : List PanicEntry) (w : World) (hp : w.cell? p = some (.pointer (some ⟨g, 0, none⟩))) (hr : RD w g s pp bb)
    (hq : w.cell? q = some y) (hz : w.frozen? q = false) (hqg : q.block ≠ g) :
    CallsD Try.prog 97 #[.pointer (some p), .pointer (some q)] (.panicking ({ v := .iface 151 (.agg #[.int .i64 x]), recovered := false } :: older)) w fun e u' w' =>
      e = .returned (.tuple #[]) ∧ u' = .panicking ({ v := .iface 151 (.agg #[.int .i64 x]), recovered := true } :: older) ∧ ∃ w1, w.grownBy w1 (some g) ∧ RD w1 g s pp x ∧ w' = w1.setCell q (.int .u32 0) := by
  refine callsD_of_wpS Try.func97 rfl fun c₀ cs hu => ?_
  apply wpS_seq
  apply wpS_region_draw
  intro t
  rw [mixed]
  have hd : w.drew.cell? p = some (.pointer (some ⟨g, 0, none⟩)) := hp
  have hql : q.block < w.heap.size := World.block_lt_of_cell? w _ hq
  rcases sched3 (by kernel_rfl) (by kernel_rfl) (by kernel_rfl) (by kernel_rfl) (by kernel_rfl) (by kernel_rfl) t with h | h
  · rw [h]
    simp [wpOpsS, go_sem, recoverD, hu, Try.ntmps97, Exit.thenS, hd]
    refine (stop_yes g s pp bb x w.drew hr).mono ?_
    rintro e w1 ⟨rfl, hr1, hg1⟩
    have hc1 : w1.cell? q = some y := by rw [World.cell?_of_block (hg1.block _ hql (fun e => hqg (Option.some.inj e)))]; exact hq
    have hz1 : w1.frozen? q = false := by rw [World.frozen?_of_block (hg1.block _ hql (fun e => hqg (Option.some.inj e)))]; exact hz
    refine wpS_cond (t := true) (by simp [Act.eval, Array.replicate]) ?_
    simp only [if_true]
    apply wpS_region
    simp [wpOpsS, go_sem, hc1, hz1, bodyPostS, results, Try.results97]
    exact ⟨w1, ⟨hg1.os, hg1.tape, hg1.output, hg1.size, hg1.block⟩, hr1, rfl⟩
  · rw [h]
    simp [wpOpsS, go_sem, recoverD, hu, Try.ntmps97, Exit.thenS, hd]
    refine (stop_yes g s pp bb x w.drew hr).mono ?_
    rintro e w1 ⟨rfl, hr1, hg1⟩
    have hc1 : w1.cell? q = some y := by rw [World.cell?_of_block (hg1.block _ hql (fun e => hqg (Option.some.inj e)))]; exact hq
    have hz1 : w1.frozen? q = false := by rw [World.frozen?_of_block (hg1.block _ hql (fun e => hqg (Option.some.inj e)))]; exact hz
    refine wpS_cond (t := true) (by simp [Act.eval, Array.replicate]) ?_
    simp only [if_true]
    apply wpS_region
    simp [wpOpsS, go_sem, hc1, hz1, bodyPostS, results, Try.results97]
    exact ⟨w1, ⟨hg1.os, hg1.tape, hg1.output, hg1.size, hg1.block⟩, hr1, rfl⟩
theorem idle97 (p q : Addr) (v : Value) (w : World) (hp : w.cell? p = some v) :
    CallsD Try.prog 97 #[.pointer (some p), .pointer (some q)] .returning w fun e u' w' => e = .returned (.tuple #[]) ∧ u' = .returning ∧ w' = w.drew := by
  refine callsD_of_wpS Try.func97 rfl fun c₀ cs hu => ?_
  apply wpS_seq
  apply wpS_region_draw
  intro t
  rw [mixed]
  have hd : w.drew.cell? p = some v := hp
  rcases sched3 (by kernel_rfl) (by kernel_rfl) (by kernel_rfl) (by kernel_rfl) (by kernel_rfl) (by kernel_rfl) t with h | h
  · rw [h]
    simp [wpOpsS, go_sem, recoverD, hu, Try.ntmps97, Exit.thenS, hd]
    refine (stop_no _ w.drew).mono ?_
    rintro e w1 ⟨rfl, rfl⟩
    refine wpS_cond (t := false) (by simp [Act.eval, Array.replicate]) ?_
    simp only [Bool.false_eq_true, if_false]
    refine wpS_of_wp (wp_skip ?_)
    cases c₀
    simp_all [bodyPostS, results, Try.results97]
  · rw [h]
    simp [wpOpsS, go_sem, recoverD, hu, Try.ntmps97, Exit.thenS, hd]
    refine (stop_no _ w.drew).mono ?_
    rintro e w1 ⟨rfl, rfl⟩
    refine wpS_cond (t := false) (by simp [Act.eval, Array.replicate]) ?_
    simp only [Bool.false_eq_true, if_false]
    refine wpS_of_wp (wp_skip ?_)
    cases c₀
    simp_all [bodyPostS, results, Try.results97]
theorem RB.drewN {w : World} {A : Option Addr} {n : Nat} {l : List Int} (h : RB w A n l) (k : Nat) : RB (w.drewN k) A n l := ⟨h.len, h.top, h.cell, h.rng⟩
set_option maxHeartbeats 400000 in
theorem number_ok (g : Nat) (A : Option Addr) (n c : Nat) (l : List Int) (p : Nat) (most x : Int) (j : Nat) (w : World) (hr : RD w g (.slice A n c) p 0) (hl : RB w A n l) (hc : n ≤ c) (hp : p ≤ n) (hv : rvI (l.drop p) = (x, (j : Int), 0)) (hj : p + j ≤ n) (hm : x ≤ most) :
    Calls Try.prog 95 #[.pointer (some ⟨g, 0, none⟩), .int .u64 most] w fun e w' => e = .returned (.int .u64 x) ∧ RD w' g (.slice A n c) ((p : Int) + j) 0 ∧ w.grownBy w' (some g) := by
  have ht := hl.top
  go_enter Try.func95, Try.ntmps95
  go_wp2_with (first
    | (go_at_call 101; refine (rest_ok g A n c l p _ hr hl hc hp).mono ?_; rintro e w1 ⟨A', c', k, rfl, hb, hcc, rfl⟩)
    | (go_at_call 22; refine (read_any _ _ _ _ _ (hb.drewN k)).mono ?_; rw [hv]; rintro e w2 ⟨rfl, rfl⟩)
    | (go_at_call 102; refine (took_ok g (.slice A n c) p j (w.drewN k) hr (by omega) (by omega) (by omega)).mono ?_; rintro e w3 ⟨rfl, hr3, hg3⟩))
  go_ret
  exact ⟨rfl, hr3, ⟨hg3.os, hg3.tape, hg3.output, hg3.size, hg3.block⟩⟩
set_option maxHeartbeats 400000 in
theorem low_short (g : Nat) (A : Option Addr) (n c : Nat) (l : List Int) (p : Nat) (sz : Int) (w : World) (hr : RD w g (.slice A n c) p 0) (hl : RB w A n l) (hc : n ≤ c) (hp : p ≤ n) (hs : ((n - p : Nat) : Int) < sz) :
    Calls Try.prog 98 #[.pointer (some ⟨g, 0, none⟩), .int .i64 sz] w fun e w' => e = .panicked [{ v := .iface 151 (.agg #[.int .i64 2]), recovered := false }] ∧ ∃ k, w' = w.drewN k := by
  go_enter Try.func98, Try.ntmps98
  go_wp2_with (go_at_call 101; refine (rest_ok g A n c l p _ hr hl hc hp).mono ?_; rintro e w1 ⟨A', c', k, rfl, hb, hcc, rfl⟩)
  exact ⟨rfl, rfl, k, rfl⟩
theorem blk_grown {w w' : World} {g k : Nat} {o : Obj} (hg : w.grownBy w' (some g)) (hk : k ≠ g) (h : w.heap[k]? = some o) : w'.heap[k]? = some o := by
  rw [hg.block k (lt_of_block h) (fun e => hk (Option.some.inj e))]; exact h
theorem two_new (w : World) (o o2 : Obj) : ((w.alloc o).alloc o2).heap[w.heap.size]? = some o ∧ ((w.alloc o).alloc o2).heap[w.heap.size + 1]? = some o2 := by
  have h1 := heap_alloc_new w o
  have h2 := heap_alloc_new (w.alloc o) o2
  have e : (w.alloc o).heap.size = w.heap.size + 1 := by show (w.heap.push o).size = _; simp
  rw [e] at h2
  exact ⟨blk_old h1 _, h2⟩
theorem grown_two {w w' : World} {g : Nat} (o o2 : Obj) (h : ((w.alloc o).alloc o2).grownBy w' (some g)) : w.grownBy w' (some g) := ((grown_alloc w o _).trans (grown_alloc _ o2 _)).trans h
theorem grown_new {w w' : World} {g k : Nat} (h : w.grownBy w' (some g)) (hk : w.heap.size ≤ k) (i : Nat) (v : Value) : w.grownBy (w'.setCell ⟨k, i, none⟩ v) (some g) := by
  refine ⟨h.os, h.tape, h.output, ?_, fun j hj hne => ?_⟩
  · have := h.size; simp [World.setCell]; exact this
  · rw [heap_setCell_other w' _ j v (by simp; omega)]; exact h.block j hj hne
set_option maxHeartbeats 400000 in
/-- Varint where the number is there -/
theorem varintR_ok (g : Nat) (A : Option Addr) (n c : Nat) (l : List Int) (p : Nat) (most x : Int) (j : Nat) (w : World) (hr : RD w g (.slice A n c) p 0) (hl : RB w A n l) (hc : n ≤ c) (hp : p ≤ n) (hv : rvI (l.drop p) = (x, (j : Int), 0)) (hj : p + j ≤ n) (hm : x ≤ most) :
    Calls Try.prog 48 #[.pointer (some ⟨g, 0, none⟩), .int .u64 most] w fun e w' => e = .returned (.int .u64 x) ∧ RD w' g (.slice A n c) ((p : Int) + j) 0 ∧ w.grownBy w' (some g) := by
  have hmf : ∀ (fn : Fn) (first cap : Array Value) (w : World), (Instr.makeFunc fn first cap).run Try.prog w = .ok (.func fn first cap) w := fun _ _ _ _ => rfl
  have hgl : g < w.heap.size := (Array.getElem?_eq_some_iff.1 hr).1
  have hr2 : RD ((w.alloc (.cells #[.pointer (some ⟨g, 0, none⟩)] 52)).alloc (.cells #[.int .u64 0] 27)) g (.slice A n c) p 0 := blk_old (blk_old hr _) _
  have hl2 : RB ((w.alloc (.cells #[.pointer (some ⟨g, 0, none⟩)] 52)).alloc (.cells #[.int .u64 0] 27)) A n l := hl.below ((below_alloc1 w _).alloc (by simp) _)
  go_enter_defers Try.func48, Try.ntmps48
  obtain ⟨hn1, hn2⟩ := two_new w (.cells #[.pointer (some ⟨g, 0, none⟩)] 52) (.cells #[.int .u64 0] 27)
  have HN := Lib.hid (And.intro hn1 hn2)
  clear hn1 hn2
  have HG := Lib.hid hgl
  go_wp2_with (go_at_call 95; refine (number_ok g A n c l p most x j _ hr2 hl2 hc hp hv hj hm).mono ?_; rintro e w1 ⟨rfl, hr1, hg1⟩; have hb1 := blk_grown hg1 (by have := HG.out; omega) HN.out.1; have hb2 := blk_grown hg1 (by have := HG.out; omega) HN.out.2; have hq1 := blk_cell hb2 0 rfl; have hz1 := blk_free hb2 0; have hb3 := Lib.hid hb1; have hb4 := Lib.hid hb2; clear hb1 hb2)
  refine leaves_cons (f := 93) (args := #[.pointer (some ⟨w.heap.size, 0, none⟩), .pointer (some ⟨w.heap.size + 1, 0, none⟩)]) (by simp) (by simp [go_sem]) ?_
  refine (idle93 ⟨w.heap.size, 0, none⟩ ⟨w.heap.size + 1, 0, none⟩ (.pointer (some ⟨g, 0, none⟩)) _ ?_).mono ?_
  · exact blk_cell (blk_set_ne hb3.out 0 _ (by omega)) 0 rfl
  rintro e u' w'' ⟨rfl, rfl, rfl⟩
  have hc4 : (w1.setCell ⟨w.heap.size + 1, 0, none⟩ (.int .u64 x)).drew.cell? ⟨w.heap.size + 1, 0, none⟩ = some (.int .u64 x) := blk_cell (blk_set hb4.out 0 _) 0 rfl
  simp [Leaves, settle, results, Try.results48, go_sem, hc4]
  refine ⟨blk_set_ne hr1 0 _ (by omega), ?_⟩
  have := grown_new (grown_two _ _ hg1) (show w.heap.size ≤ w.heap.size + 1 by omega) 0 (.int .u64 x)
  exact ⟨this.os, this.tape, this.output, this.size, this.block⟩
set_option maxHeartbeats 400000 in
theorem fixed32_short (g : Nat) (A : Option Addr) (n c : Nat) (l : List Int) (p : Nat) (w : World) (hr : RD w g (.slice A n c) p 0) (hl : RB w A n l) (hc : n ≤ c) (hp : p ≤ n) (hs : ((n - p : Nat) : Int) < 4) :
    Calls Try.prog 50 #[.pointer (some ⟨g, 0, none⟩)] w fun e w' => e = .returned (.int .u32 0) ∧ RD w' g (.slice A n c) p 2 ∧ w.grownBy w' (some g) := by
  have hmf : ∀ (fn : Fn) (first cap : Array Value) (w : World), (Instr.makeFunc fn first cap).run Try.prog w = .ok (.func fn first cap) w := fun _ _ _ _ => rfl
  have hgl : g < w.heap.size := (Array.getElem?_eq_some_iff.1 hr).1
  have hr2 : RD ((w.alloc (.cells #[.pointer (some ⟨g, 0, none⟩)] 52)).alloc (.cells #[.int .u32 0] 46)) g (.slice A n c) p 0 := blk_old (blk_old hr _) _
  have hl2 : RB ((w.alloc (.cells #[.pointer (some ⟨g, 0, none⟩)] 52)).alloc (.cells #[.int .u32 0] 46)) A n l := hl.below ((below_alloc1 w _).alloc (by simp) _)
  go_enter_defers Try.func50, Try.ntmps50
  obtain ⟨hn1, hn2⟩ := two_new w (.cells #[.pointer (some ⟨g, 0, none⟩)] 52) (.cells #[.int .u32 0] 46)
  have HN := Lib.hid (And.intro hn1 hn2)
  clear hn1 hn2
  go_wp2_with (go_at_call 98; refine (low_short g A n c l p 4 _ hr2 hl2 hc hp hs).mono ?_; rintro e w1 ⟨rfl, k, rfl⟩)
  refine leaves_cons (f := 97) (args := #[.pointer (some ⟨w.heap.size, 0, none⟩), .pointer (some ⟨w.heap.size + 1, 0, none⟩)]) (by simp) (by simp [go_sem]) ?_
  refine (catch97 ⟨w.heap.size, 0, none⟩ ⟨w.heap.size + 1, 0, none⟩ g (.slice A n c) p 0 2 (.int .u32 0) [] _ ?_ ?_ ?_ ?_ ?_).mono ?_
  · exact blk_cell HN.out.1 0 rfl
  · exact hr2
  · exact blk_cell HN.out.2 0 rfl
  · exact blk_free HN.out.2 0
  · simp; omega
  rintro e u' w'' ⟨rfl, rfl, w1, hg1, hr1, rfl⟩
  have hg0 : ((w.alloc (.cells #[.pointer (some ⟨g, 0, none⟩)] 52)).alloc (.cells #[.int .u32 0] 46)).grownBy w1 (some g) := ⟨hg1.os, hg1.tape, hg1.output, hg1.size, hg1.block⟩
  have hb4 := blk_grown hg0 (by omega) HN.out.2
  have hc4 : (w1.setCell ⟨w.heap.size + 1, 0, none⟩ (.int .u32 0)).cell? ⟨w.heap.size + 1, 0, none⟩ = some (.int .u32 0) := blk_cell (blk_set hb4 0 _) 0 rfl
  simp [Leaves, settle, results, Try.results50, go_sem, hc4]
  exact ⟨blk_set_ne hr1 0 _ (by omega), grown_new (grown_two _ _ hg0) (show w.heap.size ≤ w.heap.size + 1 by omega) 0 (.int .u32 0)⟩
end Go.Proofs.Ythggicgbcgeggaa
