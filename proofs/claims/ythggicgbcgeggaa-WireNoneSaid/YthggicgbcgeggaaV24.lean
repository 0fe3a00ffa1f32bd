/- Walks: the reading calls of a nil reader. -/
import Derived.Test.YthggicgbcgeggaaV23
set_option linter.unusedVariables false
set_option linter.unusedSimpArgs false
namespace Go.Proofs.Ythggicgbcgeggaa
open Go.RowKit
theorem rvI_nil : rvI [] = (0, 0, 2) := by decide
theorem RB_nil (w : World) : RB w none 0 [] := ⟨rfl, by omega, fun j hj => by omega, BY.nth (fun x hx => by simp at hx)⟩
theorem rest_nil (w : World) : Calls Try.prog 101 #[.pointer none] w fun e w' => e = .returned (.slice none 0 0) ∧ w' = w := by
  go_enter Try.func101, Try.ntmps101
  go_wp2_with fail
  go_ret
  exact ⟨rfl, rfl⟩
theorem took_nil (n b : Int) (w : World) (hb : b ≠ 0) :
    Calls Try.prog 102 #[.pointer none, .int .i64 n, .int .i64 b] w fun e w' => e = .panicked [{ v := .iface 151 (.agg #[.int .i64 b]), recovered := false }] ∧ w' = w := by
  have hd : (b == 0) = false := by simpa using hb
  clear hb
  go_enter Try.func102, Try.ntmps102
  go_wp2_with fail
  exact ⟨rfl, rfl, rfl⟩
set_option maxRecDepth 20000 in
theorem stop_nil (x : Int) (w : World) :
    Calls Try.prog 94 #[.pointer none, .iface 151 (.agg #[.int .i64 x])] w fun e w' => e = .returned (.bool true) ∧ Below w.heap.size w w' := by
  have hta := is_fault (.agg #[.int .i64 x])
  go_enter Try.func94, Try.ntmps94
  go_wp2_with fail
  go_ret
  exact ⟨rfl, below_alloc1 w _⟩
set_option maxHeartbeats 400000 in
theorem number_nil (most : Int) (w : World) :
    Calls Try.prog 95 #[.pointer none, .int .u64 most] w fun e w' => e = .panicked [{ v := .iface 151 (.agg #[.int .i64 2]), recovered := false }] ∧ w' = w := by
  go_enter Try.func95, Try.ntmps95
  go_wp2_with (first
    | (go_at_call 101; refine (rest_nil _).mono ?_; rintro e w1 ⟨rfl, rfl⟩)
    | (go_at_call 22; refine (read_any none 0 0 [] _ (RB_nil _)).mono ?_; rw [rvI_nil]; rintro e w2 ⟨rfl, rfl⟩)
    | (go_at_call 102; refine (took_nil 0 2 _ (by omega)).mono ?_; rintro e w3 ⟨rfl, rfl⟩))
  exact ⟨rfl, rfl, rfl⟩
set_option maxHeartbeats 400000 in
theorem low_nil (sz : Int) (w : World) (h : 0 < sz) :
    Calls Try.prog 98 #[.pointer none, .int .i64 sz] w fun e w' => e = .panicked [{ v := .iface 151 (.agg #[.int .i64 2]), recovered := false }] ∧ w' = w := by
  go_enter Try.func98, Try.ntmps98
  go_wp2_with (go_at_call 101; refine (rest_nil _).mono ?_; rintro e w1 ⟨rfl, rfl⟩)
  exact ⟨rfl, rfl, rfl⟩
theorem left_nil (w : World) : Calls Try.prog 47 #[.pointer none] w fun e w' => e = .returned (.int .i64 0) ∧ w' = w := by
  go_enter Try.func47, Try.ntmps47
  go_wp2_with fail
  go_ret
  exact ⟨rfl, rfl⟩
theorem at_nil (w : World) : Calls Try.prog 46 #[.pointer none] w fun e w' => e = .returned (.int .i64 0) ∧ w' = w := by
  go_enter Try.func46, Try.ntmps46
  go_wp2_with fail
  go_ret
  exact ⟨rfl, rfl⟩
set_option maxHeartbeats 1000000 in
theorem catchN93 (p q : Addr) (x : Int) (y : Value) (older : List PanicEntry) (w : World) (hp : w.cell? p = some (.pointer none)) (hq : w.cell? q = some y) (hz : w.frozen? q = false) :
    CallsD Try.prog 93 #[.pointer (some p), .pointer (some q)] (.panicking ({ v := .iface 151 (.agg #[.int .i64 x]), recovered := false } :: older)) w fun e u' w' =>
      e = .returned (.tuple #[]) ∧ u' = .panicking ({ v := .iface 151 (.agg #[.int .i64 x]), recovered := true } :: older) ∧ ∃ w1, Below w.heap.size w w1 ∧ w' = w1.setCell q (.int .u64 0) := by
  refine callsD_of_wpS Try.func93 rfl fun c₀ cs hu => ?_
  apply wpS_seq
  apply wpS_region_draw
  intro t
  rw [mixed]
  have hd : w.drew.cell? p = some (.pointer none) := hp
  have hql : q.block < w.heap.size := World.block_lt_of_cell? w _ hq
  rcases sched3 (by kernel_rfl) (by kernel_rfl) (by kernel_rfl) (by kernel_rfl) (by kernel_rfl) (by kernel_rfl) t with h | h
  · rw [h]
    simp [wpOpsS, go_sem, recoverD, hu, Try.ntmps93, Exit.thenS, hd]
    refine (stop_nil x w.drew).mono ?_
    rintro e w1 ⟨rfl, hB1⟩
    have hc1 : w1.cell? q = some y := (hB1.cell hql).trans hq
    have hz1 : w1.frozen? q = false := (hB1.frozen hql).trans hz
    refine wpS_cond (t := true) (by simp [Act.eval, Array.replicate]) ?_
    simp only [if_true]
    apply wpS_region
    simp [wpOpsS, go_sem, hc1, hz1, bodyPostS, results, Try.results93]
    exact ⟨w1, ⟨hB1.os, hB1.tape, hB1.output, hB1.size, hB1.block⟩, rfl⟩
  · rw [h]
    simp [wpOpsS, go_sem, recoverD, hu, Try.ntmps93, Exit.thenS, hd]
    refine (stop_nil x w.drew).mono ?_
    rintro e w1 ⟨rfl, hB1⟩
    have hc1 : w1.cell? q = some y := (hB1.cell hql).trans hq
    have hz1 : w1.frozen? q = false := (hB1.frozen hql).trans hz
    refine wpS_cond (t := true) (by simp [Act.eval, Array.replicate]) ?_
    simp only [if_true]
    apply wpS_region
    simp [wpOpsS, go_sem, hc1, hz1, bodyPostS, results, Try.results93]
    exact ⟨w1, ⟨hB1.os, hB1.tape, hB1.output, hB1.size, hB1.block⟩, rfl⟩
set_option maxHeartbeats 1000000 in
theorem catchN96 (p q : Addr) (x : Int) (y : Value) (older : List PanicEntry) (w : World) (hp : w.cell? p = some (.pointer none)) (hq : w.cell? q = some y) (hz : w.frozen? q = false) :
    CallsD Try.prog 96 #[.pointer (some p), .pointer (some q)] (.panicking ({ v := .iface 151 (.agg #[.int .i64 x]), recovered := false } :: older)) w fun e u' w' =>
      e = .returned (.tuple #[]) ∧ u' = .panicking ({ v := .iface 151 (.agg #[.int .i64 x]), recovered := true } :: older) ∧ ∃ w1, Below w.heap.size w w1 ∧ w' = w1.setCell q (.int .i64 0) := by
  refine callsD_of_wpS Try.func96 rfl fun c₀ cs hu => ?_
  apply wpS_seq
  apply wpS_region_draw
  intro t
  rw [mixed]
  have hd : w.drew.cell? p = some (.pointer none) := hp
  have hql : q.block < w.heap.size := World.block_lt_of_cell? w _ hq
  rcases sched3 (by kernel_rfl) (by kernel_rfl) (by kernel_rfl) (by kernel_rfl) (by kernel_rfl) (by kernel_rfl) t with h | h
  · rw [h]
    simp [wpOpsS, go_sem, recoverD, hu, Try.ntmps96, Exit.thenS, hd]
    refine (stop_nil x w.drew).mono ?_
    rintro e w1 ⟨rfl, hB1⟩
    have hc1 : w1.cell? q = some y := (hB1.cell hql).trans hq
    have hz1 : w1.frozen? q = false := (hB1.frozen hql).trans hz
    refine wpS_cond (t := true) (by simp [Act.eval, Array.replicate]) ?_
    simp only [if_true]
    apply wpS_region
    simp [wpOpsS, go_sem, hc1, hz1, bodyPostS, results, Try.results96]
    exact ⟨w1, ⟨hB1.os, hB1.tape, hB1.output, hB1.size, hB1.block⟩, rfl⟩
  · rw [h]
    simp [wpOpsS, go_sem, recoverD, hu, Try.ntmps96, Exit.thenS, hd]
    refine (stop_nil x w.drew).mono ?_
    rintro e w1 ⟨rfl, hB1⟩
    have hc1 : w1.cell? q = some y := (hB1.cell hql).trans hq
    have hz1 : w1.frozen? q = false := (hB1.frozen hql).trans hz
    refine wpS_cond (t := true) (by simp [Act.eval, Array.replicate]) ?_
    simp only [if_true]
    apply wpS_region
    simp [wpOpsS, go_sem, hc1, hz1, bodyPostS, results, Try.results96]
    exact ⟨w1, ⟨hB1.os, hB1.tape, hB1.output, hB1.size, hB1.block⟩, rfl⟩
set_option maxHeartbeats 1000000 in
theorem catchN97 (p q : Addr) (x : Int) (y : Value) (older : List PanicEntry) (w : World) (hp : w.cell? p = some (.pointer none)) (hq : w.cell? q = some y) (hz : w.frozen? q = false) :
    CallsD Try.prog 97 #[.pointer (some p), .pointer (some q)] (.panicking ({ v := .iface 151 (.agg #[.int .i64 x]), recovered := false } :: older)) w fun e u' w' =>
      e = .returned (.tuple #[]) ∧ u' = .panicking ({ v := .iface 151 (.agg #[.int .i64 x]), recovered := true } :: older) ∧ ∃ w1, Below w.heap.size w w1 ∧ w' = w1.setCell q (.int .u32 0) := by
  refine callsD_of_wpS Try.func97 rfl fun c₀ cs hu => ?_
  apply wpS_seq
  apply wpS_region_draw
  intro t
  rw [mixed]
  have hd : w.drew.cell? p = some (.pointer none) := hp
  have hql : q.block < w.heap.size := World.block_lt_of_cell? w _ hq
  rcases sched3 (by kernel_rfl) (by kernel_rfl) (by kernel_rfl) (by kernel_rfl) (by kernel_rfl) (by kernel_rfl) t with h | h
  · rw [h]
    simp [wpOpsS, go_sem, recoverD, hu, Try.ntmps97, Exit.thenS, hd]
    refine (stop_nil x w.drew).mono ?_
    rintro e w1 ⟨rfl, hB1⟩
    have hc1 : w1.cell? q = some y := (hB1.cell hql).trans hq
    have hz1 : w1.frozen? q = false := (hB1.frozen hql).trans hz
    refine wpS_cond (t := true) (by simp [Act.eval, Array.replicate]) ?_
    simp only [if_true]
    apply wpS_region
    simp [wpOpsS, go_sem, hc1, hz1, bodyPostS, results, Try.results97]
    exact ⟨w1, ⟨hB1.os, hB1.tape, hB1.output, hB1.size, hB1.block⟩, rfl⟩
  · rw [h]
    simp [wpOpsS, go_sem, recoverD, hu, Try.ntmps97, Exit.thenS, hd]
    refine (stop_nil x w.drew).mono ?_
    rintro e w1 ⟨rfl, hB1⟩
    have hc1 : w1.cell? q = some y := (hB1.cell hql).trans hq
    have hz1 : w1.frozen? q = false := (hB1.frozen hql).trans hz
    refine wpS_cond (t := true) (by simp [Act.eval, Array.replicate]) ?_
    simp only [if_true]
    apply wpS_region
    simp [wpOpsS, go_sem, hc1, hz1, bodyPostS, results, Try.results97]
    exact ⟨w1, ⟨hB1.os, hB1.tape, hB1.output, hB1.size, hB1.block⟩, rfl⟩
set_option maxHeartbeats 1000000 in
theorem catchN99 (p q : Addr) (x : Int) (y : Value) (older : List PanicEntry) (w : World) (hp : w.cell? p = some (.pointer none)) (hq : w.cell? q = some y) (hz : w.frozen? q = false) :
    CallsD Try.prog 99 #[.pointer (some p), .pointer (some q)] (.panicking ({ v := .iface 151 (.agg #[.int .i64 x]), recovered := false } :: older)) w fun e u' w' =>
      e = .returned (.tuple #[]) ∧ u' = .panicking ({ v := .iface 151 (.agg #[.int .i64 x]), recovered := true } :: older) ∧ ∃ w1, Below w.heap.size w w1 ∧ w' = w1.setCell q (.int .u64 0) := by
  refine callsD_of_wpS Try.func99 rfl fun c₀ cs hu => ?_
  apply wpS_seq
  apply wpS_region_draw
  intro t
  rw [mixed]
  have hd : w.drew.cell? p = some (.pointer none) := hp
  have hql : q.block < w.heap.size := World.block_lt_of_cell? w _ hq
  rcases sched3 (by kernel_rfl) (by kernel_rfl) (by kernel_rfl) (by kernel_rfl) (by kernel_rfl) (by kernel_rfl) t with h | h
  · rw [h]
    simp [wpOpsS, go_sem, recoverD, hu, Try.ntmps99, Exit.thenS, hd]
    refine (stop_nil x w.drew).mono ?_
    rintro e w1 ⟨rfl, hB1⟩
    have hc1 : w1.cell? q = some y := (hB1.cell hql).trans hq
    have hz1 : w1.frozen? q = false := (hB1.frozen hql).trans hz
    refine wpS_cond (t := true) (by simp [Act.eval, Array.replicate]) ?_
    simp only [if_true]
    apply wpS_region
    simp [wpOpsS, go_sem, hc1, hz1, bodyPostS, results, Try.results99]
    exact ⟨w1, ⟨hB1.os, hB1.tape, hB1.output, hB1.size, hB1.block⟩, rfl⟩
  · rw [h]
    simp [wpOpsS, go_sem, recoverD, hu, Try.ntmps99, Exit.thenS, hd]
    refine (stop_nil x w.drew).mono ?_
    rintro e w1 ⟨rfl, hB1⟩
    have hc1 : w1.cell? q = some y := (hB1.cell hql).trans hq
    have hz1 : w1.frozen? q = false := (hB1.frozen hql).trans hz
    refine wpS_cond (t := true) (by simp [Act.eval, Array.replicate]) ?_
    simp only [if_true]
    apply wpS_region
    simp [wpOpsS, go_sem, hc1, hz1, bodyPostS, results, Try.results99]
    exact ⟨w1, ⟨hB1.os, hB1.tape, hB1.output, hB1.size, hB1.block⟩, rfl⟩
set_option maxHeartbeats 1000000 in
theorem catchN100 (p q : Addr) (x : Int) (y : Value) (older : List PanicEntry) (w : World) (hp : w.cell? p = some (.pointer none)) (hq : w.cell? q = some y) (hz : w.frozen? q = false) :
    CallsD Try.prog 100 #[.pointer (some p), .pointer (some q)] (.panicking ({ v := .iface 151 (.agg #[.int .i64 x]), recovered := false } :: older)) w fun e u' w' =>
      e = .returned (.tuple #[]) ∧ u' = .panicking ({ v := .iface 151 (.agg #[.int .i64 x]), recovered := true } :: older) ∧ ∃ w1, Below w.heap.size w w1 ∧ w' = w1.setCell q (.slice none 0 0) := by
  refine callsD_of_wpS Try.func100 rfl fun c₀ cs hu => ?_
  apply wpS_seq
  apply wpS_region_draw
  intro t
  rw [mixed]
  have hd : w.drew.cell? p = some (.pointer none) := hp
  have hql : q.block < w.heap.size := World.block_lt_of_cell? w _ hq
  rcases sched3 (by kernel_rfl) (by kernel_rfl) (by kernel_rfl) (by kernel_rfl) (by kernel_rfl) (by kernel_rfl) t with h | h
  · rw [h]
    simp [wpOpsS, go_sem, recoverD, hu, Try.ntmps100, Exit.thenS, hd]
    refine (stop_nil x w.drew).mono ?_
    rintro e w1 ⟨rfl, hB1⟩
    have hc1 : w1.cell? q = some y := (hB1.cell hql).trans hq
    have hz1 : w1.frozen? q = false := (hB1.frozen hql).trans hz
    refine wpS_cond (t := true) (by simp [Act.eval, Array.replicate]) ?_
    simp only [if_true]
    apply wpS_region
    simp [wpOpsS, go_sem, hc1, hz1, bodyPostS, results, Try.results100]
    exact ⟨w1, ⟨hB1.os, hB1.tape, hB1.output, hB1.size, hB1.block⟩, rfl⟩
  · rw [h]
    simp [wpOpsS, go_sem, recoverD, hu, Try.ntmps100, Exit.thenS, hd]
    refine (stop_nil x w.drew).mono ?_
    rintro e w1 ⟨rfl, hB1⟩
    have hc1 : w1.cell? q = some y := (hB1.cell hql).trans hq
    have hz1 : w1.frozen? q = false := (hB1.frozen hql).trans hz
    refine wpS_cond (t := true) (by simp [Act.eval, Array.replicate]) ?_
    simp only [if_true]
    apply wpS_region
    simp [wpOpsS, go_sem, hc1, hz1, bodyPostS, results, Try.results100]
    exact ⟨w1, ⟨hB1.os, hB1.tape, hB1.output, hB1.size, hB1.block⟩, rfl⟩
set_option maxHeartbeats 1000000 in
theorem catchN119 (p q : Addr) (x : Int) (y : Value) (older : List PanicEntry) (w : World) (hp : w.cell? p = some (.pointer none)) (hq : w.cell? q = some y) (hz : w.frozen? q = false) :
    CallsD Try.prog 119 #[.pointer (some p), .pointer (some q)] (.panicking ({ v := .iface 151 (.agg #[.int .i64 x]), recovered := false } :: older)) w fun e u' w' =>
      e = .returned (.tuple #[]) ∧ u' = .panicking ({ v := .iface 151 (.agg #[.int .i64 x]), recovered := true } :: older) ∧ ∃ w1, Below w.heap.size w w1 ∧ w' = w1.setCell q (.int .u8 0) := by
  refine callsD_of_wpS Try.func119 rfl fun c₀ cs hu => ?_
  apply wpS_seq
  apply wpS_region_draw
  intro t
  rw [mixed]
  have hd : w.drew.cell? p = some (.pointer none) := hp
  have hql : q.block < w.heap.size := World.block_lt_of_cell? w _ hq
  rcases sched3 (by kernel_rfl) (by kernel_rfl) (by kernel_rfl) (by kernel_rfl) (by kernel_rfl) (by kernel_rfl) t with h | h
  · rw [h]
    simp [wpOpsS, go_sem, recoverD, hu, Try.ntmps119, Exit.thenS, hd]
    refine (stop_nil x w.drew).mono ?_
    rintro e w1 ⟨rfl, hB1⟩
    have hc1 : w1.cell? q = some y := (hB1.cell hql).trans hq
    have hz1 : w1.frozen? q = false := (hB1.frozen hql).trans hz
    refine wpS_cond (t := true) (by simp [Act.eval, Array.replicate]) ?_
    simp only [if_true]
    apply wpS_region
    simp [wpOpsS, go_sem, hc1, hz1, bodyPostS, results, Try.results119]
    exact ⟨w1, ⟨hB1.os, hB1.tape, hB1.output, hB1.size, hB1.block⟩, rfl⟩
  · rw [h]
    simp [wpOpsS, go_sem, recoverD, hu, Try.ntmps119, Exit.thenS, hd]
    refine (stop_nil x w.drew).mono ?_
    rintro e w1 ⟨rfl, hB1⟩
    have hc1 : w1.cell? q = some y := (hB1.cell hql).trans hq
    have hz1 : w1.frozen? q = false := (hB1.frozen hql).trans hz
    refine wpS_cond (t := true) (by simp [Act.eval, Array.replicate]) ?_
    simp only [if_true]
    apply wpS_region
    simp [wpOpsS, go_sem, hc1, hz1, bodyPostS, results, Try.results119]
    exact ⟨w1, ⟨hB1.os, hB1.tape, hB1.output, hB1.size, hB1.block⟩, rfl⟩
set_option maxHeartbeats 1000000 in
theorem varintN (most : Int) (w : World) :
    Calls Try.prog 48 #[.pointer none, .int .u64 most] w fun e w' => e = .returned (.int .u64 0) ∧ Below w.heap.size w w' := by
  have hmf : ∀ (fn : Fn) (first cap : Array Value) (w : World), (Instr.makeFunc fn first cap).run Try.prog w = .ok (.func fn first cap) w := fun _ _ _ _ => rfl
  go_enter_defers Try.func48, Try.ntmps48
  obtain ⟨hn1, hn2⟩ := two_new w (.cells #[.pointer none] 52) (.cells #[.int .u64 0] 27)
  have HN := Lib.hid (And.intro hn1 hn2)
  clear hn1 hn2
  go_wp2_with (go_at_call 95; refine (number_nil most _).mono ?_; rintro e w1 ⟨rfl, rfl⟩)
  refine leaves_cons (f := 93) (args := #[.pointer (some ⟨w.heap.size, 0, none⟩), .pointer (some ⟨w.heap.size + 1, 0, none⟩)]) (by simp) (by simp [go_sem]) ?_
  refine (catchN93 ⟨w.heap.size, 0, none⟩ ⟨w.heap.size + 1, 0, none⟩ 2 (.int .u64 0) [] _ ?_ ?_ ?_).mono ?_
  · exact blk_cell HN.out.1 0 rfl
  · exact blk_cell HN.out.2 0 rfl
  · exact blk_free HN.out.2 0
  rintro e u' w'' ⟨rfl, rfl, w1, hB1, rfl⟩
  have hb4 : w1.heap[w.heap.size + 1]? = _ := (hB1.block _ (lt_of_block HN.out.2)).trans HN.out.2
  have hc4 : (w1.setCell ⟨w.heap.size + 1, 0, none⟩ (.int .u64 0)).cell? ⟨w.heap.size + 1, 0, none⟩ = some (.int .u64 0) := blk_cell (blk_set hb4 0 _) 0 rfl
  have hB2 : Below w.heap.size w w1 := below_to ((below_alloc1 w _).alloc (by simp) _) (by simp; omega) hB1
  simp [Leaves, settle, results, Try.results48, go_sem, hc4]
  exact hB2.setCell (by simp) _
set_option maxHeartbeats 1000000 in
theorem signedN (w : World) :
    Calls Try.prog 49 #[.pointer none] w fun e w' => e = .returned (.int .i64 0) ∧ Below w.heap.size w w' := by
  have hmf : ∀ (fn : Fn) (first cap : Array Value) (w : World), (Instr.makeFunc fn first cap).run Try.prog w = .ok (.func fn first cap) w := fun _ _ _ _ => rfl
  go_enter_defers Try.func49, Try.ntmps49
  obtain ⟨hn1, hn2⟩ := two_new w (.cells #[.pointer none] 52) (.cells #[.int .i64 0] 2)
  have HN := Lib.hid (And.intro hn1 hn2)
  clear hn1 hn2
  go_wp2_with (go_at_call 95; refine (number_nil 18446744073709551615 _).mono ?_; rintro e w1 ⟨rfl, rfl⟩)
  refine leaves_cons (f := 96) (args := #[.pointer (some ⟨w.heap.size, 0, none⟩), .pointer (some ⟨w.heap.size + 1, 0, none⟩)]) (by simp) (by simp [go_sem]) ?_
  refine (catchN96 ⟨w.heap.size, 0, none⟩ ⟨w.heap.size + 1, 0, none⟩ 2 (.int .i64 0) [] _ ?_ ?_ ?_).mono ?_
  · exact blk_cell HN.out.1 0 rfl
  · exact blk_cell HN.out.2 0 rfl
  · exact blk_free HN.out.2 0
  rintro e u' w'' ⟨rfl, rfl, w1, hB1, rfl⟩
  have hb4 : w1.heap[w.heap.size + 1]? = _ := (hB1.block _ (lt_of_block HN.out.2)).trans HN.out.2
  have hc4 : (w1.setCell ⟨w.heap.size + 1, 0, none⟩ (.int .i64 0)).cell? ⟨w.heap.size + 1, 0, none⟩ = some (.int .i64 0) := blk_cell (blk_set hb4 0 _) 0 rfl
  have hB2 : Below w.heap.size w w1 := below_to ((below_alloc1 w _).alloc (by simp) _) (by simp; omega) hB1
  simp [Leaves, settle, results, Try.results49, go_sem, hc4]
  exact hB2.setCell (by simp) _
set_option maxHeartbeats 1000000 in
theorem fixed32N (w : World) :
    Calls Try.prog 50 #[.pointer none] w fun e w' => e = .returned (.int .u32 0) ∧ Below w.heap.size w w' := by
  have hmf : ∀ (fn : Fn) (first cap : Array Value) (w : World), (Instr.makeFunc fn first cap).run Try.prog w = .ok (.func fn first cap) w := fun _ _ _ _ => rfl
  go_enter_defers Try.func50, Try.ntmps50
  obtain ⟨hn1, hn2⟩ := two_new w (.cells #[.pointer none] 52) (.cells #[.int .u32 0] 46)
  have HN := Lib.hid (And.intro hn1 hn2)
  clear hn1 hn2
  go_wp2_with (go_at_call 98; refine (low_nil 4 _ (by omega)).mono ?_; rintro e w1 ⟨rfl, rfl⟩)
  refine leaves_cons (f := 97) (args := #[.pointer (some ⟨w.heap.size, 0, none⟩), .pointer (some ⟨w.heap.size + 1, 0, none⟩)]) (by simp) (by simp [go_sem]) ?_
  refine (catchN97 ⟨w.heap.size, 0, none⟩ ⟨w.heap.size + 1, 0, none⟩ 2 (.int .u32 0) [] _ ?_ ?_ ?_).mono ?_
  · exact blk_cell HN.out.1 0 rfl
  · exact blk_cell HN.out.2 0 rfl
  · exact blk_free HN.out.2 0
  rintro e u' w'' ⟨rfl, rfl, w1, hB1, rfl⟩
  have hb4 : w1.heap[w.heap.size + 1]? = _ := (hB1.block _ (lt_of_block HN.out.2)).trans HN.out.2
  have hc4 : (w1.setCell ⟨w.heap.size + 1, 0, none⟩ (.int .u32 0)).cell? ⟨w.heap.size + 1, 0, none⟩ = some (.int .u32 0) := blk_cell (blk_set hb4 0 _) 0 rfl
  have hB2 : Below w.heap.size w w1 := below_to ((below_alloc1 w _).alloc (by simp) _) (by simp; omega) hB1
  simp [Leaves, settle, results, Try.results50, go_sem, hc4]
  exact hB2.setCell (by simp) _
set_option maxHeartbeats 1000000 in
theorem fixed64N (w : World) :
    Calls Try.prog 51 #[.pointer none] w fun e w' => e = .returned (.int .u64 0) ∧ Below w.heap.size w w' := by
  have hmf : ∀ (fn : Fn) (first cap : Array Value) (w : World), (Instr.makeFunc fn first cap).run Try.prog w = .ok (.func fn first cap) w := fun _ _ _ _ => rfl
  go_enter_defers Try.func51, Try.ntmps51
  obtain ⟨hn1, hn2⟩ := two_new w (.cells #[.pointer none] 52) (.cells #[.int .u64 0] 27)
  have HN := Lib.hid (And.intro hn1 hn2)
  clear hn1 hn2
  go_wp2_with (go_at_call 98; refine (low_nil 8 _ (by omega)).mono ?_; rintro e w1 ⟨rfl, rfl⟩)
  refine leaves_cons (f := 99) (args := #[.pointer (some ⟨w.heap.size, 0, none⟩), .pointer (some ⟨w.heap.size + 1, 0, none⟩)]) (by simp) (by simp [go_sem]) ?_
  refine (catchN99 ⟨w.heap.size, 0, none⟩ ⟨w.heap.size + 1, 0, none⟩ 2 (.int .u64 0) [] _ ?_ ?_ ?_).mono ?_
  · exact blk_cell HN.out.1 0 rfl
  · exact blk_cell HN.out.2 0 rfl
  · exact blk_free HN.out.2 0
  rintro e u' w'' ⟨rfl, rfl, w1, hB1, rfl⟩
  have hb4 : w1.heap[w.heap.size + 1]? = _ := (hB1.block _ (lt_of_block HN.out.2)).trans HN.out.2
  have hc4 : (w1.setCell ⟨w.heap.size + 1, 0, none⟩ (.int .u64 0)).cell? ⟨w.heap.size + 1, 0, none⟩ = some (.int .u64 0) := blk_cell (blk_set hb4 0 _) 0 rfl
  have hB2 : Below w.heap.size w w1 := below_to ((below_alloc1 w _).alloc (by simp) _) (by simp; omega) hB1
  simp [Leaves, settle, results, Try.results51, go_sem, hc4]
  exact hB2.setCell (by simp) _
set_option maxHeartbeats 1000000 in
theorem byteN (w : World) :
    Calls Try.prog 92 #[.pointer none] w fun e w' => e = .returned (.int .u8 0) ∧ Below w.heap.size w w' := by
  have hmf : ∀ (fn : Fn) (first cap : Array Value) (w : World), (Instr.makeFunc fn first cap).run Try.prog w = .ok (.func fn first cap) w := fun _ _ _ _ => rfl
  go_enter_defers Try.func92, Try.ntmps92
  obtain ⟨hn1, hn2⟩ := two_new w (.cells #[.pointer none] 52) (.cells #[.int .u8 0] 5)
  have HN := Lib.hid (And.intro hn1 hn2)
  clear hn1 hn2
  go_wp2_with (go_at_call 98; refine (low_nil 1 _ (by omega)).mono ?_; rintro e w1 ⟨rfl, rfl⟩)
  refine leaves_cons (f := 119) (args := #[.pointer (some ⟨w.heap.size, 0, none⟩), .pointer (some ⟨w.heap.size + 1, 0, none⟩)]) (by simp) (by simp [go_sem]) ?_
  refine (catchN119 ⟨w.heap.size, 0, none⟩ ⟨w.heap.size + 1, 0, none⟩ 2 (.int .u8 0) [] _ ?_ ?_ ?_).mono ?_
  · exact blk_cell HN.out.1 0 rfl
  · exact blk_cell HN.out.2 0 rfl
  · exact blk_free HN.out.2 0
  rintro e u' w'' ⟨rfl, rfl, w1, hB1, rfl⟩
  have hb4 : w1.heap[w.heap.size + 1]? = _ := (hB1.block _ (lt_of_block HN.out.2)).trans HN.out.2
  have hc4 : (w1.setCell ⟨w.heap.size + 1, 0, none⟩ (.int .u8 0)).cell? ⟨w.heap.size + 1, 0, none⟩ = some (.int .u8 0) := blk_cell (blk_set hb4 0 _) 0 rfl
  have hB2 : Below w.heap.size w w1 := below_to ((below_alloc1 w _).alloc (by simp) _) (by simp; omega) hB1
  simp [Leaves, settle, results, Try.results92, go_sem, hc4]
  exact hB2.setCell (by simp) _
set_option maxHeartbeats 1000000 in
theorem stringN (most : Int) (m0 : -9223372036854775808 ≤ most) (m1 : most ≤ 9223372036854775807) (w : World) :
    Calls Try.prog 52 #[.pointer none, .int .i64 most] w fun e w' => e = .returned (.slice none 0 0) ∧ Below w.heap.size w w' := by
  have hmf : ∀ (fn : Fn) (first cap : Array Value) (w : World), (Instr.makeFunc fn first cap).run Try.prog w = .ok (.func fn first cap) w := fun _ _ _ _ => rfl
  obtain ⟨x, hx, hv⟩ : ∃ x : Int, x ≠ 0 ∧ rsI [] most = ([], 0, x) := by
    by_cases h : most < 0
    · exact ⟨1, by omega, by simp [rsI, h]⟩
    · exact ⟨2, by omega, by simp [rsI, h, rvI_nil]⟩
  have HX := Lib.hid hx
  have HV := Lib.hid hv
  clear hx hv
  go_enter_defers Try.func52, Try.ntmps52
  obtain ⟨hn1, hn2⟩ := two_new w (.cells #[.pointer none] 52) (.cells #[.slice none 0 0] 25)
  have HN := Lib.hid (And.intro hn1 hn2)
  clear hn1 hn2
  go_wp2_with (first | (go_at_call 101; refine (rest_nil _).mono ?_; rintro e w1 ⟨rfl, rfl⟩) | (go_at_call 24; refine (rstr_any none 0 0 [] most _ (RB_nil _) (by omega) m0 m1).mono ?_; rw [HV.out]; rintro e w3 ⟨v3, rfl, hO3, hw3⟩; obtain ⟨A4, n4, c4, rfl, hc4, hb4⟩ := hO3.readN (by intro y hy; simp at hy) (by simp); clear hO3; have hp3 : w3.heap[w.heap.size]? = _ := (hw3.block _ (lt_of_block HN.out.1)).trans HN.out.1; have hq3 : w3.heap[w.heap.size + 1]? = _ := (hw3.block _ (lt_of_block HN.out.2)).trans HN.out.2; have HB := Lib.hid (And.intro hp3 hq3); have ca := blk_cell hp3 0 rfl; have cb := blk_cell hq3 0 rfl; have cc := blk_free hq3 0; clear hp3 hq3; have cd : (w3.setCell ⟨w.heap.size + 1, 0, none⟩ (.slice A4 n4 c4)).cell? ⟨w.heap.size, 0, none⟩ = some (.pointer none) := blk_cell (blk_set_ne HB.out.1 0 _ (by omega)) 0 rfl) | (go_at_call 102; refine (took_nil 0 x _ HX.out).mono ?_; rintro e w4 ⟨rfl, rfl⟩))
  refine leaves_cons (f := 100) (args := #[.pointer (some ⟨w.heap.size, 0, none⟩), .pointer (some ⟨w.heap.size + 1, 0, none⟩)]) (by simp) (by simp [go_sem]) ?_
  refine (catchN100 ⟨w.heap.size, 0, none⟩ ⟨w.heap.size + 1, 0, none⟩ x (.slice A4 n4 c4) [] _ ?_ ?_ ?_).mono ?_
  · exact cd
  · exact blk_cell (blk_set HB.out.2 0 _) 0 rfl
  · exact blk_free (blk_set HB.out.2 0 _) 0
  rintro e u' w'' ⟨rfl, rfl, w5, hB5, rfl⟩
  have hq5 : w5.heap[w.heap.size + 1]? = _ := (hB5.block _ (lt_of_block (blk_set HB.out.2 0 (.slice A4 n4 c4)))).trans (blk_set HB.out.2 0 (.slice A4 n4 c4))
  have hc4 : (w5.setCell ⟨w.heap.size + 1, 0, none⟩ (.slice none 0 0)).cell? ⟨w.heap.size + 1, 0, none⟩ = some (.slice none 0 0) := blk_cell (blk_set hq5 0 _) 0 rfl
  have g1 : Below w.heap.size w w3 := below_to ((below_alloc1 w _).alloc (by simp) _) (by simp; omega) hw3
  have g2 := below_to (g1.setCell (p := ⟨w.heap.size + 1, 0, none⟩) (by simp) (.slice A4 n4 c4)) (by have := g1.size; simp [World.setCell]; omega) hB5
  simp [Leaves, settle, results, Try.results52, go_sem, hc4]
  exact g2.setCell (by simp) _
end Go.Proofs.Ythggicgbcgeggaa
