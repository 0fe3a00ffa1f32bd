/- Walks: the other deferred closures of the reader; low where the bytes are there; number where it stops. -/
import Derived.Test.YthggicgbcgeggaaV6
set_option linter.unusedVariables false
set_option linter.unusedSimpArgs false
namespace Go.Proofs.Ythggicgbcgeggaa
open Go.RowKit
set_option maxHeartbeats 1000000 in
theorem catch96 (p q : Addr) (g : Nat) (s : Value) (pp bb x : Int) (y : Value) (older : List PanicEntry) (w : World) (hp : w.cell? p = some (.pointer (some ⟨g, 0, none⟩))) (hr : RD w g s pp bb)
    (hq : w.cell? q = some y) (hz : w.frozen? q = false) (hqg : q.block ≠ g) :
    CallsD Try.prog 96 #[.pointer (some p), .pointer (some q)] (.panicking ({ v := .iface 151 (.agg #[.int .i64 x]), recovered := false } :: older)) w fun e u' w' =>
      e = .returned (.tuple #[]) ∧ u' = .panicking ({ v := .iface 151 (.agg #[.int .i64 x]), recovered := true } :: older) ∧ ∃ w1, w.grownBy w1 (some g) ∧ RD w1 g s pp x ∧ w' = w1.setCell q (.int .i64 0) := by
  refine callsD_of_wpS Try.func96 rfl fun c₀ cs hu => ?_
  apply wpS_seq
  apply wpS_region_draw
  intro t
  rw [mixed]
  have hd : w.drew.cell? p = some (.pointer (some ⟨g, 0, none⟩)) := hp
  have hql : q.block < w.heap.size := World.block_lt_of_cell? w _ hq
  rcases sched3 (by kernel_rfl) (by kernel_rfl) (by kernel_rfl) (by kernel_rfl) (by kernel_rfl) (by kernel_rfl) t with h | h
  · rw [h]
    simp [wpOpsS, go_sem, recoverD, hu, Try.ntmps96, Exit.thenS, hd]
    refine (stop_yes g s pp bb x w.drew hr).mono ?_
    rintro e w1 ⟨rfl, hr1, hg1⟩
    have hc1 : w1.cell? q = some y := by rw [World.cell?_of_block (hg1.block _ hql (fun e => hqg (Option.some.inj e)))]; exact hq
    have hz1 : w1.frozen? q = false := by rw [World.frozen?_of_block (hg1.block _ hql (fun e => hqg (Option.some.inj e)))]; exact hz
    refine wpS_cond (t := true) (by simp [Act.eval, Array.replicate]) ?_
    simp only [if_true]
    apply wpS_region
    simp [wpOpsS, go_sem, hc1, hz1, bodyPostS, results, Try.results96]
    exact ⟨w1, ⟨hg1.os, hg1.tape, hg1.output, hg1.size, hg1.block⟩, hr1, rfl⟩
  · rw [h]
    simp [wpOpsS, go_sem, recoverD, hu, Try.ntmps96, Exit.thenS, hd]
    refine (stop_yes g s pp bb x w.drew hr).mono ?_
    rintro e w1 ⟨rfl, hr1, hg1⟩
    have hc1 : w1.cell? q = some y := by rw [World.cell?_of_block (hg1.block _ hql (fun e => hqg (Option.some.inj e)))]; exact hq
    have hz1 : w1.frozen? q = false := by rw [World.frozen?_of_block (hg1.block _ hql (fun e => hqg (Option.some.inj e)))]; exact hz
    refine wpS_cond (t := true) (by simp [Act.eval, Array.replicate]) ?_
    simp only [if_true]
    apply wpS_region
    simp [wpOpsS, go_sem, hc1, hz1, bodyPostS, results, Try.results96]
    exact ⟨w1, ⟨hg1.os, hg1.tape, hg1.output, hg1.size, hg1.block⟩, hr1, rfl⟩
theorem idle96 (p q : Addr) (v : Value) (w : World) (hp : w.cell? p = some v) :
    CallsD Try.prog 96 #[.pointer (some p), .pointer (some q)] .returning w fun e u' w' => e = .returned (.tuple #[]) ∧ u' = .returning ∧ w' = w.drew := by
  refine callsD_of_wpS Try.func96 rfl fun c₀ cs hu => ?_
  apply wpS_seq
  apply wpS_region_draw
  intro t
  rw [mixed]
  have hd : w.drew.cell? p = some v := hp
  rcases sched3 (by kernel_rfl) (by kernel_rfl) (by kernel_rfl) (by kernel_rfl) (by kernel_rfl) (by kernel_rfl) t with h | h
  · rw [h]
    simp [wpOpsS, go_sem, recoverD, hu, Try.ntmps96, Exit.thenS, hd]
    refine (stop_no _ w.drew).mono ?_
    rintro e w1 ⟨rfl, rfl⟩
    refine wpS_cond (t := false) (by simp [Act.eval, Array.replicate]) ?_
    simp only [Bool.false_eq_true, if_false]
    refine wpS_of_wp (wp_skip ?_)
    cases c₀
    simp_all [bodyPostS, results, Try.results96]
  · rw [h]
    simp [wpOpsS, go_sem, recoverD, hu, Try.ntmps96, Exit.thenS, hd]
    refine (stop_no _ w.drew).mono ?_
    rintro e w1 ⟨rfl, rfl⟩
    refine wpS_cond (t := false) (by simp [Act.eval, Array.replicate]) ?_
    simp only [Bool.false_eq_true, if_false]
    refine wpS_of_wp (wp_skip ?_)
    cases c₀
    simp_all [bodyPostS, results, Try.results96]
set_option maxHeartbeats 1000000 in
theorem catch99 (p q : Addr) (g : Nat) (s : Value) (pp bb x : Int) (y : Value) (older : List PanicEntry) (w : World) (hp : w.cell? p = some (.pointer (some ⟨g, 0, none⟩))) (hr : RD w g s pp bb)
    (hq : w.cell? q = some y) (hz : w.frozen? q = false) (hqg : q.block ≠ g) :
    CallsD Try.prog 99 #[.pointer (some p), .pointer (some q)] (.panicking ({ v := .iface 151 (.agg #[.int .i64 x]), recovered := false } :: older)) w fun e u' w' =>
      e = .returned (.tuple #[]) ∧ u' = .panicking ({ v := .iface 151 (.agg #[.int .i64 x]), recovered := true } :: older) ∧ ∃ w1, w.grownBy w1 (some g) ∧ RD w1 g s pp x ∧ w' = w1.setCell q (.int .u64 0) := by
  refine callsD_of_wpS Try.func99 rfl fun c₀ cs hu => ?_
  apply wpS_seq
  apply wpS_region_draw
  intro t
  rw [mixed]
  have hd : w.drew.cell? p = some (.pointer (some ⟨g, 0, none⟩)) := hp
  have hql : q.block < w.heap.size := World.block_lt_of_cell? w _ hq
  rcases sched3 (by kernel_rfl) (by kernel_rfl) (by kernel_rfl) (by kernel_rfl) (by kernel_rfl) (by kernel_rfl) t with h | h
  · rw [h]
    simp [wpOpsS, go_sem, recoverD, hu, Try.ntmps99, Exit.thenS, hd]
    refine (stop_yes g s pp bb x w.drew hr).mono ?_
    rintro e w1 ⟨rfl, hr1, hg1⟩
    have hc1 : w1.cell? q = some y := by rw [World.cell?_of_block (hg1.block _ hql (fun e => hqg (Option.some.inj e)))]; exact hq
    have hz1 : w1.frozen? q = false := by rw [World.frozen?_of_block (hg1.block _ hql (fun e => hqg (Option.some.inj e)))]; exact hz
    refine wpS_cond (t := true) (by simp [Act.eval, Array.replicate]) ?_
    simp only [if_true]
    apply wpS_region
    simp [wpOpsS, go_sem, hc1, hz1, bodyPostS, results, Try.results99]
    exact ⟨w1, ⟨hg1.os, hg1.tape, hg1.output, hg1.size, hg1.block⟩, hr1, rfl⟩
  · rw [h]
    simp [wpOpsS, go_sem, recoverD, hu, Try.ntmps99, Exit.thenS, hd]
    refine (stop_yes g s pp bb x w.drew hr).mono ?_
    rintro e w1 ⟨rfl, hr1, hg1⟩
    have hc1 : w1.cell? q = some y := by rw [World.cell?_of_block (hg1.block _ hql (fun e => hqg (Option.some.inj e)))]; exact hq
    have hz1 : w1.frozen? q = false := by rw [World.frozen?_of_block (hg1.block _ hql (fun e => hqg (Option.some.inj e)))]; exact hz
    refine wpS_cond (t := true) (by simp [Act.eval, Array.replicate]) ?_
    simp only [if_true]
    apply wpS_region
    simp [wpOpsS, go_sem, hc1, hz1, bodyPostS, results, Try.results99]
    exact ⟨w1, ⟨hg1.os, hg1.tape, hg1.output, hg1.size, hg1.block⟩, hr1, rfl⟩
theorem idle99 (p q : Addr) (v : Value) (w : World) (hp : w.cell? p = some v) :
    CallsD Try.prog 99 #[.pointer (some p), .pointer (some q)] .returning w fun e u' w' => e = .returned (.tuple #[]) ∧ u' = .returning ∧ w' = w.drew := by
  refine callsD_of_wpS Try.func99 rfl fun c₀ cs hu => ?_
  apply wpS_seq
  apply wpS_region_draw
  intro t
  rw [mixed]
  have hd : w.drew.cell? p = some v := hp
  rcases sched3 (by kernel_rfl) (by kernel_rfl) (by kernel_rfl) (by kernel_rfl) (by kernel_rfl) (by kernel_rfl) t with h | h
  · rw [h]
    simp [wpOpsS, go_sem, recoverD, hu, Try.ntmps99, Exit.thenS, hd]
    refine (stop_no _ w.drew).mono ?_
    rintro e w1 ⟨rfl, rfl⟩
    refine wpS_cond (t := false) (by simp [Act.eval, Array.replicate]) ?_
    simp only [Bool.false_eq_true, if_false]
    refine wpS_of_wp (wp_skip ?_)
    cases c₀
    simp_all [bodyPostS, results, Try.results99]
  · rw [h]
    simp [wpOpsS, go_sem, recoverD, hu, Try.ntmps99, Exit.thenS, hd]
    refine (stop_no _ w.drew).mono ?_
    rintro e w1 ⟨rfl, rfl⟩
    refine wpS_cond (t := false) (by simp [Act.eval, Array.replicate]) ?_
    simp only [Bool.false_eq_true, if_false]
    refine wpS_of_wp (wp_skip ?_)
    cases c₀
    simp_all [bodyPostS, results, Try.results99]
set_option maxHeartbeats 1000000 in
theorem catch100 (p q : Addr) (g : Nat) (s : Value) (pp bb x : Int) (y : Value) (older : List PanicEntry) (w : World) (hp : w.cell? p = some (.pointer (some ⟨g, 0, none⟩))) (hr : RD w g s pp bb)
    (hq : w.cell? q = some y) (hz : w.frozen? q = false) (hqg : q.block ≠ g) :
    CallsD Try.prog 100 #[.pointer (some p), .pointer (some q)] (.panicking ({ v := .iface 151 (.agg #[.int .i64 x]), recovered := false } :: older)) w fun e u' w' =>
      e = .returned (.tuple #[]) ∧ u' = .panicking ({ v := .iface 151 (.agg #[.int .i64 x]), recovered := true } :: older) ∧ ∃ w1, w.grownBy w1 (some g) ∧ RD w1 g s pp x ∧ w' = w1.setCell q (.slice none 0 0) := by
  refine callsD_of_wpS Try.func100 rfl fun c₀ cs hu => ?_
  apply wpS_seq
  apply wpS_region_draw
  intro t
  rw [mixed]
  have hd : w.drew.cell? p = some (.pointer (some ⟨g, 0, none⟩)) := hp
  have hql : q.block < w.heap.size := World.block_lt_of_cell? w _ hq
  rcases sched3 (by kernel_rfl) (by kernel_rfl) (by kernel_rfl) (by kernel_rfl) (by kernel_rfl) (by kernel_rfl) t with h | h
  · rw [h]
    simp [wpOpsS, go_sem, recoverD, hu, Try.ntmps100, Exit.thenS, hd]
    refine (stop_yes g s pp bb x w.drew hr).mono ?_
    rintro e w1 ⟨rfl, hr1, hg1⟩
    have hc1 : w1.cell? q = some y := by rw [World.cell?_of_block (hg1.block _ hql (fun e => hqg (Option.some.inj e)))]; exact hq
    have hz1 : w1.frozen? q = false := by rw [World.frozen?_of_block (hg1.block _ hql (fun e => hqg (Option.some.inj e)))]; exact hz
    refine wpS_cond (t := true) (by simp [Act.eval, Array.replicate]) ?_
    simp only [if_true]
    apply wpS_region
    simp [wpOpsS, go_sem, hc1, hz1, bodyPostS, results, Try.results100]
    exact ⟨w1, ⟨hg1.os, hg1.tape, hg1.output, hg1.size, hg1.block⟩, hr1, rfl⟩
  · rw [h]
    simp [wpOpsS, go_sem, recoverD, hu, Try.ntmps100, Exit.thenS, hd]
    refine (stop_yes g s pp bb x w.drew hr).mono ?_
    rintro e w1 ⟨rfl, hr1, hg1⟩
    have hc1 : w1.cell? q = some y := by rw [World.cell?_of_block (hg1.block _ hql (fun e => hqg (Option.some.inj e)))]; exact hq
    have hz1 : w1.frozen? q = false := by rw [World.frozen?_of_block (hg1.block _ hql (fun e => hqg (Option.some.inj e)))]; exact hz
    refine wpS_cond (t := true) (by simp [Act.eval, Array.replicate]) ?_
    simp only [if_true]
    apply wpS_region
    simp [wpOpsS, go_sem, hc1, hz1, bodyPostS, results, Try.results100]
    exact ⟨w1, ⟨hg1.os, hg1.tape, hg1.output, hg1.size, hg1.block⟩, hr1, rfl⟩
theorem idle100 (p q : Addr) (v : Value) (w : World) (hp : w.cell? p = some v) :
    CallsD Try.prog 100 #[.pointer (some p), .pointer (some q)] .returning w fun e u' w' => e = .returned (.tuple #[]) ∧ u' = .returning ∧ w' = w.drew := by
  refine callsD_of_wpS Try.func100 rfl fun c₀ cs hu => ?_
  apply wpS_seq
  apply wpS_region_draw
  intro t
  rw [mixed]
  have hd : w.drew.cell? p = some v := hp
  rcases sched3 (by kernel_rfl) (by kernel_rfl) (by kernel_rfl) (by kernel_rfl) (by kernel_rfl) (by kernel_rfl) t with h | h
  · rw [h]
    simp [wpOpsS, go_sem, recoverD, hu, Try.ntmps100, Exit.thenS, hd]
    refine (stop_no _ w.drew).mono ?_
    rintro e w1 ⟨rfl, rfl⟩
    refine wpS_cond (t := false) (by simp [Act.eval, Array.replicate]) ?_
    simp only [Bool.false_eq_true, if_false]
    refine wpS_of_wp (wp_skip ?_)
    cases c₀
    simp_all [bodyPostS, results, Try.results100]
  · rw [h]
    simp [wpOpsS, go_sem, recoverD, hu, Try.ntmps100, Exit.thenS, hd]
    refine (stop_no _ w.drew).mono ?_
    rintro e w1 ⟨rfl, rfl⟩
    refine wpS_cond (t := false) (by simp [Act.eval, Array.replicate]) ?_
    simp only [Bool.false_eq_true, if_false]
    refine wpS_of_wp (wp_skip ?_)
    cases c₀
    simp_all [bodyPostS, results, Try.results100]
set_option maxHeartbeats 1000000 in
theorem catch119 (p q : Addr) (g : Nat) (s : Value) (pp bb x : Int) (y : Value) (older : List PanicEntry) (w : World) (hp : w.cell? p = some (.pointer (some ⟨g, 0, none⟩))) (hr : RD w g s pp bb)
    (hq : w.cell? q = some y) (hz : w.frozen? q = false) (hqg : q.block ≠ g) :
    CallsD Try.prog 119 #[.pointer (some p), .pointer (some q)] (.panicking ({ v := .iface 151 (.agg #[.int .i64 x]), recovered := false } :: older)) w fun e u' w' =>
      e = .returned (.tuple #[]) ∧ u' = .panicking ({ v := .iface 151 (.agg #[.int .i64 x]), recovered := true } :: older) ∧ ∃ w1, w.grownBy w1 (some g) ∧ RD w1 g s pp x ∧ w' = w1.setCell q (.int .u8 0) := by
  refine callsD_of_wpS Try.func119 rfl fun c₀ cs hu => ?_
  apply wpS_seq
  apply wpS_region_draw
  intro t
  rw [mixed]
  have hd : w.drew.cell? p = some (.pointer (some ⟨g, 0, none⟩)) := hp
  have hql : q.block < w.heap.size := World.block_lt_of_cell? w _ hq
  rcases sched3 (by kernel_rfl) (by kernel_rfl) (by kernel_rfl) (by kernel_rfl) (by kernel_rfl) (by kernel_rfl) t with h | h
  · rw [h]
    simp [wpOpsS, go_sem, recoverD, hu, Try.ntmps119, Exit.thenS, hd]
    refine (stop_yes g s pp bb x w.drew hr).mono ?_
    rintro e w1 ⟨rfl, hr1, hg1⟩
    have hc1 : w1.cell? q = some y := by rw [World.cell?_of_block (hg1.block _ hql (fun e => hqg (Option.some.inj e)))]; exact hq
    have hz1 : w1.frozen? q = false := by rw [World.frozen?_of_block (hg1.block _ hql (fun e => hqg (Option.some.inj e)))]; exact hz
    refine wpS_cond (t := true) (by simp [Act.eval, Array.replicate]) ?_
    simp only [if_true]
    apply wpS_region
    simp [wpOpsS, go_sem, hc1, hz1, bodyPostS, results, Try.results119]
    exact ⟨w1, ⟨hg1.os, hg1.tape, hg1.output, hg1.size, hg1.block⟩, hr1, rfl⟩
  · rw [h]
    simp [wpOpsS, go_sem, recoverD, hu, Try.ntmps119, Exit.thenS, hd]
    refine (stop_yes g s pp bb x w.drew hr).mono ?_
    rintro e w1 ⟨rfl, hr1, hg1⟩
    have hc1 : w1.cell? q = some y := by rw [World.cell?_of_block (hg1.block _ hql (fun e => hqg (Option.some.inj e)))]; exact hq
    have hz1 : w1.frozen? q = false := by rw [World.frozen?_of_block (hg1.block _ hql (fun e => hqg (Option.some.inj e)))]; exact hz
    refine wpS_cond (t := true) (by simp [Act.eval, Array.replicate]) ?_
    simp only [if_true]
    apply wpS_region
    simp [wpOpsS, go_sem, hc1, hz1, bodyPostS, results, Try.results119]
    exact ⟨w1, ⟨hg1.os, hg1.tape, hg1.output, hg1.size, hg1.block⟩, hr1, rfl⟩
theorem idle119 (p q : Addr) (v : Value) (w : World) (hp : w.cell? p = some v) :
    CallsD Try.prog 119 #[.pointer (some p), .pointer (some q)] .returning w fun e u' w' => e = .returned (.tuple #[]) ∧ u' = .returning ∧ w' = w.drew := by
  refine callsD_of_wpS Try.func119 rfl fun c₀ cs hu => ?_
  apply wpS_seq
  apply wpS_region_draw
  intro t
  rw [mixed]
  have hd : w.drew.cell? p = some v := hp
  rcases sched3 (by kernel_rfl) (by kernel_rfl) (by kernel_rfl) (by kernel_rfl) (by kernel_rfl) (by kernel_rfl) t with h | h
  · rw [h]
    simp [wpOpsS, go_sem, recoverD, hu, Try.ntmps119, Exit.thenS, hd]
    refine (stop_no _ w.drew).mono ?_
    rintro e w1 ⟨rfl, rfl⟩
    refine wpS_cond (t := false) (by simp [Act.eval, Array.replicate]) ?_
    simp only [Bool.false_eq_true, if_false]
    refine wpS_of_wp (wp_skip ?_)
    cases c₀
    simp_all [bodyPostS, results, Try.results119]
  · rw [h]
    simp [wpOpsS, go_sem, recoverD, hu, Try.ntmps119, Exit.thenS, hd]
    refine (stop_no _ w.drew).mono ?_
    rintro e w1 ⟨rfl, rfl⟩
    refine wpS_cond (t := false) (by simp [Act.eval, Array.replicate]) ?_
    simp only [Bool.false_eq_true, if_false]
    refine wpS_of_wp (wp_skip ?_)
    cases c₀
    simp_all [bodyPostS, results, Try.results119]
/-- how number stops: the error -/
def nuE (l : List Int) (most : Int) : Int := if (rvI l).2.2 = 0 then 3 else (rvI l).2.2
set_option maxHeartbeats 400000 in
theorem number_long (g : Nat) (A : Option Addr) (n c : Nat) (l : List Int) (p : Nat) (most x : Int) (j : Nat) (w : World) (hr : RD w g (.slice A n c) p 0) (hl : RB w A n l) (hc : n ≤ c) (hp : p ≤ n) (hv : rvI (l.drop p) = (x, (j : Int), 0)) (hm : most < x) :
    Calls Try.prog 95 #[.pointer (some ⟨g, 0, none⟩), .int .u64 most] w fun e w' => e = .panicked [{ v := .iface 151 (.agg #[.int .i64 3]), recovered := false }] ∧ ∃ k, w' = w.drewN k := by
  go_enter Try.func95, Try.ntmps95
  go_wp2_with (first
    | (go_at_call 101; refine (rest_ok g A n c l p _ hr hl hc hp).mono ?_; rintro e w1 ⟨A', c', k, rfl, hb, hcc, rfl⟩)
    | (go_at_call 22; refine (read_any _ _ _ _ _ (hb.drewN k)).mono ?_; rw [hv]; rintro e w2 ⟨rfl, rfl⟩)
    | (go_at_call 102; refine (took_bad g j 3 (w.drewN k) (by omega)).mono ?_; rintro e w3 ⟨rfl, rfl⟩))
  exact ⟨rfl, rfl, k, rfl⟩
set_option maxHeartbeats 400000 in
theorem number_bad (g : Nat) (A : Option Addr) (n c : Nat) (l : List Int) (p : Nat) (most b : Int) (w : World) (hr : RD w g (.slice A n c) p 0) (hl : RB w A n l) (hc : n ≤ c) (hp : p ≤ n) (hv : rvI (l.drop p) = (0, 0, b)) (hb0 : b ≠ 0) :
    Calls Try.prog 95 #[.pointer (some ⟨g, 0, none⟩), .int .u64 most] w fun e w' => e = .panicked [{ v := .iface 151 (.agg #[.int .i64 b]), recovered := false }] ∧ ∃ k, w' = w.drewN k := by
  have hd : (b == 0) = false := by simpa using hb0
  have HB := Lib.hid hb0
  clear hb0
  go_enter Try.func95, Try.ntmps95
  go_wp2_with (first
    | (go_at_call 101; refine (rest_ok g A n c l p _ hr hl hc hp).mono ?_; rintro e w1 ⟨A', c', k, rfl, hb, hcc, rfl⟩)
    | (go_at_call 22; refine (read_any _ _ _ _ _ (hb.drewN k)).mono ?_; rw [hv]; rintro e w2 ⟨rfl, rfl⟩)
    | (go_at_call 102; refine (took_bad g 0 b (w.drewN k) HB.out).mono ?_; rintro e w3 ⟨rfl, rfl⟩))
  exact ⟨rfl, rfl, k, rfl⟩
end Go.Proofs.Ythggicgbcgeggaa
