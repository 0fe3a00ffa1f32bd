/- Walks: the reader: rest, took, number, low, stop, and the deferred closures. -/
import Derived.Test.YthggicgbcgeggaaV3
import Derived.Defers
import Derived.Recover
import Derived.WalkSmall
set_option linter.unusedVariables false
set_option linter.unusedSimpArgs false
namespace Go.Proofs.Ythggicgbcgeggaa
open Go.RowKit
theorem wpS_region_draw {P : Program} {id : Nat} {ops : Array Oper} {Q : Exit → Act → List Frame → World → Prop} {a : Act} {cs : List Frame} {w : World}
    (h : ∀ t, wpOpsS P ops Q (Region.schedule (P.follows .mixedOrders) ops t) a cs w.drew) : (Code.region id ops true).wpS P Q a cs w :=
  fun b k hb hr => let ⟨e, a', cs', w', q, r⟩ := wp_opsS _ a cs _ (h _) b k hb hr; ⟨e, a', cs', w', q, .of_steps (.one step_region_draw) r⟩
theorem mixed : Try.prog.follows .mixedOrders = true := by kernel_rfl
theorem sched3 {ops : Array Oper} (hs : ops.size = 3) (h0 : Region.ready .any ops (Array.replicate 3 false) = [0, 1]) (h1 : Region.ready .any ops ((Array.replicate 3 false).setIfInBounds 0 true) = [1])
    (h2 : Region.ready .any ops ((Array.replicate 3 false).setIfInBounds 1 true) = [0]) (h3 : Region.ready .any ops (((Array.replicate 3 false).setIfInBounds 0 true).setIfInBounds 1 true) = [2])
    (h4 : Region.ready .any ops (((Array.replicate 3 false).setIfInBounds 1 true).setIfInBounds 0 true) = [2]) (t : Nat) :
    Region.schedule true ops t = [0, 1, 2] ∨ Region.schedule true ops t = [1, 0, 2] := by
  have e : Region.schedule true ops t = Region.linearise.go .any ops 3 t (Array.replicate 3 false) [] := by
    simp only [Region.schedule, Region.linearise, hs, Bool.true_or, if_true]
  rw [e]
  unfold Region.ready at h0 h1 h2 h3 h4
  rcases Nat.mod_two_eq_zero_or_one t with ht | ht
  · left
    simp only [Region.linearise.go, h0, h1, h3, List.length_cons, List.length_nil, Nat.zero_add, Nat.reduceAdd, ht, Nat.mod_one, List.getElem?_cons_zero, List.getElem?_cons_succ, List.reverse_cons, List.reverse_nil, List.nil_append, List.cons_append]
  · right
    simp only [Region.linearise.go, h0, h2, h4, List.length_cons, List.length_nil, Nat.zero_add, Nat.reduceAdd, ht, Nat.mod_one, List.getElem?_cons_zero, List.getElem?_cons_succ, List.reverse_cons, List.reverse_nil, List.nil_append, List.cons_append]
/-- a reader's three cells -/
def RD (w : World) (g : Nat) (s : Value) (p b : Int) : Prop := w.heap[g]? = some (.cells #[s, .int .i64 p, .int .i64 b] 65 (0, 0))
theorem RD.c0 {w : World} {g : Nat} {s : Value} {p b : Int} (h : RD w g s p b) : w.cell? ⟨g, 0, none⟩ = some s := blk_cell h 0 rfl
theorem RD.c1 {w : World} {g : Nat} {s : Value} {p b : Int} (h : RD w g s p b) : w.cell? ⟨g, 1, none⟩ = some (.int .i64 p) := blk_cell h 1 rfl
theorem RD.c2 {w : World} {g : Nat} {s : Value} {p b : Int} (h : RD w g s p b) : w.cell? ⟨g, 2, none⟩ = some (.int .i64 b) := blk_cell h 2 rfl
set_option maxHeartbeats 400000 in
theorem rest_ok (g : Nat) (A : Option Addr) (n c : Nat) (l : List Int) (p : Nat) (w : World) (hr : RD w g (.slice A n c) p 0) (hl : RB w A n l) (hc : n ≤ c) (hp : p ≤ n) :
    Calls Try.prog 101 #[.pointer (some ⟨g, 0, none⟩)] w fun e w' => ∃ A' c' k, e = .returned (.slice A' (n - p) c') ∧ RB w A' (n - p) (l.drop p) ∧ n - p ≤ c' ∧ w' = w.drewN k := by
  have h0 := hr.c0
  have h1 := hr.c1
  have h2 := hr.c2
  have HR := Lib.hid hr
  have p0 : (0 : Int) ≤ (p : Int) := Int.natCast_nonneg _
  have p1 : (p : Int) ≤ (n : Int) := by omega
  have p2 : (p : Int) ≤ (c : Int) := by omega
  have p3 : (n : Int) ≤ (c : Int) := by omega
  have hl2 := Lib.hid hl
  by_cases hpn : p = n
  · have hq : RB w A (n - p) (l.drop p) → ∀ A', RB w A' (n - p) (l.drop p) := fun _ A' => by
      rw [hpn, Nat.sub_self, List.drop_eq_nil_of_le (by rw [hl.len]; exact Nat.le_refl _)]
      exact ⟨rfl, by omega, fun j hj => by omega, BY.nth (fun x hx => by simp at hx)⟩
    have hq2 : ∀ A', RB w A' (n - p) (l.drop p) := fun A' => by
      rw [hpn, Nat.sub_self, List.drop_eq_nil_of_le (by rw [hl.len]; exact Nat.le_refl _)]
      exact ⟨rfl, by omega, fun j hj => by omega, BY.nth (fun x hx => by simp at hx)⟩
    have HQ := Lib.hid hq2
    clear hq hpn hq2
    go_enter Try.func101, Try.ntmps101
    go_wp2_with fail
    go_quiet (fail)
    go_wp2_with fail
    all_goals
      go_ret
      first | exact ⟨_, _, nq, rfl, HQ.out _, by omega, rfl⟩ | exact ⟨_, _, rfl, HQ.out _, by omega, nq, rfl⟩
  · obtain ⟨ad, rfl, -⟩ := hl.cell p (by omega)
    have hs := hl.sub p (n - p) (by omega)
    rw [List.take_of_length_le (by rw [List.length_drop, hl.len]; omega)] at hs
    have hcp : ¬ c = p := by omega
    have HS := Lib.hid hs
    clear hs
    go_enter Try.func101, Try.ntmps101
    go_wp2_with fail
    go_quiet (fail)
    go_wp2_with fail
    go_ret
    first | exact ⟨_, _, nq, rfl, HS.out, by omega, rfl⟩ | exact ⟨_, _, rfl, HS.out, by omega, nq, rfl⟩
theorem grown_setCell {w : World} {g : Nat} (i : Nat) (v : Value) : w.grownBy (w.setCell ⟨g, i, none⟩ v) (some g) := by
  refine ⟨rfl, rfl, rfl, ?_, fun k hk hne => ?_⟩
  · simp [World.setCell]
  · exact heap_setCell_other w _ k v (fun h => hne (by rw [h]))
theorem rest_bad (g : Nat) (s : Value) (p b : Int) (w : World) (hr : RD w g s p b) (hb : b ≠ 0) :
    Calls Try.prog 101 #[.pointer (some ⟨g, 0, none⟩)] w fun e w' => e = .panicked [{ v := .iface 151 (.agg #[.int .i64 b]), recovered := false }] ∧ w' = w := by
  have h2 := hr.c2
  have hd : (b == 0) = false := by simpa using hb
  clear hb
  go_enter Try.func101, Try.ntmps101
  go_wp2_with fail
  exact ⟨rfl, rfl, rfl⟩
theorem took_ok (g : Nat) (s : Value) (p : Int) (n : Int) (w : World) (hr : RD w g s p 0) (h0 : 0 ≤ p) (h1 : 0 ≤ n) (h2 : p + n < 9223372036854775808) :
    Calls Try.prog 102 #[.pointer (some ⟨g, 0, none⟩), .int .i64 n, .int .i64 0] w fun e w' => e = .returned (.tuple #[]) ∧ RD w' g s (p + n) 0 ∧ w.grownBy w' (some g) := by
  have c1 := hr.c1
  have hf := blk_free hr 1
  go_enter Try.func102, Try.ntmps102
  go_wp2_with fail
  go_end0
  exact ⟨rfl, blk_set hr 1 _, grown_setCell 1 _⟩
theorem took_bad (g : Nat) (n b : Int) (w : World) (hb : b ≠ 0) :
    Calls Try.prog 102 #[.pointer (some ⟨g, 0, none⟩), .int .i64 n, .int .i64 b] w fun e w' => e = .panicked [{ v := .iface 151 (.agg #[.int .i64 b]), recovered := false }] ∧ w' = w := by
  have hd : (b == 0) = false := by simpa using hb
  clear hb
  go_enter Try.func102, Try.ntmps102
  go_wp2_with fail
  exact ⟨rfl, rfl, rfl⟩
theorem stop_no (v : Value) (w : World) :
    Calls Try.prog 94 #[v, .nilIface] w fun e w' => e = .returned (.bool false) ∧ w' = w := by
  go_enter Try.func94, Try.ntmps94
  go_wp2_with fail
  go_ret
  exact ⟨rfl, rfl⟩
theorem grown_alloc (w : World) (o : Obj) (r : Option Nat) : w.grownBy (w.alloc o) r := by
  refine ⟨rfl, rfl, rfl, ?_, fun k hk _ => Below.heap_alloc w o k hk⟩
  (show w.heap.size ≤ (w.heap.push o).size; simp)
theorem is_fault (v : Value) (w : World) : (Instr.typeAssert (.iface 151 v) 20 151 true).run Try.prog w = .ok (.tuple #[v, .bool true]) w := by kernel_rfl
set_option maxRecDepth 20000 in
theorem stop_yes (g : Nat) (s : Value) (p b x : Int) (w : World) (hr : RD w g s p b) :
    Calls Try.prog 94 #[.pointer (some ⟨g, 0, none⟩), .iface 151 (.agg #[.int .i64 x])] w fun e w' => e = .returned (.bool true) ∧ RD w' g s p x ∧ w.grownBy w' (some g) := by
  have hr2 : RD (w.alloc (.cells #[.int .i64 x] 151)) g s p b := blk_old hr _
  have c2 := hr2.c2
  have hf := blk_free hr2 2
  have hta := is_fault (.agg #[.int .i64 x])
  go_enter Try.func94, Try.ntmps94
  go_wp2_with fail
  go_ret
  exact ⟨rfl, blk_set hr2 2 _, (grown_alloc w _ _).trans (grown_setCell 2 _)⟩
/-- the reader's bytes keep while its own block turns -/
theorem RB.grown {w w' : World} {g : Nat} {s : Value} {p b : Int} {A : Option Addr} {n : Nat} {l : List Int} (hl : RB w A n l) (hr : RD w g s p b) (hs : ∀ x, s ≠ .int .u8 x) (h : w.grownBy w' (some g)) : RB w' A n l := by
  refine ⟨hl.len, hl.top, fun j hj => ?_, hl.rng⟩
  obtain ⟨ad, rfl, hc⟩ := hl.cell j hj
  refine ⟨ad, rfl, ?_⟩
  have hlt := World.block_lt_of_cell? w _ hc
  have hne : (ad.add j).block ≠ g := by
    intro e
    rcases hx : ad.add j with ⟨bl, o, sp⟩
    rw [hx] at e hc
    simp only at e
    subst e
    unfold RD at hr
    unfold World.cell? at hc
    simp only [hr] at hc
    split at hc
    · cases hc
    · rcases o with _ | _ | _ | o
      · simp at hc; exact hs _ hc
      · simp at hc
      · simp at hc
      · simp at hc
  rw [← hc]
  unfold World.cell?
  rw [h.block _ hlt (fun e => hne (Option.some.inj e))]
end Go.Proofs.Ythggicgbcgeggaa
