/- Walks: catalog.Write's inner function (a number behind the bytes), and what it leaves as it was. -/
import Derived.Test.YthggicgbcgeggaaVLA
import Derived.Test.YthggicgbcgeggaaVK1
import Derived.Test.YthggicgbcgeggaaVW
set_option linter.unusedVariables false
set_option linter.unusedSimpArgs false
namespace Go.Proofs.Ythggicgbcgeggaa
open Go.RowKit
/-- block g was written over, and the row of v grown to that of v'; else all is as it was -/
structure GW (g : Nat) (w w' : World) (v v' : Value) : Prop where
  os : w'.os = w.os
  tape : w'.tape = w.tape
  output : w'.output = w.output
  size : w.heap.size ≤ w'.heap.size
  block : ∀ j, j < w.heap.size → j ≠ g → v.ownBlock ≠ some j → w'.heap[j]? = w.heap[j]?
  own : v'.ownBlock = v.ownBlock ∨ ∃ k, v'.ownBlock = some k ∧ w.heap.size ≤ k
theorem GW.trans {g : Nat} {w w' w'' : World} {v v' v'' : Value} (h : GW g w w' v v') (k : GW g w' w'' v' v'') : GW g w w'' v v'' := by
  refine ⟨k.os.trans h.os, k.tape.trans h.tape, k.output.trans h.output, Nat.le_trans h.size k.size, fun j hj hg hv => ?_, ?_⟩
  · refine (k.block j (Nat.lt_of_lt_of_le hj h.size) hg ?_).trans (h.block j hj hg hv)
    rcases h.own with e | ⟨i, e, hi⟩
    · rw [e]; exact hv
    · rw [e]; intro e2; injection e2; omega
  · rcases k.own with e | ⟨i, e, hi⟩
    · rcases h.own with e2 | ⟨i, e2, hi⟩
      · exact .inl (e.trans e2)
      · exact .inr ⟨i, e.trans e2, hi⟩
    · exact .inr ⟨i, e, Nat.le_trans h.size hi⟩
/-- bytes of the call's own, or those of a full row that is only read -/
def AB (w : World) (B : Nat) (v : Value) (l : List Int) : Prop := OB 5 w B v l ∨ ∃ g0, v = .slice (some ⟨g0, 0, none⟩) l.length l.length ∧ B ≤ g0 ∧ g0 < w.heap.size ∧ RB w (some ⟨g0, 0, none⟩) l.length l
theorem AB.blk {w : World} {B : Nat} {v : Value} {l : List Int} (h : AB w B v l) (k : Nat) (hk : v.ownBlock = some k) : B ≤ k ∧ k < w.heap.size := by
  rcases h with h | ⟨g0, rfl, h1, h2, h3⟩
  · exact own_blk_lt h k hk
  · simp only [Value.ownBlock, Option.some.injEq] at hk; omega
theorem AB.below {w w' : World} {B : Nat} {v : Value} {l : List Int} (h : AB w B v l) (hb : Below w.heap.size w w') : AB w' B v l := by
  rcases h with h | ⟨g0, rfl, h1, h2, h3⟩
  · exact .inl (h.below hb)
  · exact .inr ⟨g0, rfl, h1, Nat.lt_of_lt_of_le h2 hb.size, h3.below hb⟩
theorem AB.read {w : World} {B : Nat} {v : Value} {l : List Int} (h : AB w B v l) (hb : BY l) (hl : l.length ≤ 140737488351232) : ∃ A n c, v = .slice A n c ∧ n ≤ c ∧ RB w A n l := by
  rcases h with h | ⟨g0, rfl, h1, h2, h3⟩
  · exact h.readN hb (by omega)
  · exact ⟨_, _, _, rfl, Nat.le_refl _, h3⟩
theorem run_append_ab {P : Program} (w : World) (B : Nat) (t ty : TypeId) (ht : P.underlying t = some (.slice 5)) (hinfo : (P.info? 5).map (fun i => (i.zero, i.size, i.bytes)) = some (some (.int .u8 0), 1, 1))
    (v : Value) (l : List Int) (h : AB w B v l) (A : Option Addr) (m c : Nat) (ys : List Int) (hr : RB w A m ys) (hm : 1 ≤ m) (hl : l.length + m ≤ 140737488000000) (hB : B ≤ w.heap.size) :
    ∃ v' w', (Builtin.append_ #[t, t] ty #[v, .slice A m c]).run P w = .ok v' w' ∧ OB 5 w' B v' (l ++ ys) ∧ w.grownBy w' v.ownBlock ∧ (v'.ownBlock = v.ownBlock ∨ ∃ k, v'.ownBlock = some k ∧ w.heap.size ≤ k) := by
  rcases h with h | ⟨g0, rfl, h1, h2, h3⟩
  · obtain ⟨v', w', r1, r2, r3, r4⟩ := run_append_rv (P := P) w B t ty 5 (.int .u8 0) 1 1 ht hinfo rfl (by omega) (by omega) v l.length (bys l) h A m c (bys ys) hr.rv (by omega) hB
    refine ⟨v', w', r1, ?_, r3, ?_⟩
    · unfold OB; rw [List.length_append, bys_append, hr.len]; exact r2
    · rcases r4 with e | e
      · exact .inl e
      · exact .inr ⟨_, e, Nat.le_refl _⟩
  · obtain ⟨i0, hi, hzz⟩ := Option.map_eq_some_iff.1 hinfo
    simp only [Prod.mk.injEq] at hzz
    obtain ⟨hz0, hz1, hz2⟩ := hzz
    have hv := h3.rv
    have hy := hr.rv
    rcases A with _ | ad
    · obtain ⟨ad, h, _⟩ := hr.rv.cell 0 (.int .u8 (nth ys 0)) (bys_at ys 0 (by have := hr.len; omega)); cases h
    obtain ⟨v', w', r1, r2, r3⟩ := run_append_arg_grows (P := P) w t ty 5 i0 (.int .u8 0) 1 1 ht hi hz0 hz1 hz2 rfl (by omega) ⟨g0, 0, none⟩ l.length l.length (bys l) hv.len
      (fun j u hu => by obtain ⟨ad', e, hc⟩ := hv.cell j u hu; injection e with e; subst e; exact hc) ad m c (bys ys) hy.len
      (fun j u hu => by obtain ⟨ad', e, hc⟩ := hy.cell j u hu; injection e with e; subst e; exact hc) (by omega) (by simp only [maxLen]; omega) (by omega)
    have hO : OB 5 w' w.heap.size v' (l ++ ys) := by unfold OB; rw [List.length_append, bys_append, hr.len]; exact r2
    refine ⟨v', w', r1, hO.lower hB, ⟨r3.os, r3.tape, r3.output, r3.size, fun k hk _ => r3.block k hk (by simp)⟩, ?_⟩
    obtain ⟨g, cap, rfl, hg, -, -⟩ := own_form hO (by rw [List.length_append, hr.len]; omega)
    exact .inr ⟨g, rfl, hg⟩
/-- the bytes that block g holds (at most m), in memory of the call's own above B -/
structure BX (w : World) (B g : Nat) (v : Value) (l : List Int) (m : Nat) : Prop where
  box : w.heap[g]? = some (.cells #[v] 25 (0, 0))
  own : AB w B v l
  ne : v.ownBlock ≠ some g
  by_ : BY l
  le : B ≤ g
  len : l.length ≤ m
theorem BX.base {w : World} {B g m : Nat} {v : Value} {l : List Int} (h : BX w B g v l m) : B ≤ w.heap.size := Nat.le_trans h.le (Nat.le_of_lt (lt_of_block h.box))
theorem GW.below {g B m : Nat} {w w' : World} {v v' : Value} {l : List Int} (h : GW g w w' v v') (b : BX w B g v l m) : Below B w w' :=
  ⟨h.os, h.tape, h.output, h.size, fun k hk => h.block k (by have := b.base; omega) (by have := b.le; omega) (fun e => by have := b.own.blk k e; omega)⟩
theorem bx_mid {w w1 w2 : World} {B g m : Nat} {v : Value} {l : List Int} (h : BX w B g v l m) (hb : Below w.heap.size w w1) (hg : w1.grownBy w2 v.ownBlock) : w2.heap[g]? = some (.cells #[v] 25 (0, 0)) :=
  (hg.block g (by have := lt_of_block h.box; have := hb.size; omega) (Ne.symm h.ne)).trans ((hb.block g (lt_of_block h.box)).trans h.box)
/-- append in w2 at v, grown; then stored in block g -/
theorem bx_put {w w1 w2 : World} {B g m k : Nat} {v v2 : Value} {l l2 : List Int} (h : BX w B g v l m) (hb : Below w.heap.size w w1) (ho : OB 5 w2 B v2 (l ++ l2)) (hy : BY l2) (hk : l2.length ≤ k) (hg : w1.grownBy w2 v.ownBlock) (ha : v2.ownBlock = v.ownBlock ∨ ∃ k, v2.ownBlock = some k ∧ w1.heap.size ≤ k) :
    BX (w2.setCell ⟨g, 0, none⟩ v2) B g v2 (l ++ l2) (m + k) ∧ GW g w (w2.setCell ⟨g, 0, none⟩ v2) v v2 := by
  have hgl := lt_of_block h.box
  have h1 := bx_mid h hb hg
  have hv2 : v2.ownBlock ≠ some g := fun e => by
    rcases ha with e2 | ⟨i, e2, hi⟩
    · exact h.ne (e2.symm.trans e)
    · have := hb.size; rw [e2] at e; injection e; omega
  have hS : Below g w2 (w2.setCell ⟨g, 0, none⟩ v2) := (Below.refl g w2).setCell (Nat.le_refl g) v2
  refine ⟨⟨(blk_set h1 0 v2).trans (by simp), .inl (ownsRow_setCell_other (a := ⟨g, 0, none⟩) ho hv2 v2), hv2, h.by_.append hy, h.le, by have := h.len; rw [List.length_append]; omega⟩, ?_⟩
  refine ⟨hS.os.trans (hg.os.trans hb.os), hS.tape.trans (hg.tape.trans hb.tape), hS.output.trans (hg.output.trans hb.output), Nat.le_trans hb.size (Nat.le_trans hg.size hS.size), ?_, ?_⟩
  · intro j hj hjg hjv
    rw [Below.heap_setCell w2 ⟨g, 0, none⟩ v2 j hjg]
    exact (hg.block j (by have := hb.size; omega) (Ne.symm hjv)).trans (hb.block j hj)
  · rcases ha with e | ⟨i, e, hi⟩
    · exact .inl e
    · exact .inr ⟨_, e, Nat.le_trans hb.size hi⟩
theorem OB.form {e : TypeId} {w : World} {base : Nat} {v : Value} {l : List Int} (h : OB e w base v l) : ∃ A n c, v = .slice A n c := by
  rcases h.2 with ⟨e1, _⟩ | ⟨g, cap, cur, e1, _⟩
  · exact ⟨_, _, _, e1⟩
  · exact ⟨_, _, _, e1⟩
/-- append of bytes, as a step of a region that draws -/
theorem step_append_ab {P : Program} {ops : Array Oper} {o : Oper} {a : Act} {w : World} {K : Act → World → Prop} {Q : Exit → Act → World → Prop} {E : Prop} (hgd : o.guard = none) (B : Nat) (s x : Operand) (t : TypeId)
    (ho : o.op = .call { callee := .builtin .append, args := #[s, x], argTypes := #[t, t] })
    (ht : P.underlying t = some (.slice 5)) (hinfo : (P.info? 5).map (fun i => (i.zero, i.size, i.bytes)) = some (some (.int .u8 0), 1, 1))
    (v : Value) (l : List Int) (hs : a.eval s = v) (h : AB w B v l) (A : Option Addr) (m c : Nat) (ys : List Int) (hx : a.eval x = .slice A m c) (hr : RB w A m ys) (hm : 1 ≤ m) (hl : l.length + m ≤ 140737488000000) (hB : B ≤ w.heap.size)
    (hK : ∀ v' w', OB 5 w' B v' (l ++ ys) → w.grownBy w' v.ownBlock → (v'.ownBlock = v.ownBlock ∨ ∃ k, v'.ownBlock = some k ∧ w.heap.size ≤ k) → K (a.put o.dst v') w') :
    if Region.wanted o (yielded ops a.tmps) = true then Oper.wp P o a w K Q else E := by
  have hw : Region.wanted o (yielded ops a.tmps) = true := by simp [Region.wanted, hgd]
  rw [if_pos hw]
  obtain ⟨v', w', hrun, h2, h3, h5⟩ := run_append_ab (P := P) w B t o.type ht hinfo v l h A m c ys hr hm hl hB
  unfold Oper.wp execOp
  simp only [ho, resolve, invoke, builtin, Sem.run_bind, Sem.run_pure, Result.andThen_ok, List.map_toArray, List.map_cons, List.map_nil, hs, hx, hrun]
  exact hK v' w' h2 h3 h5
set_option maxRecDepth 20000 in
set_option maxHeartbeats 1000000 in
theorem num103_any (n : Int) (n0 : 0 ≤ n) (n1 : n < 9223372036854775808) (B g m : Nat) (v : Value) (l : List Int) (w : World) (h : BX w B g v l m) (hm : m ≤ 100000000000000) :
    Calls Try.prog 103 #[.int .i64 n, .pointer (some ⟨g, 0, none⟩)] w fun e w' => e = .returned (.tuple #[]) ∧ ∃ v', BX w' B g v' (l ++ vb n.toNat) (m + 10) ∧ GW g w w' v v' := by
  have hw := wrap_u64 n (by omega) (by omega)
  have c0 := blk_cell h.box 0 (v := some v) rfl
  have hv := vb_len n.toNat
  have hvy := vb_by n.toNat (by omega)
  go_enter Try.func103, Try.ntmps103
  go_wp2_with fail
  go_region_law (first
    | (rw [if_pos (by kernel_rfl)]; go_simp; go_at_call 28; refine (varint_any n (by omega) (by omega) _).mono ?_; rintro e w1 ⟨v1, rfl, hown1, hB1⟩; have hb1 : Below w.heap.size w w1 := Below.trans (Below.drew (Below.refl w.heap.size w)) hB1; have c1 := (cell_keep hb1 c0); obtain ⟨A1, n1, k1, rfl, hk1, hr1⟩ := OB.readN hown1 hvy (by omega); have hn1 := hr1.len)
    | (refine step_append_ab rfl B (.tmp 3) (.tmp 6) 25 rfl Try.underlying25 info5 v l rfl (h.own.below hb1) A1 n1 k1 _ rfl hr1 (by omega) (by have := h.len; omega) (Nat.le_trans h.base hb1.size) ?_; intro v2 w2 ho2 hg2 ha2; obtain ⟨A2, n2, k2, rfl⟩ := OB.form ho2; obtain ⟨hX, hG⟩ := bx_put h hb1 ho2 hvy hv.2 hg2 ha2; have d0 := blk_cell (bx_mid h hb1 hg2) 0 (v := some v) rfl; have d1 := blk_free (bx_mid h hb1 hg2) 0))
  all_goals
    go_wp2_with fail
    refine bodyPost_end (results_none rfl _ _ _) rfl ?_
    exact ⟨rfl, _, hX, hG⟩
end Go.Proofs.Ythggicgbcgeggaa
