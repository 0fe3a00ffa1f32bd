/- Words on slices: what is read, what is owned, what append leaves; bytes. -/
import Derived.Test.YthggicgbcgeggaaVD
import Derived.Maps.AppendAt
import Derived.Deep.AppendLies
set_option linter.unusedVariables false
set_option linter.unusedSimpArgs false
namespace Go.Proofs.Ythggicgbcgeggaa
open Go.RowKit

/-- n elements of sz cells each, read at A -/
structure RV (w : World) (A : Option Addr) (n sz : Nat) (vs : List Value) : Prop where
  len : vs.length = n * sz
  one : ∀ v ∈ vs, v.oneCell' = true
  cell : ∀ j v, vs[j]? = some v → ∃ ad, A = some ad ∧ w.cell? (ad.add j) = some v
theorem RV.below {w w' : World} {A : Option Addr} {n sz : Nat} {vs : List Value} (h : RV w A n sz vs) (hb : Below w.heap.size w w') : RV w' A n sz vs :=
  ⟨h.len, h.one, fun j v hv => by
    obtain ⟨ad, e, hc⟩ := h.cell j v hv
    exact ⟨ad, e, (hb.cell (World.block_lt_of_cell? w _ hc)).trans hc⟩⟩
def bys (l : List Int) : List Value := l.map (Value.int .u8)
theorem bys_len (l : List Int) : (bys l).length = l.length := by simp [bys]
theorem bys_append (a b : List Int) : bys (a ++ b) = bys a ++ bys b := by simp [bys]
theorem bys_at (l : List Int) (j : Nat) (h : j < l.length) : (bys l)[j]? = some (.int .u8 (nth l j)) := by
  rw [nth_at l j h]; simp [bys, List.getElem?_eq_getElem h]
theorem bys_one (l : List Int) : ∀ v ∈ bys l, v.oneCell' = true := by
  intro v hv; simp only [bys, List.mem_map] at hv; obtain ⟨x, _, rfl⟩ := hv; rfl
theorem RB.rv {w : World} {A : Option Addr} {n : Nat} {l : List Int} (h : RB w A n l) : RV w A n 1 (bys l) :=
  ⟨by rw [bys_len, h.len, Nat.mul_one], bys_one l, fun j v hv => by
    have hj : j < n := by
      rw [← h.len, ← bys_len]
      exact (List.getElem?_eq_some_iff.1 hv).1
    obtain ⟨ad, e, hc⟩ := h.cell j hj
    rw [bys_at l j (by rw [h.len]; exact hj)] at hv
    injection hv with hv
    exact ⟨ad, e, by rw [← hv]; exact hc⟩⟩
/-- all of a list of bytes are bytes -/
def BY (l : List Int) : Prop := ∀ x ∈ l, 0 ≤ x ∧ x ≤ 255
theorem BY.nth {l : List Int} (h : BY l) (j : Nat) : 0 ≤ nth l j ∧ nth l j ≤ 255 := by
  rcases Nat.lt_or_ge j l.length with hj | hj
  · rw [nth_at l j hj]; exact h _ (List.getElem_mem hj)
  · unfold Go.Proofs.Ythggicgbcgeggaa.nth
    rw [List.getD_eq_getElem?_getD, List.getElem?_eq_none hj]
    simp
theorem BY.append {a b : List Int} (ha : BY a) (hb : BY b) : BY (a ++ b) := by
  intro x hx
  rcases List.mem_append.1 hx with h | h
  · exact ha x h
  · exact hb x h
theorem RB.by_ {w : World} {A : Option Addr} {n : Nat} {l : List Int} (h : RB w A n l) : BY l := by
  intro x hx
  obtain ⟨j, hj, rfl⟩ := List.mem_iff_getElem.1 hx
  rw [← nth_at l j hj]; exact h.rng j
/-- what is owned reads -/
theorem own_RB {w : World} {base n : Nat} {e : TypeId} {v : Value} {l : List Int} (h : w.ownsRow base e 1 v n (bys l)) (hb : BY l) (hn : n ≤ 140737488355328) :
    ∃ A c, v = .slice A n c ∧ n ≤ c ∧ RB w A n l := by
  have hl : l.length = n := by have := h.1; rw [bys_len, Nat.mul_one] at this; exact this
  rcases h.2 with ⟨rfl, h0⟩ | ⟨g, cap, cur, rfl, hg, hh, hnc, r⟩
  · subst h0
    exact ⟨none, 0, rfl, by omega, hl, hn, fun j hj => by omega, hb.nth⟩
  · refine ⟨_, cap, rfl, hnc, hl, hn, fun j hj => ⟨_, rfl, ?_⟩, hb.nth⟩
    exact h.cells (g := g) rfl j _ (bys_at l j (by omega))
theorem RB_lit {w : World} {g : Nat} {l : List Int} {t : TypeId} {fr : Nat × Nat} (h : w.heap[g]? = some (.cells (bys l).toArray t fr)) (hb : BY l) (hn : l.length ≤ 140737488355328) : RB w (some ⟨g, 0, none⟩) l.length l :=
  ⟨rfl, hn, fun j hj => ⟨_, rfl, by
    have ha : (⟨g, 0, none⟩ : Addr).add j = ⟨g, 0 + j, none⟩ := by unfold Addr.add; split <;> simp_all
    rw [ha, cell_of_row w g _ _ t fr h, Nat.zero_add, List.getElem?_toArray, bys_at l j hj]⟩, hb.nth⟩
theorem own_lit (w : World) (base : Nat) (e : TypeId) (l : List Int) (hb : base ≤ w.heap.size) (hn : l.length ≤ 140737488355328) :
    (w.alloc (.cells (bys l).toArray e)).ownsRow base e 1 (.slice (some ⟨w.heap.size, 0, none⟩) l.length l.length) l.length (bys l) := by
  have h := World.ownsRow_lit (base := base) (e := e) (size := 1) w (bys l).toArray l.length hb (by simp [maxLen]; omega) (by simp [bys])
  simpa using h
/-- append(v, ys...): v nil or a slice of the call's own, ys any slice that is read -/
theorem run_append_rv {P : Program} (w : World) (base : Nat) (t ty e : TypeId) (z : Value) (sz bytes : Nat) (ht : P.underlying t = some (.slice e)) (hinfo : (P.info? e).map (fun i => (i.zero, i.size, i.bytes)) = some (some z, sz, bytes))
    (hzs : z.cells.size = sz) (hsz : 0 < sz) (hb0 : 0 < bytes) (v : Value) (n : Nat) (xs : List Value) (HO : w.ownsRow base e sz v n xs) (A : Option Addr) (m c : Nat) (ys : List Value) (HR : RV w A m sz ys)
    (hbytes : (n + m) * bytes ≤ 140737488355328) (hbase : base ≤ w.heap.size) :
    ∃ v' w', (Builtin.append_ #[t, t] ty #[v, .slice A m c]).run P w = .ok v' w' ∧ w'.ownsRow base e sz v' (n + m) (xs ++ ys) ∧ w.grownBy w' v.ownBlock ∧ (v'.ownBlock = v.ownBlock ∨ v'.ownBlock = some w.heap.size) := by
  obtain ⟨i0, hi, hzz⟩ := Option.map_eq_some_iff.1 hinfo
  simp only [Prod.mk.injEq] at hzz
  obtain ⟨hz0, hz1, hz2⟩ := hzz
  have hlen : n + m ≤ 140737488355328 := Nat.le_trans (Nat.le_mul_of_pos_right _ hb0) hbytes
  rcases A with _ | ad
  · have h0 : ys = [] := by
      cases ys with
      | nil => rfl
      | cons y ys => obtain ⟨ad, h, _⟩ := HR.cell 0 y rfl; cases h
    subst h0
    have hm : m = 0 := by
      have := HR.len
      rw [List.length_nil] at this
      rcases Nat.mul_eq_zero.1 this.symm with h | h
      · exact h
      · omega
    subst hm
    refine ⟨v, w, ?_, by simpa using HO, ⟨rfl, rfl, rfl, Nat.le_refl _, fun _ _ _ => rfl⟩, .inl rfl⟩
    rcases HO.2 with ⟨rfl, hn⟩ | ⟨g, cap, cur, rfl, _, _, hnc, _⟩
    · simp [Builtin.append_, run_underlying ht, sizeOf, typeInfo, hi, Builtin.lenOf, Builtin.firstCells]
    · simp [Builtin.append_, run_underlying ht, sizeOf, typeInfo, hi, Builtin.lenOf, Builtin.firstCells, hnc, storeCells]
  · obtain ⟨v1, w1, hr, h2, h3, _, h5⟩ := run_append_own_at (P := P) w base t ty e i0 z sz bytes ht hi hz0 hz1 hz2 hzs hsz v n xs HO ad m c ys HR.len
      (fun j x hx => by
        obtain ⟨ad', h', hc⟩ := HR.cell j x hx
        injection h' with h'
        subst h'
        exact hc) HR.one (by simp only [maxLen]; omega) hbytes hbase
    exact ⟨v1, w1, hr, h2, h3, h5⟩
section
variable {P : Program} {ops : Array Oper} {rest : List Oper} {o : Oper} {a : Act} {K : Act → World → Prop} {Q : Exit → Act → World → Prop}
/-- at the operation -/
theorem wp_append_rv {w : World} (base : Nat) (s x : Operand) (t e : TypeId) (z : Value) (sz bytes : Nat)
    (ho : o.op = .call { callee := .builtin .append, args := #[s, x], argTypes := #[t, t] })
    (ht : P.underlying t = some (.slice e)) (hinfo : (P.info? e).map (fun i => (i.zero, i.size, i.bytes)) = some (some z, sz, bytes))
    (hzs : z.cells.size = sz) (hsz : 0 < sz) (hb0 : 0 < bytes) (v : Value) (n : Nat) (xs : List Value) (hs : a.eval s = v) (HO : w.ownsRow base e sz v n xs) (A : Option Addr) (m c : Nat) (ys : List Value) (hx : a.eval x = .slice A m c) (HR : RV w A m sz ys)
    (hbytes : (n + m) * bytes ≤ 140737488355328) (hbase : base ≤ w.heap.size)
    (h : ∀ v' w', w'.ownsRow base e sz v' (n + m) (xs ++ ys) → w.grownBy w' v.ownBlock → (v'.ownBlock = v.ownBlock ∨ v'.ownBlock = some w.heap.size) → K (a.put o.dst v') w') :
    o.wp P a w K Q := by
  obtain ⟨v', w', hr, h2, h3, h5⟩ := run_append_rv (P := P) w base t o.type e z sz bytes ht hinfo hzs hsz hb0 v n xs HO A m c ys HR hbytes hbase
  unfold Oper.wp execOp
  simp only [ho, resolve, invoke, builtin, Sem.run_bind, Sem.run_pure, Result.andThen_ok, List.map_toArray, List.map_cons, List.map_nil, hs, hx, hr]
  exact h v' w' h2 h3 h5
theorem wpList_append_rv {w : World} (hgd : o.guard = none) (base : Nat) (s x : Operand) (t e : TypeId) (z : Value) (sz bytes : Nat)
    (ho : o.op = .call { callee := .builtin .append, args := #[s, x], argTypes := #[t, t] })
    (ht : P.underlying t = some (.slice e)) (hinfo : (P.info? e).map (fun i => (i.zero, i.size, i.bytes)) = some (some z, sz, bytes))
    (hzs : z.cells.size = sz) (hsz : 0 < sz) (hb0 : 0 < bytes) (v : Value) (n : Nat) (xs : List Value) (hs : a.eval s = v) (HO : w.ownsRow base e sz v n xs) (A : Option Addr) (m c : Nat) (ys : List Value) (hx : a.eval x = .slice A m c) (HR : RV w A m sz ys)
    (hbytes : (n + m) * bytes ≤ 140737488355328) (hbase : base ≤ w.heap.size)
    (h : ∀ v' w', w'.ownsRow base e sz v' (n + m) (xs ++ ys) → w.grownBy w' v.ownBlock → (v'.ownBlock = v.ownBlock ∨ v'.ownBlock = some w.heap.size) → wpList P ops Q rest (a.put o.dst v') w') :
    wpList P ops Q (o :: rest) a w :=
  wpList_plain hgd fun K hK => wp_append_rv base s x t e z sz bytes ho ht hinfo hzs hsz hb0 v n xs hs HO A m c ys hx HR hbytes hbase fun v' w' h2 h3 h5 => hK _ _ (h v' w' h2 h3 h5)
end
theorem own_blk_lt {w : World} {base : Nat} {e : TypeId} {size n : Nat} {v : Value} {xs : List Value} (h : w.ownsRow base e size v n xs) (k : Nat) (hk : v.ownBlock = some k) : base ≤ k ∧ k < w.heap.size := h.lt k hk
theorem own_form {w : World} {base : Nat} {e : TypeId} {size n : Nat} {v : Value} {xs : List Value} (h : w.ownsRow base e size v n xs) (hn : 0 < n) :
    ∃ g cap, v = .slice (some ⟨g, 0, none⟩) n cap ∧ base ≤ g ∧ g < w.heap.size ∧ n ≤ cap := by
  rcases h.2 with ⟨_, h0⟩ | ⟨g, cap, cur, hv, hb, hg, hc, _⟩
  · omega
  · exact ⟨g, cap, hv, hb, (Array.getElem?_eq_some_iff.1 hg).1, hc⟩
/-- v is a slice of bytes of the call's own (or nil) that holds l -/
def OB (e : TypeId) (w : World) (base : Nat) (v : Value) (l : List Int) : Prop := w.ownsRow base e 1 v l.length (bys l)
theorem OB.nil (e : TypeId) (w : World) (base : Nat) : OB e w base (.slice none 0 0) [] := World.ownsRow_nil w base e 1
theorem OB.read {e : TypeId} {w : World} {base : Nat} {v : Value} {l : List Int} (h : OB e w base v l) (hb : BY l) (hn : l.length ≤ 140737488355328) :
    ∃ A c, v = .slice A l.length c ∧ l.length ≤ c ∧ RB w A l.length l := own_RB h hb hn
theorem OB.readN {e : TypeId} {w : World} {base : Nat} {v : Value} {l : List Int} (h : OB e w base v l) (hb : BY l) (hn : l.length ≤ 140737488355328) :
    ∃ A n c, v = .slice A n c ∧ n ≤ c ∧ RB w A n l := by
  obtain ⟨A, c, h1, h2, h3⟩ := own_RB h hb hn
  exact ⟨A, _, c, h1, h2, h3⟩
theorem OB.below {e : TypeId} {w w' : World} {base : Nat} {v : Value} {l : List Int} (h : OB e w base v l) (hb : Below w.heap.size w w') : OB e w' base v l :=
  World.ownsRow.kept h (row := none) ⟨hb.os, hb.tape, hb.output, hb.size, fun k hk _ => hb.block k hk⟩ (by cases v.ownBlock <;> simp)
theorem OB.lit (w : World) (base : Nat) (e : TypeId) (l : List Int) (hb : base ≤ w.heap.size) (hn : l.length ≤ 140737488355328) :
    OB e (w.alloc (.cells (bys l).toArray e)) base (.slice (some ⟨w.heap.size, 0, none⟩) l.length l.length) l := own_lit w base e l hb hn
theorem OB.lower {e : TypeId} {w : World} {base base' : Nat} {v : Value} {l : List Int} (h : OB e w base v l) (hb : base' ≤ base) : OB e w base' v l := by
  refine ⟨h.1, ?_⟩
  rcases h.2 with h2 | ⟨g, cap, cur, hv, hg, r⟩
  · exact .inl h2
  · exact .inr ⟨g, cap, cur, hv, by omega, r⟩
section
variable {P : Program} {ops : Array Oper} {rest : List Oper} {o : Oper} {a : Act} {K : Act → World → Prop} {Q : Exit → Act → World → Prop}
theorem wp_append_by {w0 w : World} (base : Nat) (s x : Operand) (t e : TypeId)
    (ho : o.op = .call { callee := .builtin .append, args := #[s, x], argTypes := #[t, t] })
    (ht : P.underlying t = some (.slice e)) (hinfo : (P.info? e).map (fun i => (i.zero, i.size, i.bytes)) = some (some (.int .u8 0), 1, 1))
    (v : Value) (xs : List Int) (hs : a.eval s = v) (HO : OB e w base v xs) (A : Option Addr) (m c : Nat) (ys : List Int) (hx : a.eval x = .slice A m c) (HR : RB w A m ys)
    (HB : Below base w0 w) (hbase : base ≤ w.heap.size) (hl : xs.length + m ≤ 140737488355328)
    (h : ∀ v' w', OB e w' base v' (xs ++ ys) → Below base w0 w' → w.grownBy w' v.ownBlock → (v'.ownBlock = v.ownBlock ∨ v'.ownBlock = some w.heap.size) → K (a.put o.dst v') w') :
    o.wp P a w K Q := by
  refine wp_append_rv base s x t e (.int .u8 0) 1 1 ho ht hinfo rfl (by omega) (by omega) v xs.length (bys xs) hs HO A m c (bys ys) hx HR.rv (by omega) hbase ?_
  intro v' w' h1 h2 h3
  refine h v' w' ?_ (HB.grown h2 hbase (fun k hk => (own_blk_lt HO k hk).1)) h2 h3
  unfold OB
  rw [List.length_append, bys_append, HR.len]
  exact h1
theorem wpList_append_by {w0 w : World} (hgd : o.guard = none) (base : Nat) (s x : Operand) (t e : TypeId)
    (ho : o.op = .call { callee := .builtin .append, args := #[s, x], argTypes := #[t, t] })
    (ht : P.underlying t = some (.slice e)) (hinfo : (P.info? e).map (fun i => (i.zero, i.size, i.bytes)) = some (some (.int .u8 0), 1, 1))
    (v : Value) (xs : List Int) (hs : a.eval s = v) (HO : OB e w base v xs) (A : Option Addr) (m c : Nat) (ys : List Int) (hx : a.eval x = .slice A m c) (HR : RB w A m ys)
    (HB : Below base w0 w) (hbase : base ≤ w.heap.size) (hl : xs.length + m ≤ 140737488355328)
    (h : ∀ v' w', OB e w' base v' (xs ++ ys) → Below base w0 w' → w.grownBy w' v.ownBlock → (v'.ownBlock = v.ownBlock ∨ v'.ownBlock = some w.heap.size) → wpList P ops Q rest (a.put o.dst v') w') :
    wpList P ops Q (o :: rest) a w :=
  wpList_plain hgd fun K hK => wp_append_by (w0 := w0) base s x t e ho ht hinfo v xs hs HO A m c ys hx HR HB hbase hl fun v' w' h1 h2 h3 h4 => hK _ _ (h v' w' h1 h2 h3 h4)
end
/-- a slice of slices of bytes that is read -/
structure RBB (w : World) (A : Option Addr) (n : Nat) (ls : List (List Int)) : Prop where
  len : ls.length = n
  top : n ≤ 140737488351232
  cell : ∀ j, j < n → ∃ ad A' c', A = some ad ∧ w.cell? (ad.add j) = some (.slice A' (ls.getD j []).length c') ∧ RB w A' (ls.getD j []).length (ls.getD j []) ∧ (ls.getD j []).length ≤ 140737488351232 ∧ (ls.getD j []).length ≤ c'
theorem RBB.below {w w' : World} {A : Option Addr} {n : Nat} {ls : List (List Int)} (h : RBB w A n ls) (hb : Below w.heap.size w w') : RBB w' A n ls :=
  ⟨h.len, h.top, fun j hj => by
    obtain ⟨ad, A', c', e, hc, hr, hn⟩ := h.cell j hj
    exact ⟨ad, A', c', e, (hb.cell (World.block_lt_of_cell? w _ hc)).trans hc, hr.below hb, hn⟩⟩
/-- a slice of whole numbers that is read -/
structure RI (k : IntKind) (w : World) (A : Option Addr) (n : Nat) (l : List Int) : Prop where
  len : l.length = n
  top : n ≤ 140737488351232
  cell : ∀ j, j < n → ∃ ad, A = some ad ∧ w.cell? (ad.add j) = some (.int k (nth l j))
  wf : ∀ x ∈ l, (Lit.int k x).wf = true
theorem RI.below {k : IntKind} {w w' : World} {A : Option Addr} {n : Nat} {l : List Int} (h : RI k w A n l) (hb : Below w.heap.size w w') : RI k w' A n l :=
  ⟨h.len, h.top, fun j hj => by
    obtain ⟨ad, e, hc⟩ := h.cell j hj
    exact ⟨ad, e, (hb.cell (World.block_lt_of_cell? w _ hc)).trans hc⟩, h.wf⟩
theorem RI.wf_nth {k : IntKind} {w : World} {A : Option Addr} {n : Nat} {l : List Int} (h : RI k w A n l) (j : Nat) (hj : j < n) : (Lit.int k (nth l j)).wf = true := by
  rw [nth_at l j (by rw [h.len]; exact hj)]; exact h.wf _ (List.getElem_mem _)
theorem cell_keep {w w' : World} {a : Addr} {v : Value} (hb : Below w.heap.size w w') (h : w.cell? a = some v) : w'.cell? a = some v := (hb.cell (World.block_lt_of_cell? w _ h)).trans h
end Go.Proofs.Ythggicgbcgeggaa
