/- Walk: catalog.Roll. -/
import Derived.Test.YthggicgbcgeggaaVL5
set_option linter.unusedVariables false
set_option linter.unusedSimpArgs false
namespace Go.Proofs.Ythggicgbcgeggaa
open Go.RowKit
/-- a catalog whose last segment is sealed, and a new one behind it -/
def rollS (ss : List Sg) (e z s : Int) : List Sg :=
  ss.set (ss.length - 1) { sg ss (ss.length - 1) with end_ := e, size := z } ++ [⟨(sg ss (ss.length - 1)).num + 1, e, s, 0, 0⟩]
def rollI (gen first : Int) (ss : List Sg) (e z s : Int) : Int × Option (List Sg) :=
  if mayB gen first ss = false then (4, none) else
  if ss.length = 64 then (9, none) else
  if (sg ss (ss.length - 1)).num = 9223372036854775807 ∨ gen = 9223372036854775807 ∨ mayB (gen + 1) first (rollS ss e z s) = false then (1, none) else (0, some (rollS ss e z s))
/-- what a rolling or cutting call gives -/
def CR (w : World) (base : Nat) (v : Value) (gen first : Int) : Option (List Sg) → Prop
  | none => v = .agg #[.int .i64 0, .int .i64 0, .slice none 0 0]
  | some ss => ∃ u, v = .agg #[.int .i64 gen, .int .i64 first, u] ∧ OSg w base u ss
theorem three_put {w : World} {g : Nat} {a b c : Value} {t : TypeId} (h : w.heap[g]? = some (.cells #[a, b, c] t (0, 0))) (u v x : Value) : (((w.setCell ⟨g, 0, none⟩ u).setCell ⟨g, 1, none⟩ v).setCell ⟨g, 2, none⟩ x).heap[g]? = some (.cells #[u, v, x] t (0, 0)) := blk_set (blk_set (blk_set h 0 u) 1 v) 2 x
theorem three_below {b : Nat} {w w' : World} {g : Nat} (h : Below b w w') (hg : b ≤ g) (u v x : Value) : Below b w (((w'.setCell ⟨g, 0, none⟩ u).setCell ⟨g, 1, none⟩ v).setCell ⟨g, 2, none⟩ x) := ((h.setCell (p := ⟨g, 0, none⟩) hg u).setCell (p := ⟨g, 1, none⟩) hg v).setCell (p := ⟨g, 2, none⟩) hg x
theorem set_cells (x : Sg) (a b : Int) : ∀ (ss : List Sg) (i : Nat), i < ss.length → sg ss i = x → ((cells ss).set (i * 5 + 3) (.int .i64 a)).set (i * 5 + 4) (.int .i64 b) = cells (ss.set i { x with end_ := a, size := b })
  | [], i, h, _ => absurd h (by simp)
  | s :: r, 0, _, e => by
    obtain rfl : s = x := by simpa [sg] using e
    simp [cells, Sg.vals]
  | s :: r, i + 1, h, e => by
    have ih := set_cells x a b r i (by simpa using h) (by simpa [sg] using e)
    simp only [cells, List.flatMap_cons, List.set_cons_succ] at ih ⊢
    rw [← ih]
    simp only [Sg.vals, show (i + 1) * 5 + 3 = (i * 5 + 3) + 1 + 1 + 1 + 1 + 1 by omega, show (i + 1) * 5 + 4 = (i * 5 + 4) + 1 + 1 + 1 + 1 + 1 by omega, List.cons_append, List.nil_append, List.set_cons_succ]
section
variable {ops : Array Oper} {rest : List Oper} {o : Oper} {a : Act} {Q : Exit → Act → World → Prop}
theorem wpList_append_sg {w0 w : World} (hgd : o.guard = none) (base : Nat) (s x : Operand)
    (ho : o.op = .call { callee := .builtin .append, args := #[s, x], argTypes := #[76, 76] })
    (v : Value) (xs : List Sg) (hs : a.eval s = v) (HO : OSg w base v xs) (A : Option Addr) (m c : Nat) (ys : List Sg) (hx : a.eval x = .slice A m c) (HR : RV w A m 5 (cells ys))
    (hB : Below w0.heap.size w0 w) (hb0 : w0.heap.size ≤ base) (hbase : base ≤ w.heap.size) (hm : m = ys.length) (hbytes : xs.length + ys.length ≤ 3518437208882)
    (h : ∀ v' w', OSg w' base v' (xs ++ ys) → Below w0.heap.size w0 w' → w.grownBy w' v.ownBlock → (v'.ownBlock = v.ownBlock ∨ v'.ownBlock = some w.heap.size) → wpList Try.prog ops Q rest (a.put o.dst v') w') :
    wpList Try.prog ops Q (o :: rest) a w := by
  subst hm
  refine wpList_append_rv hgd base s x 76 96 _ 5 40 ho Try.underlying76 info96 rfl (by omega) (by omega) v xs.length (cells xs) hs HO A ys.length c (cells ys) hx HR (by omega) hbase fun v' w' h1 h2 h3 => h v' w' ?_ (hB.grown h2 (Nat.le_trans hb0 hbase) fun k hk => Nat.le_trans hb0 (own_blk_lt HO k hk).1) h2 h3
  unfold OSg
  rw [List.length_append, cells_append]
  exact h1
end
/-- one segment just made is read -/
theorem RV_sg {w : World} {g : Nat} {x : Sg} {t : TypeId} {fr : Nat × Nat} (h : w.heap[g]? = some (.cells x.cs t fr)) : RV w (some ⟨g, 0, none⟩) 1 5 (cells [x]) := by
  refine ⟨rfl, cells_one [x], fun j v hv => ⟨_, rfl, ?_⟩⟩
  have hj : j < 5 := by
    have := (List.getElem?_eq_some_iff.1 hv).1
    simpa [cells, Sg.vals] using this
  have ha : (⟨g, 0, none⟩ : Addr).add j = ⟨g, j, none⟩ := by unfold Addr.add; split <;> simp_all
  rw [ha, cell_of_row w g _ _ t fr h]
  have h5 : j = 0 ∨ j = 1 ∨ j = 2 ∨ j = 3 ∨ j = 4 := by omega
  rcases h5 with rfl | rfl | rfl | rfl | rfl <;> exact hv
theorem own_num {w : World} {base g n cap m : Nat} {ss : List Sg} {x : Int} (h : OSg w base (.slice (some ⟨g, 0, none⟩) n cap) ss) (hn : ss.length = n) (hm : m < n) (hx : (sg ss m).num = x) : w.cell? ⟨g, m * 5, none⟩ = some (.int .i64 x) := by
  subst hn
  have h1 := (World.ownsRow.cellAt h (m * 5 + 0) (by omega)).trans ((cells_at ss m 0 hm (by omega)).trans rfl)
  subst hx
  exact h1
theorem own_f3 {w : World} {base g n cap m : Nat} {ss : List Sg} (h : OSg w base (.slice (some ⟨g, 0, none⟩) n cap) ss) (hn : ss.length = n) (hm : m < n) : w.cell? ⟨g, m * 5 + 3, none⟩ = some (.int .i64 (sg ss m).end_) := by
  subst hn
  exact (World.ownsRow.cellAt h (m * 5 + 3) (by omega)).trans ((cells_at ss m 3 hm (by omega)).trans rfl)
theorem own_f4 {w : World} {base g n cap m : Nat} {ss : List Sg} (h : OSg w base (.slice (some ⟨g, 0, none⟩) n cap) ss) (hn : ss.length = n) (hm : m < n) : w.cell? ⟨g, m * 5 + 4, none⟩ = some (.int .i64 (sg ss m).size) := by
  subst hn
  exact (World.ownsRow.cellAt h (m * 5 + 4) (by omega)).trans ((cells_at ss m 4 hm (by omega)).trans rfl)
theorem own_fz {w : World} {base g n cap : Nat} {ss : List Sg} (h : OSg w base (.slice (some ⟨g, 0, none⟩) n cap) ss) (hn : ss.length = n) (j : Nat) : w.frozen? ⟨g, j, none⟩ = false := by
  subst hn
  exact World.ownsRow.frozenAt h j
theorem heap_new3 {w : World} {k : Nat} (h : w.heap.size = k) (o : Obj) : (w.alloc o).heap[k]? = some o := by subst h; exact heap_alloc_new w o
theorem OSg.put3 {w : World} {base : Nat} {v : Value} {ss : List Sg} (h : OSg w base v ss) {g : Nat} (hg : v.ownBlock ≠ some g) (a b c : Value) : OSg (((w.setCell ⟨g, 0, none⟩ a).setCell ⟨g, 1, none⟩ b).setCell ⟨g, 2, none⟩ c) base v ss :=
  ownsRow_setCell_other (a := ⟨g, 2, none⟩) (ownsRow_setCell_other (a := ⟨g, 1, none⟩) (ownsRow_setCell_other (a := ⟨g, 0, none⟩) h hg a) hg b) hg c
theorem own_new {g n cap k b : Nat} (h : (Value.slice (some ⟨g, 0, none⟩) n cap).ownBlock = (Value.slice none 0 0).ownBlock ∨ (Value.slice (some ⟨g, 0, none⟩) n cap).ownBlock = some k) (hb : b < k) : b < g := by
  rcases h with h | h
  · cases h
  · obtain rfl : g = k := by simpa [Value.ownBlock] using h
    exact hb
theorem own_roll {w : World} {base g n cap m : Nat} {ss : List Sg} (h : OSg w base (.slice (some ⟨g, 0, none⟩) n cap) ss) (hn : ss.length = n) (hm : m < n) (a b : Int) : OSg ((w.setCell ⟨g, m * 5 + 3, none⟩ (.int .i64 a)).setCell ⟨g, m * 5 + 4, none⟩ (.int .i64 b)) base (.slice (some ⟨g, 0, none⟩) n cap) (ss.set m { sg ss m with end_ := a, size := b }) := by
  subst hn
  unfold OSg
  rw [List.length_set, ← set_cells (sg ss m) a b ss m hm rfl]
  exact (World.ownsRow.stored (World.ownsRow.stored h (m * 5 + 3) (.int .i64 a)).1 (m * 5 + 4) (.int .i64 b)).1
theorem OSg.alloc {w : World} {base : Nat} {v : Value} {ss : List Sg} (h : OSg w base v ss) (o : Obj) : OSg (w.alloc o) base v ss := World.ownsRow.alloc h o
theorem sw_set (ss : List Sg) (m : Nat) (x : Sg) (h : ∀ j, SW (sg ss j)) (hx : SW x) (j : Nat) : SW (sg (ss.set m x) j) := by
  unfold sg
  rw [List.getD_eq_getElem?_getD, List.getElem?_set]
  split
  · split
    · exact hx
    · exact SW.d
  · have := h j
    unfold sg at this
    rwa [List.getD_eq_getElem?_getD] at this
theorem sw_app (ss : List Sg) (x : Sg) (h : ∀ j, SW (sg ss j)) (hx : SW x) (j : Nat) : SW (sg (ss ++ [x]) j) := by
  unfold sg
  rw [List.getD_eq_getElem?_getD, List.getElem?_append]
  split
  · have := h j
    unfold sg at this
    rwa [List.getD_eq_getElem?_getD] at this
  · cases hd : j - ss.length with
    | zero => exact hx
    | succ k => exact SW.d
theorem rollS_sw (ss : List Sg) (e z s : Int) (h : ∀ j, SW (sg ss j)) (he : i64r e) (hz : i64r z) (hs : 0 ≤ s ∧ s < 4294967296) (hx : -9223372036854775808 ≤ (sg ss (ss.length - 1)).num ∧ (sg ss (ss.length - 1)).num < 9223372036854775807) : ∀ j, SW (sg (rollS ss e z s) j) := by
  have h0 := h (ss.length - 1)
  have z0 : i64r 0 := by unfold i64r; decide
  exact sw_app _ _ (sw_set _ _ _ h ⟨h0.num, h0.base, h0.seed, he, hz⟩) ⟨⟨by have := hx.1; show (-9223372036854775808 : Int) ≤ _ + 1; omega, by have := hx.2; show _ + 1 ≤ (9223372036854775807 : Int); omega⟩, he, hs, z0, z0⟩
theorem next_no2 {gen : Int} (hg : gen = 9223372036854775807) (first0 first : Int) (A0 A : Option Addr) (n0 c0 n c : Nat) (w : World) :
    Calls Try.prog 110 #[.agg #[.int .i64 gen, .int .i64 first0, .slice A0 n0 c0], .int .i64 first, .slice A n c] w fun e w' => e = .returned (.tuple #[.agg #[.int .i64 0, .int .i64 0, .slice none 0 0], .bool false]) ∧ Below w.heap.size w w' := by
  subst hg
  exact next_no first0 first A0 A n0 c0 n c w
set_option maxRecDepth 20000 in
set_option maxHeartbeats 4000000 in
theorem roll_any (gen first e z s : Int) (A : Option Addr) (n c : Nat) (ss : List Sg) (w : World) (hs : RSg w A n ss) (hc : n ≤ c) (he : i64r e) (hz : i64r z) (hs0 : 0 ≤ s) (hs1' : s < 4294967296) (hg : i64r gen) :
    Calls Try.prog 61 #[.agg #[.int .i64 gen, .int .i64 first, .slice A n c], .int .i64 e, .int .i64 z, .int .u32 s] w fun ex w' => ∃ v, ex = .returned (.tuple #[v, .int .i64 (rollI gen first ss e z s).1]) ∧ CR w' w.heap.size v (gen + 1) first (rollI gen first ss e z s).2 ∧ Below w.heap.size w w' := by
  have hl := hs.len
  have HL := Lib.hid hl
  have hb1 := below2 w (.cells #[.int .i64 gen, .int .i64 first, .slice A n c] 78) (.cells #[.int .i64 0, .int .i64 0, .slice none 0 0] 78)
  obtain ⟨tn1, tn2⟩ := two_new w (.cells #[.int .i64 gen, .int .i64 first, .slice A n c] 78) (.cells #[.int .i64 0, .int .i64 0, .slice none 0 0] 78)
  have HTN := Lib.hid (And.intro tn1 tn2)
  have hs1 := hs.below hb1
  clear hl tn1 tn2
  cases hm : mayB gen first ss
  · have HM := Lib.hid hm
    have H := Lib.hid (show rollI gen first ss e z s = (4, none) by unfold rollI; rw [if_pos hm])
    clear hm
    rw [H.out]
    go_enter Try.func61, Try.ntmps61
    go_wp2_with (go_at_call 59; refine (may_any gen first A n c ss _ hs1 hc).mono ?_; rw [HM.out]; rintro e w2 ⟨rfl, hb2⟩; have hw2 := below_to hb1 hb1.size hb2; have ht2 := (hb2.block _ (lt_of_block HTN.out.2)).trans HTN.out.2; have HT2 := Lib.hid ht2; have z0 := blk_cell ht2 0 (v := some (.int .i64 0)) rfl; have z1 := blk_cell ht2 1 (v := some (.int .i64 0)) rfl; have z2 := blk_cell ht2 2 (v := some (.slice none 0 0)) rfl; have f0 := blk_free ht2 0; have f1 := blk_free ht2 1; have f2 := blk_free ht2 2; clear ht2)
    (have c0' := blk_cell (three_put (HT2).out (.int .i64 0) (.int .i64 0) (.slice none 0 0)) 0 (v := some (.int .i64 0)) rfl; have c1' := blk_cell (three_put (HT2).out (.int .i64 0) (.int .i64 0) (.slice none 0 0)) 1 (v := some (.int .i64 0)) rfl; have c2' := blk_cell (three_put (HT2).out (.int .i64 0) (.int .i64 0) (.slice none 0 0)) 2 (v := some (.slice none 0 0)) rfl; exact bodyPost_ret (v := .tuple #[.agg #[.int .i64 0, .int .i64 0, .slice none 0 0], .int .i64 4]) (by simp [results, Try.results61, go_sem, c0', c1', c2']) rfl ⟨_, rfl, rfl, three_below hw2 (by simp) _ _ _⟩)
  · have HM := Lib.hid hm
    have hmo := may_out hm
    obtain ⟨m, rfl⟩ : ∃ m, n = m + 1 := ⟨n - 1, by have := HL.out; omega⟩
    have H64 := Lib.hid (show ss.length ≤ 64 from hmo.2.2.2.1)
    have hml : sg ss (ss.length - 1) = sg ss m := by rw [HL.out]; rfl
    by_cases h64 : m = 63
    · have H := Lib.hid (show rollI gen first ss e z s = (9, none) by unfold rollI; rw [if_neg (by rw [HM.out]; simp), if_pos (by rw [HL.out, h64])])
      have d1 : ((m : Int) + 1 == 64) = true := by simp; omega
      clear h64 hmo hm hml
      rw [H.out]
      go_enter Try.func61, Try.ntmps61
      go_wp2_with (go_at_call 59; refine (may_any gen first A (m + 1) c ss _ hs1 hc).mono ?_; rw [HM.out]; rintro e w2 ⟨rfl, hb2⟩; have hw2 := below_to hb1 hb1.size hb2; have ht1 := (hb2.block _ (lt_of_block HTN.out.1)).trans HTN.out.1; have ht2 := (hb2.block _ (lt_of_block HTN.out.2)).trans HTN.out.2; have HT1 := Lib.hid ht1; have HT2 := Lib.hid ht2; have hs2 := hs1.below hb2; have y0 := blk_cell ht1 0 (v := some (.int .i64 gen)) rfl; have y1 := blk_cell ht1 1 (v := some (.int .i64 first)) rfl; have y2 := blk_cell ht1 2 (v := some (.slice A (m + 1) c)) rfl; have z0 := blk_cell ht2 0 (v := some (.int .i64 0)) rfl; have z1 := blk_cell ht2 1 (v := some (.int .i64 0)) rfl; have z2 := blk_cell ht2 2 (v := some (.slice none 0 0)) rfl; have f0 := blk_free ht2 0; have f1 := blk_free ht2 1; have f2 := blk_free ht2 2; clear ht1 ht2)
      (have c0' := blk_cell (three_put (HT2).out (.int .i64 0) (.int .i64 0) (.slice none 0 0)) 0 (v := some (.int .i64 0)) rfl; have c1' := blk_cell (three_put (HT2).out (.int .i64 0) (.int .i64 0) (.slice none 0 0)) 1 (v := some (.int .i64 0)) rfl; have c2' := blk_cell (three_put (HT2).out (.int .i64 0) (.int .i64 0) (.slice none 0 0)) 2 (v := some (.slice none 0 0)) rfl; exact bodyPost_ret (v := .tuple #[.agg #[.int .i64 0, .int .i64 0, .slice none 0 0], .int .i64 9]) (by simp [results, Try.results61, go_sem, c0', c1', c2']) rfl ⟨_, rfl, rfl, three_below hw2 (by simp) _ _ _⟩)
    · have d1 : ((m : Int) + 1 == 64) = false := by simp; omega
      have m2 : m ≤ 63 := by have := HL.out; have := H64.out; omega
      have m0 : (0 : Int) ≤ (m : Int) := by omega
      have m1 : (m : Int) < (m : Int) + 1 := by omega
      obtain ⟨x, HX⟩ : ∃ x, Hid (x = (sg ss m).num) := ⟨_, rfl⟩
      have HNUM := Lib.hid (show (sg ss m).num = x from HX.out.symm)
      have hx0 := (hs.rng m).num
      rw [← HX.out] at hx0
      have HR : Hid (rollI gen first ss e z s = if x = 9223372036854775807 ∨ gen = 9223372036854775807 ∨ mayB (gen + 1) first (rollS ss e z s) = false then (1, none) else (0, some (rollS ss e z s))) := by
        refine Lib.hid ?_
        unfold rollI
        rw [if_neg (by rw [HM.out]; simp), if_neg (by rw [HL.out]; omega), hml, ← HX.out]
      clear h64 hmo hm
      have HML := Lib.hid hml
      clear hml
      by_cases hx : x = 9223372036854775807
      · have H := Lib.hid (show rollI gen first ss e z s = (1, none) by rw [HR.out, if_pos (.inl hx)])
        subst hx
        rw [H.out]
        go_enter Try.func61, Try.ntmps61
        go_wp2_with (first | (go_at_call 59; refine (may_any gen first A (m + 1) c ss _ hs1 hc).mono ?_; rw [HM.out]; rintro e w2 ⟨rfl, hb2⟩; have hw2 := below_to hb1 hb1.size hb2; have ht1 := (hb2.block _ (lt_of_block HTN.out.1)).trans HTN.out.1; have ht2 := (hb2.block _ (lt_of_block HTN.out.2)).trans HTN.out.2; have HT1 := Lib.hid ht1; have HT2 := Lib.hid ht2; have hs2 := hs1.below hb2; have y0 := blk_cell ht1 0 (v := some (.int .i64 gen)) rfl; have y1 := blk_cell ht1 1 (v := some (.int .i64 first)) rfl; have y2 := blk_cell ht1 2 (v := some (.slice A (m + 1) c)) rfl; have z0 := blk_cell ht2 0 (v := some (.int .i64 0)) rfl; have z1 := blk_cell ht2 1 (v := some (.int .i64 0)) rfl; have z2 := blk_cell ht2 2 (v := some (.slice none 0 0)) rfl; have f0 := blk_free ht2 0; have f1 := blk_free ht2 1; have f2 := blk_free ht2 2; clear ht1 ht2) | (at_builtin; refine wpList_append_sg (w0 := w) rfl w.heap.size (.const (.slice none 0 0)) (.tmp 26) rfl (.slice none 0 0) [] rfl (OSg.nil _ _) A (m + 1) c ss rfl hs2.rv hw2 (Nat.le_refl _) hw2.size HL.out.symm (by have := HL.out; have := H64.out; simp; omega) ?_; intro v1 w3 hO1 hw3 hg3 hat3; rw [List.nil_append] at hO1; obtain ⟨g1, cap1, hv1, hgb1, hgl1, hnc1⟩ := own_form hO1 (by rw [HL.out]; omega); rw [HL.out] at hv1; subst hv1; have ha0 := own_num hO1 HL.out (by omega) HNUM.out; have HO1 := Lib.hid hO1; have ht1 := (hg3.block _ (lt_of_block HT1.out) (by simp [Value.ownBlock])).trans HT1.out; have ht2 := (hg3.block _ (lt_of_block HT2.out) (by simp [Value.ownBlock])).trans HT2.out; have HU1 := Lib.hid ht1; have HU2 := Lib.hid ht2; clear hO1 hg3 hat3; have y3 := blk_cell ht1 0 (v := some (.int .i64 gen)) rfl; have y4 := blk_cell ht1 1 (v := some (.int .i64 first)) rfl; have y5 := blk_cell ht1 2 (v := some (.slice A (m + 1) c)) rfl; have z3 := blk_cell ht2 0 (v := some (.int .i64 0)) rfl; have z4 := blk_cell ht2 1 (v := some (.int .i64 0)) rfl; have z5 := blk_cell ht2 2 (v := some (.slice none 0 0)) rfl; have f3 := blk_free ht2 0; have f4 := blk_free ht2 1; have f5 := blk_free ht2 2; clear ht1 ht2))
        (have c0' := blk_cell (three_put (HU2).out (.int .i64 0) (.int .i64 0) (.slice none 0 0)) 0 (v := some (.int .i64 0)) rfl; have c1' := blk_cell (three_put (HU2).out (.int .i64 0) (.int .i64 0) (.slice none 0 0)) 1 (v := some (.int .i64 0)) rfl; have c2' := blk_cell (three_put (HU2).out (.int .i64 0) (.int .i64 0) (.slice none 0 0)) 2 (v := some (.slice none 0 0)) rfl; exact bodyPost_ret (v := .tuple #[.agg #[.int .i64 0, .int .i64 0, .slice none 0 0], .int .i64 1]) (by simp [results, Try.results61, go_sem, c0', c1', c2']) rfl ⟨_, rfl, rfl, three_below hw3 (by simp) _ _ _⟩)
      · have d2 : (x == 9223372036854775807) = false := by simpa using hx
        have hxr : -9223372036854775808 ≤ x := hx0.1
        have hx2 : x < 9223372036854775807 := by have := hx0.2; omega
        have HS : Hid (rollS ss e z s = ss.set m { sg ss m with end_ := e, size := z } ++ [⟨x + 1, e, s, 0, 0⟩]) := by
          refine Lib.hid ?_
          unfold rollS
          rw [HML.out, HL.out, HX.out]
          rfl
        have HSW := Lib.hid (rollS_sw ss e z s hs.rng he hz ⟨hs0, hs1'⟩ (by rw [HML.out, ← HX.out]; exact ⟨hxr, hx2⟩))
        clear hx
        by_cases hgm : gen = 9223372036854775807
        · have H := Lib.hid (show rollI gen first ss e z s = (1, none) by rw [HR.out, if_pos (.inr (.inl hgm))])
          have HGM := Lib.hid hgm
          clear hgm
          rw [H.out]
          go_enter Try.func61, Try.ntmps61
          go_wp2_with (first | (go_at_call 59; refine (may_any gen first A (m + 1) c ss _ hs1 hc).mono ?_; rw [HM.out]; rintro e w2 ⟨rfl, hb2⟩; have hw2 := below_to hb1 hb1.size hb2; have ht1 := (hb2.block _ (lt_of_block HTN.out.1)).trans HTN.out.1; have ht2 := (hb2.block _ (lt_of_block HTN.out.2)).trans HTN.out.2; have HT1 := Lib.hid ht1; have HT2 := Lib.hid ht2; have hs2 := hs1.below hb2; have y0 := blk_cell ht1 0 (v := some (.int .i64 gen)) rfl; have y1 := blk_cell ht1 1 (v := some (.int .i64 first)) rfl; have y2 := blk_cell ht1 2 (v := some (.slice A (m + 1) c)) rfl; have z0 := blk_cell ht2 0 (v := some (.int .i64 0)) rfl; have z1 := blk_cell ht2 1 (v := some (.int .i64 0)) rfl; have z2 := blk_cell ht2 2 (v := some (.slice none 0 0)) rfl; have f0 := blk_free ht2 0; have f1 := blk_free ht2 1; have f2 := blk_free ht2 2; clear ht1 ht2) | (at_builtin; refine wpList_append_sg (w0 := w) rfl w.heap.size (.const (.slice none 0 0)) (.tmp 26) rfl (.slice none 0 0) [] rfl (OSg.nil _ _) A (m + 1) c ss rfl hs2.rv hw2 (Nat.le_refl _) hw2.size HL.out.symm (by have := HL.out; have := H64.out; simp; omega) ?_; intro v1 w3 hO1 hw3 hg3 hat3; rw [List.nil_append] at hO1; obtain ⟨g1, cap1, hv1, hgb1, hgl1, hnc1⟩ := own_form hO1 (by rw [HL.out]; omega); rw [HL.out] at hv1; subst hv1; have ha0 := own_num hO1 HL.out (by omega) HNUM.out; have HO1 := Lib.hid hO1; have p3 := own_f3 hO1 HL.out (m := m) (by omega); have p4 := own_f4 hO1 HL.out (m := m) (by omega); have q3 := own_fz hO1 HL.out (m * 5 + 3); have q4 := own_fz hO1 HL.out (m * 5 + 4); have HG1 := Lib.hid (own_new hat3 (lt_of_block HT2.out)); have ht1 := (hg3.block _ (lt_of_block HT1.out) (by simp [Value.ownBlock])).trans HT1.out; have ht2 := (hg3.block _ (lt_of_block HT2.out) (by simp [Value.ownBlock])).trans HT2.out; have HU1 := Lib.hid ht1; have HU2 := Lib.hid ht2; clear hO1 hg3 hat3; have y3 := blk_cell ht1 0 (v := some (.int .i64 gen)) rfl; have y4 := blk_cell ht1 1 (v := some (.int .i64 first)) rfl; have y5 := blk_cell ht1 2 (v := some (.slice A (m + 1) c)) rfl; have z3 := blk_cell ht2 0 (v := some (.int .i64 0)) rfl; have z4 := blk_cell ht2 1 (v := some (.int .i64 0)) rfl; have z5 := blk_cell ht2 2 (v := some (.slice none 0 0)) rfl; have f3 := blk_free ht2 0; have f4 := blk_free ht2 1; have f5 := blk_free ht2 2; clear ht1 ht2) | (at_builtin; refine wpList_append_sg (w0 := w) rfl w.heap.size (.tmp 47) (.tmp 56) rfl (.slice (some ⟨g1, 0, none⟩) (m + 1) cap1) (ss.set m { sg ss m with end_ := e, size := z }) rfl (OSg.alloc (own_roll HO1.out HL.out (by omega) e z) _) (some ⟨w3.heap.size, 0, none⟩) 1 1 [⟨x + 1, e, s, 0, 0⟩] rfl (RV_sg (x := ⟨x + 1, e, s, 0, 0⟩) (heap_new3 (by simp) _)) (((hw3.setCell (p := ⟨g1, m * 5 + 3, none⟩) hgb1 (.int .i64 e)).setCell (p := ⟨g1, m * 5 + 4, none⟩) hgb1 (.int .i64 z)).alloc (by have := hw3.size; simp; omega) (.cells #[.int .i64 (x + 1), .int .i64 e, .int .u32 s, .int .i64 0, .int .i64 0] 96)) (Nat.le_refl _) (by have := hw3.size; simp; omega) rfl (by have := HL.out; have := H64.out; simp; omega) ?_; intro v5 w5 hO5 hw5 hg5 hat5; have hO5' : OSg w5 w.heap.size v5 (rollS ss e z s) := (by rw [HS.out]; exact hO5); clear hO5; obtain ⟨A5, n5, c5, rfl, hn5, hc5, hs5⟩ := OSg.read hO5' HSW.out (by have := HL.out; rw [HS.out]; simp; omega); have HO5 := Lib.hid hO5'; have HAT := Lib.hid hat5; have hU1 := blk_old (blk_set_ne (blk_set_ne HU1.out (m * 5 + 3) (.int .i64 e) (by have := HG1.out; omega : w.heap.size ≠ g1)) (m * 5 + 4) (.int .i64 z) (by have := HG1.out; omega : w.heap.size ≠ g1)) (.cells #[.int .i64 (x + 1), .int .i64 e, .int .u32 s, .int .i64 0, .int .i64 0] 96); have hU2 := blk_old (blk_set_ne (blk_set_ne HU2.out (m * 5 + 3) (.int .i64 e) (by have := HG1.out; omega : w.heap.size + 1 ≠ g1)) (m * 5 + 4) (.int .i64 z) (by have := HG1.out; omega : w.heap.size + 1 ≠ g1)) (.cells #[.int .i64 (x + 1), .int .i64 e, .int .u32 s, .int .i64 0, .int .i64 0] 96); have ht1 := (hg5.block _ (lt_of_block hU1) (by have := HG1.out; simp [Value.ownBlock]; omega)).trans hU1; have ht2 := (hg5.block _ (lt_of_block hU2) (by have := HG1.out; simp [Value.ownBlock]; omega)).trans hU2; have HV1 := Lib.hid ht1; have HV2 := Lib.hid ht2; have y6 := blk_cell ht1 0 (v := some (.int .i64 gen)) rfl; have y7 := blk_cell ht1 1 (v := some (.int .i64 first)) rfl; have y8 := blk_cell ht1 2 (v := some (.slice A (m + 1) c)) rfl; clear hU1 hU2 ht1 ht2 hg5 hat5 hO5' hn5) | (go_at_call 110; refine (next_no2 HGM.out first first A A5 (m + 1) c n5 c5 _).mono ?_; rintro e' w6 ⟨rfl, hb6⟩; have hw6 := below_to hw5 hw5.size hb6; have ht2 := (hb6.block _ (lt_of_block HV2.out)).trans HV2.out; have HW2 := Lib.hid (blk_old ht2 (.cells #[.int .i64 0, .int .i64 0, .slice none 0 0] 78)); have HHb := Lib.hid hb6; have z6 := blk_cell HW2.out 0 (v := some (.int .i64 0)) rfl; have z7 := blk_cell HW2.out 1 (v := some (.int .i64 0)) rfl; have z8 := blk_cell HW2.out 2 (v := some (.slice none 0 0)) rfl; have f6 := blk_free HW2.out 0; have f7 := blk_free HW2.out 1; have f8 := blk_free HW2.out 2; have hw7 := hw6.alloc hw6.size (.cells #[.int .i64 0, .int .i64 0, .slice none 0 0] 78); clear ht2))
          (have c0' := blk_cell (three_put (HW2).out (.int .i64 0) (.int .i64 0) (.slice none 0 0)) 0 (v := some (.int .i64 0)) rfl; have c1' := blk_cell (three_put (HW2).out (.int .i64 0) (.int .i64 0) (.slice none 0 0)) 1 (v := some (.int .i64 0)) rfl; have c2' := blk_cell (three_put (HW2).out (.int .i64 0) (.int .i64 0) (.slice none 0 0)) 2 (v := some (.slice none 0 0)) rfl; exact bodyPost_ret (v := .tuple #[.agg #[.int .i64 0, .int .i64 0, .slice none 0 0], .int .i64 1]) (by simp [results, Try.results61, go_sem, c0', c1', c2']) rfl ⟨_, rfl, rfl, three_below hw7 (by simp) _ _ _⟩)
        · have hg2 : gen < 9223372036854775807 := by have := hg.2; omega
          cases hb : mayB (gen + 1) first (rollS ss e z s)
          · have HB := Lib.hid hb
            have H := Lib.hid (show rollI gen first ss e z s = (1, none) by rw [HR.out, if_pos (.inr (.inr hb))])
            clear hb hgm
            rw [H.out]
            go_enter Try.func61, Try.ntmps61
            go_wp2_with (first | (go_at_call 59; refine (may_any gen first A (m + 1) c ss _ hs1 hc).mono ?_; rw [HM.out]; rintro e w2 ⟨rfl, hb2⟩; have hw2 := below_to hb1 hb1.size hb2; have ht1 := (hb2.block _ (lt_of_block HTN.out.1)).trans HTN.out.1; have ht2 := (hb2.block _ (lt_of_block HTN.out.2)).trans HTN.out.2; have HT1 := Lib.hid ht1; have HT2 := Lib.hid ht2; have hs2 := hs1.below hb2; have y0 := blk_cell ht1 0 (v := some (.int .i64 gen)) rfl; have y1 := blk_cell ht1 1 (v := some (.int .i64 first)) rfl; have y2 := blk_cell ht1 2 (v := some (.slice A (m + 1) c)) rfl; have z0 := blk_cell ht2 0 (v := some (.int .i64 0)) rfl; have z1 := blk_cell ht2 1 (v := some (.int .i64 0)) rfl; have z2 := blk_cell ht2 2 (v := some (.slice none 0 0)) rfl; have f0 := blk_free ht2 0; have f1 := blk_free ht2 1; have f2 := blk_free ht2 2; clear ht1 ht2) | (at_builtin; refine wpList_append_sg (w0 := w) rfl w.heap.size (.const (.slice none 0 0)) (.tmp 26) rfl (.slice none 0 0) [] rfl (OSg.nil _ _) A (m + 1) c ss rfl hs2.rv hw2 (Nat.le_refl _) hw2.size HL.out.symm (by have := HL.out; have := H64.out; simp; omega) ?_; intro v1 w3 hO1 hw3 hg3 hat3; rw [List.nil_append] at hO1; obtain ⟨g1, cap1, hv1, hgb1, hgl1, hnc1⟩ := own_form hO1 (by rw [HL.out]; omega); rw [HL.out] at hv1; subst hv1; have ha0 := own_num hO1 HL.out (by omega) HNUM.out; have HO1 := Lib.hid hO1; have p3 := own_f3 hO1 HL.out (m := m) (by omega); have p4 := own_f4 hO1 HL.out (m := m) (by omega); have q3 := own_fz hO1 HL.out (m * 5 + 3); have q4 := own_fz hO1 HL.out (m * 5 + 4); have HG1 := Lib.hid (own_new hat3 (lt_of_block HT2.out)); have ht1 := (hg3.block _ (lt_of_block HT1.out) (by simp [Value.ownBlock])).trans HT1.out; have ht2 := (hg3.block _ (lt_of_block HT2.out) (by simp [Value.ownBlock])).trans HT2.out; have HU1 := Lib.hid ht1; have HU2 := Lib.hid ht2; clear hO1 hg3 hat3; have y3 := blk_cell ht1 0 (v := some (.int .i64 gen)) rfl; have y4 := blk_cell ht1 1 (v := some (.int .i64 first)) rfl; have y5 := blk_cell ht1 2 (v := some (.slice A (m + 1) c)) rfl; have z3 := blk_cell ht2 0 (v := some (.int .i64 0)) rfl; have z4 := blk_cell ht2 1 (v := some (.int .i64 0)) rfl; have z5 := blk_cell ht2 2 (v := some (.slice none 0 0)) rfl; have f3 := blk_free ht2 0; have f4 := blk_free ht2 1; have f5 := blk_free ht2 2; clear ht1 ht2) | (at_builtin; refine wpList_append_sg (w0 := w) rfl w.heap.size (.tmp 47) (.tmp 56) rfl (.slice (some ⟨g1, 0, none⟩) (m + 1) cap1) (ss.set m { sg ss m with end_ := e, size := z }) rfl (OSg.alloc (own_roll HO1.out HL.out (by omega) e z) _) (some ⟨w3.heap.size, 0, none⟩) 1 1 [⟨x + 1, e, s, 0, 0⟩] rfl (RV_sg (x := ⟨x + 1, e, s, 0, 0⟩) (heap_new3 (by simp) _)) (((hw3.setCell (p := ⟨g1, m * 5 + 3, none⟩) hgb1 (.int .i64 e)).setCell (p := ⟨g1, m * 5 + 4, none⟩) hgb1 (.int .i64 z)).alloc (by have := hw3.size; simp; omega) (.cells #[.int .i64 (x + 1), .int .i64 e, .int .u32 s, .int .i64 0, .int .i64 0] 96)) (Nat.le_refl _) (by have := hw3.size; simp; omega) rfl (by have := HL.out; have := H64.out; simp; omega) ?_; intro v5 w5 hO5 hw5 hg5 hat5; have hO5' : OSg w5 w.heap.size v5 (rollS ss e z s) := (by rw [HS.out]; exact hO5); clear hO5; obtain ⟨A5, n5, c5, rfl, hn5, hc5, hs5⟩ := OSg.read hO5' HSW.out (by have := HL.out; rw [HS.out]; simp; omega); have HO5 := Lib.hid hO5'; have HAT := Lib.hid hat5; have hU1 := blk_old (blk_set_ne (blk_set_ne HU1.out (m * 5 + 3) (.int .i64 e) (by have := HG1.out; omega : w.heap.size ≠ g1)) (m * 5 + 4) (.int .i64 z) (by have := HG1.out; omega : w.heap.size ≠ g1)) (.cells #[.int .i64 (x + 1), .int .i64 e, .int .u32 s, .int .i64 0, .int .i64 0] 96); have hU2 := blk_old (blk_set_ne (blk_set_ne HU2.out (m * 5 + 3) (.int .i64 e) (by have := HG1.out; omega : w.heap.size + 1 ≠ g1)) (m * 5 + 4) (.int .i64 z) (by have := HG1.out; omega : w.heap.size + 1 ≠ g1)) (.cells #[.int .i64 (x + 1), .int .i64 e, .int .u32 s, .int .i64 0, .int .i64 0] 96); have ht1 := (hg5.block _ (lt_of_block hU1) (by have := HG1.out; simp [Value.ownBlock]; omega)).trans hU1; have ht2 := (hg5.block _ (lt_of_block hU2) (by have := HG1.out; simp [Value.ownBlock]; omega)).trans hU2; have HV1 := Lib.hid ht1; have HV2 := Lib.hid ht2; have y6 := blk_cell ht1 0 (v := some (.int .i64 gen)) rfl; have y7 := blk_cell ht1 1 (v := some (.int .i64 first)) rfl; have y8 := blk_cell ht1 2 (v := some (.slice A (m + 1) c)) rfl; clear hU1 hU2 ht1 ht2 hg5 hat5 hO5' hn5) | (go_at_call 110; refine (next_yes gen first first A A5 (m + 1) c n5 c5 _ _ hs5 hc5 hg.1 hg2).mono ?_; rw [HB.out]; rintro e' w6 ⟨rfl, hb6⟩; have hw6 := below_to hw5 hw5.size hb6; have ht2 := (hb6.block _ (lt_of_block HV2.out)).trans HV2.out; have HW2 := Lib.hid (blk_old ht2 (.cells #[.int .i64 (gen + 1), .int .i64 first, .slice A5 n5 c5] 78)); have HHb := Lib.hid hb6; have z6 := blk_cell HW2.out 0 (v := some (.int .i64 0)) rfl; have z7 := blk_cell HW2.out 1 (v := some (.int .i64 0)) rfl; have z8 := blk_cell HW2.out 2 (v := some (.slice none 0 0)) rfl; have f6 := blk_free HW2.out 0; have f7 := blk_free HW2.out 1; have f8 := blk_free HW2.out 2; have hw7 := hw6.alloc hw6.size (.cells #[.int .i64 (gen + 1), .int .i64 first, .slice A5 n5 c5] 78); clear ht2))
            (have c0' := blk_cell (three_put (HW2).out (.int .i64 0) (.int .i64 0) (.slice none 0 0)) 0 (v := some (.int .i64 0)) rfl; have c1' := blk_cell (three_put (HW2).out (.int .i64 0) (.int .i64 0) (.slice none 0 0)) 1 (v := some (.int .i64 0)) rfl; have c2' := blk_cell (three_put (HW2).out (.int .i64 0) (.int .i64 0) (.slice none 0 0)) 2 (v := some (.slice none 0 0)) rfl; exact bodyPost_ret (v := .tuple #[.agg #[.int .i64 0, .int .i64 0, .slice none 0 0], .int .i64 1]) (by simp [results, Try.results61, go_sem, c0', c1', c2']) rfl ⟨_, rfl, rfl, three_below hw7 (by simp) _ _ _⟩)
          · have HB := Lib.hid hb
            have H := Lib.hid (show rollI gen first ss e z s = (0, some (rollS ss e z s)) by rw [HR.out, if_neg (by intro h; rcases h with h | h | h; omega; omega; rw [hb] at h; cases h)])
            clear hb hgm
            rw [H.out]
            go_enter Try.func61, Try.ntmps61
            go_wp2_with (first | (go_at_call 59; refine (may_any gen first A (m + 1) c ss _ hs1 hc).mono ?_; rw [HM.out]; rintro e w2 ⟨rfl, hb2⟩; have hw2 := below_to hb1 hb1.size hb2; have ht1 := (hb2.block _ (lt_of_block HTN.out.1)).trans HTN.out.1; have ht2 := (hb2.block _ (lt_of_block HTN.out.2)).trans HTN.out.2; have HT1 := Lib.hid ht1; have HT2 := Lib.hid ht2; have hs2 := hs1.below hb2; have y0 := blk_cell ht1 0 (v := some (.int .i64 gen)) rfl; have y1 := blk_cell ht1 1 (v := some (.int .i64 first)) rfl; have y2 := blk_cell ht1 2 (v := some (.slice A (m + 1) c)) rfl; have z0 := blk_cell ht2 0 (v := some (.int .i64 0)) rfl; have z1 := blk_cell ht2 1 (v := some (.int .i64 0)) rfl; have z2 := blk_cell ht2 2 (v := some (.slice none 0 0)) rfl; have f0 := blk_free ht2 0; have f1 := blk_free ht2 1; have f2 := blk_free ht2 2; clear ht1 ht2) | (at_builtin; refine wpList_append_sg (w0 := w) rfl w.heap.size (.const (.slice none 0 0)) (.tmp 26) rfl (.slice none 0 0) [] rfl (OSg.nil _ _) A (m + 1) c ss rfl hs2.rv hw2 (Nat.le_refl _) hw2.size HL.out.symm (by have := HL.out; have := H64.out; simp; omega) ?_; intro v1 w3 hO1 hw3 hg3 hat3; rw [List.nil_append] at hO1; obtain ⟨g1, cap1, hv1, hgb1, hgl1, hnc1⟩ := own_form hO1 (by rw [HL.out]; omega); rw [HL.out] at hv1; subst hv1; have ha0 := own_num hO1 HL.out (by omega) HNUM.out; have HO1 := Lib.hid hO1; have p3 := own_f3 hO1 HL.out (m := m) (by omega); have p4 := own_f4 hO1 HL.out (m := m) (by omega); have q3 := own_fz hO1 HL.out (m * 5 + 3); have q4 := own_fz hO1 HL.out (m * 5 + 4); have HG1 := Lib.hid (own_new hat3 (lt_of_block HT2.out)); have ht1 := (hg3.block _ (lt_of_block HT1.out) (by simp [Value.ownBlock])).trans HT1.out; have ht2 := (hg3.block _ (lt_of_block HT2.out) (by simp [Value.ownBlock])).trans HT2.out; have HU1 := Lib.hid ht1; have HU2 := Lib.hid ht2; clear hO1 hg3 hat3; have y3 := blk_cell ht1 0 (v := some (.int .i64 gen)) rfl; have y4 := blk_cell ht1 1 (v := some (.int .i64 first)) rfl; have y5 := blk_cell ht1 2 (v := some (.slice A (m + 1) c)) rfl; have z3 := blk_cell ht2 0 (v := some (.int .i64 0)) rfl; have z4 := blk_cell ht2 1 (v := some (.int .i64 0)) rfl; have z5 := blk_cell ht2 2 (v := some (.slice none 0 0)) rfl; have f3 := blk_free ht2 0; have f4 := blk_free ht2 1; have f5 := blk_free ht2 2; clear ht1 ht2) | (at_builtin; refine wpList_append_sg (w0 := w) rfl w.heap.size (.tmp 47) (.tmp 56) rfl (.slice (some ⟨g1, 0, none⟩) (m + 1) cap1) (ss.set m { sg ss m with end_ := e, size := z }) rfl (OSg.alloc (own_roll HO1.out HL.out (by omega) e z) _) (some ⟨w3.heap.size, 0, none⟩) 1 1 [⟨x + 1, e, s, 0, 0⟩] rfl (RV_sg (x := ⟨x + 1, e, s, 0, 0⟩) (heap_new3 (by simp) _)) (((hw3.setCell (p := ⟨g1, m * 5 + 3, none⟩) hgb1 (.int .i64 e)).setCell (p := ⟨g1, m * 5 + 4, none⟩) hgb1 (.int .i64 z)).alloc (by have := hw3.size; simp; omega) (.cells #[.int .i64 (x + 1), .int .i64 e, .int .u32 s, .int .i64 0, .int .i64 0] 96)) (Nat.le_refl _) (by have := hw3.size; simp; omega) rfl (by have := HL.out; have := H64.out; simp; omega) ?_; intro v5 w5 hO5 hw5 hg5 hat5; have hO5' : OSg w5 w.heap.size v5 (rollS ss e z s) := (by rw [HS.out]; exact hO5); clear hO5; obtain ⟨A5, n5, c5, rfl, hn5, hc5, hs5⟩ := OSg.read hO5' HSW.out (by have := HL.out; rw [HS.out]; simp; omega); have HO5 := Lib.hid hO5'; have HAT := Lib.hid hat5; have hU1 := blk_old (blk_set_ne (blk_set_ne HU1.out (m * 5 + 3) (.int .i64 e) (by have := HG1.out; omega : w.heap.size ≠ g1)) (m * 5 + 4) (.int .i64 z) (by have := HG1.out; omega : w.heap.size ≠ g1)) (.cells #[.int .i64 (x + 1), .int .i64 e, .int .u32 s, .int .i64 0, .int .i64 0] 96); have hU2 := blk_old (blk_set_ne (blk_set_ne HU2.out (m * 5 + 3) (.int .i64 e) (by have := HG1.out; omega : w.heap.size + 1 ≠ g1)) (m * 5 + 4) (.int .i64 z) (by have := HG1.out; omega : w.heap.size + 1 ≠ g1)) (.cells #[.int .i64 (x + 1), .int .i64 e, .int .u32 s, .int .i64 0, .int .i64 0] 96); have ht1 := (hg5.block _ (lt_of_block hU1) (by have := HG1.out; simp [Value.ownBlock]; omega)).trans hU1; have ht2 := (hg5.block _ (lt_of_block hU2) (by have := HG1.out; simp [Value.ownBlock]; omega)).trans hU2; have HV1 := Lib.hid ht1; have HV2 := Lib.hid ht2; have y6 := blk_cell ht1 0 (v := some (.int .i64 gen)) rfl; have y7 := blk_cell ht1 1 (v := some (.int .i64 first)) rfl; have y8 := blk_cell ht1 2 (v := some (.slice A (m + 1) c)) rfl; clear hU1 hU2 ht1 ht2 hg5 hat5 hO5' hn5) | (go_at_call 110; refine (next_yes gen first first A A5 (m + 1) c n5 c5 _ _ hs5 hc5 hg.1 hg2).mono ?_; rw [HB.out]; rintro e' w6 ⟨rfl, hb6⟩; have hw6 := below_to hw5 hw5.size hb6; have ht2 := (hb6.block _ (lt_of_block HV2.out)).trans HV2.out; have HW2 := Lib.hid (blk_old ht2 (.cells #[.int .i64 (gen + 1), .int .i64 first, .slice A5 n5 c5] 78)); have HHb := Lib.hid hb6; have z6 := blk_cell HW2.out 0 (v := some (.int .i64 0)) rfl; have z7 := blk_cell HW2.out 1 (v := some (.int .i64 0)) rfl; have z8 := blk_cell HW2.out 2 (v := some (.slice none 0 0)) rfl; have f6 := blk_free HW2.out 0; have f7 := blk_free HW2.out 1; have f8 := blk_free HW2.out 2; have hw7 := hw6.alloc hw6.size (.cells #[.int .i64 (gen + 1), .int .i64 first, .slice A5 n5 c5] 78); clear ht2))
            have k3 := three_put HW2.out (.int .i64 (gen + 1)) (.int .i64 first) (.slice A5 n5 c5)
            have c0' := blk_cell k3 0 (v := some (.int .i64 (gen + 1))) rfl
            have c1' := blk_cell k3 1 (v := some (.int .i64 first)) rfl
            have c2' := blk_cell k3 2 (v := some (.slice A5 n5 c5)) rfl
            clear k3
            have hlt := lt_of_block HU2.out
            have hne : (Value.slice A5 n5 c5).ownBlock ≠ some (w.heap.size + 1) := by
              rcases HAT.out with h | h <;> rw [h]
              · have := HG1.out; simp [Value.ownBlock]; omega
              · simp; omega
            have hOf := ((HO5.out.below HHb.out).alloc (.cells #[.int .i64 (gen + 1), .int .i64 first, .slice A5 n5 c5] 78)).put3 hne (.int .i64 (gen + 1)) (.int .i64 first) (.slice A5 n5 c5)
            exact bodyPost_ret (v := .tuple #[.agg #[.int .i64 (gen + 1), .int .i64 first, .slice A5 n5 c5], .int .i64 0]) (by simp [results, Try.results61, go_sem, c0', c1', c2']) rfl ⟨_, rfl, ⟨_, rfl, hOf⟩, three_below hw7 (by simp) _ _ _⟩
end Go.Proofs.Ythggicgbcgeggaa
