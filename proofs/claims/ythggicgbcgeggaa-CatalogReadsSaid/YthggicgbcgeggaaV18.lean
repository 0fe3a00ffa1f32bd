/- Words on lists that are kept apart; walks: flumelaw1.Room and Keep. -/
import Derived.Test.YthggicgbcgeggaaV17
import Derived.Deep.RegionLaw
set_option linter.unusedVariables false
set_option linter.unusedSimpArgs false
namespace Go.Proofs.Ythggicgbcgeggaa
open Go.RowKit
def room (n c : Int) : Int := if c ≤ n + 5000 then c else n + 5000
set_option maxHeartbeats 400000 in
theorem room_any (n c : Int) (h0 : 0 ≤ n) (h1 : n ≤ 4611686018427387904) (w : World) :
    Calls Try.prog 86 #[.int .i64 n, .int .i64 c] w fun e w' => e = .returned (.int .i64 (room n c)) ∧ w = w' := by
  by_cases h : c ≤ n + 5000
  · have hr := Lib.hid (show room n c = c by unfold room; rw [if_pos h])
    go_enter Try.func86, Try.ntmps86
    go_wp2_with fail
    go_ret
    exact ⟨by rw [hr.out]; first | rfl | simp [h] | (simp; omega), rfl⟩
  · have hr := Lib.hid (show room n c = n + 5000 by unfold room; rw [if_neg h])
    go_enter Try.func86, Try.ntmps86
    go_wp2_with fail
    go_ret
    exact ⟨by rw [hr.out]; first | rfl | simp [h] | (simp; omega), rfl⟩
/-- only blocks of P have turned -/
structure Fr (w w' : World) (P : Nat → Prop) : Prop where
  os : w'.os = w.os
  tape : w'.tape = w.tape
  output : w'.output = w.output
  size : w.heap.size ≤ w'.heap.size
  block : ∀ k, k < w.heap.size → ¬ P k → w'.heap[k]? = w.heap[k]?
theorem Fr.refl (w : World) (P : Nat → Prop) : Fr w w P := ⟨rfl, rfl, rfl, Nat.le_refl _, fun _ _ _ => rfl⟩
theorem Fr.trans {w w1 w2 : World} {P Q : Nat → Prop} (h : Fr w w1 P) (k : Fr w1 w2 Q) (hq : ∀ i, i < w.heap.size → Q i → P i) : Fr w w2 P :=
  ⟨k.os.trans h.os, k.tape.trans h.tape, k.output.trans h.output, Nat.le_trans h.size k.size, fun i hi hp => (k.block i (Nat.lt_of_lt_of_le hi h.size) (fun hh => hp (hq i hi hh))).trans (h.block i hi hp)⟩
theorem Fr.of_grown {w w' : World} {r : Option Nat} {P : Nat → Prop} (h : w.grownBy w' r) (hp : ∀ k, r = some k → P k) : Fr w w' P :=
  ⟨h.os, h.tape, h.output, h.size, fun k hk hn => h.block k hk (fun e => hn (hp k e.symm))⟩
theorem Fr.below {w w1 w2 : World} {P : Nat → Prop} (h : Fr w1 w2 P) (hB : Below w.heap.size w w1) (hp : ∀ k, P k → w.heap.size ≤ k) : Below w.heap.size w w2 :=
  ⟨h.os.trans hB.os, h.tape.trans hB.tape, h.output.trans hB.output, Nat.le_trans hB.size h.size, fun k hk => (h.block k (Nat.lt_of_lt_of_le hk hB.size) (fun hh => by have := hp k hh; omega)).trans (hB.block k hk)⟩
theorem Fr.drewN {w w' : World} {P : Nat → Prop} (h : Fr w w' P) (k : Nat) : Fr w (w'.drewN k) P := ⟨h.os, h.tape, h.output, h.size, h.block⟩
/-- a kept list: its block, its room, its bytes -/
structure KL where
  g : Nat
  cap : Nat
  l : List Int
def KL.v (k : KL) : Value := .slice (some ⟨k.g, 0, none⟩) k.l.length k.cap
def kd : KL := ⟨0, 0, []⟩
/-- the kept lists: the struct at kb, each list a block of its own -/
structure KB (w : World) (base kb : Nat) (lv : Value) (sz : Int) (T : Nat) (ks : List KL) : Prop where
  blk : w.heap[kb]? = some (.cells #[lv, .int .i64 sz] 43 (0, 0))
  s0 : 0 ≤ sz
  s1 : sz ≤ 4194304
  cnt : (ks.length : Int) ≤ sz
  hb : base ≤ kb
  row : w.ownsRow base 25 1 lv ks.length (ks.map KL.v)
  own : ∀ i, i < ks.length → OB 5 w base (ks.getD i kd).v (ks.getD i kd).l
  top : ∀ i, i < ks.length → (ks.getD i kd).l.length ≤ T
  apart : ∀ i j, i < j → j < ks.length → (ks.getD i kd).g ≠ (ks.getD j kd).g
/-- owned rows of unlike kinds are unlike blocks -/
theorem own_type {w : World} {b : Nat} {e : TypeId} {s n : Nat} {v : Value} {xs : List Value} (h : w.ownsRow b e s v n xs) {k : Nat} (hk : v.ownBlock = some k) : ∃ cur, w.heap[k]? = some (.cells cur e (0, 0)) := by
  rcases h.2 with ⟨rfl, _⟩ | ⟨g, cap, cur, rfl, _, hh, _⟩
  · simp [Value.ownBlock] at hk
  · have : g = k := by simpa [Value.ownBlock] using hk
    subst this
    exact ⟨cur, hh⟩
theorem blk_type {w : World} {k : Nat} {c1 c2 : Array Value} {e1 e2 : TypeId} {f1 f2 : Nat × Nat} (h1 : w.heap[k]? = some (.cells c1 e1 f1)) (h2 : w.heap[k]? = some (.cells c2 e2 f2)) : e1 = e2 := by
  rw [h1] at h2
  injection h2 with h2
  injection h2
theorem own_fr {w w' : World} {b : Nat} {e : TypeId} {s n : Nat} {v : Value} {xs : List Value} (h : w.ownsRow b e s v n xs) (hb : ∀ k, v.ownBlock = some k → w'.heap[k]? = w.heap[k]?) : w'.ownsRow b e s v n xs := by
  refine ⟨h.1, ?_⟩
  rcases h.2 with h2 | ⟨g, cap, cur, rfl, hg, hh, r⟩
  · exact .inl h2
  · exact .inr ⟨g, cap, cur, rfl, hg, (hb g rfl).trans hh, r⟩
theorem OB.fr {e : TypeId} {w w' : World} {base : Nat} {v : Value} {l : List Int} {P : Nat → Prop} (h : OB e w base v l) (hf : Fr w w' P) (hne : ∀ k, v.ownBlock = some k → ¬ P k) : OB e w' base v l :=
  own_fr h fun k hk => hf.block k (own_blk_lt h k hk).2 (hne k hk)
/-- the blocks that Keep turns -/
def KP (kb : Nat) (lv : Value) (k : Nat) : Prop := k = kb ∨ lv.ownBlock = some k
theorem KB.ne5 {w : World} {base kb : Nat} {lv : Value} {sz : Int} {T : Nat} {ks : List KL} (h : KB w base kb lv sz T ks) {b : Nat} {v : Value} {l : List Int} (ho : OB 5 w b v l) {k : Nat} (hk : v.ownBlock = some k) : ¬ KP kb lv k := by
  obtain ⟨cur, hc⟩ := own_type ho hk
  rintro (rfl | h2)
  · exact absurd (blk_type hc h.blk) (by decide)
  · obtain ⟨c2, h3⟩ := own_type h.row h2
    exact absurd (blk_type hc h3) (by decide)
theorem getD_app1 (ks ns : List KL) (i : Nat) (h : i < ks.length) : (ks ++ ns).getD i kd = ks.getD i kd := by
  rw [List.getD_eq_getElem?_getD, List.getD_eq_getElem?_getD, List.getElem?_append_left h]
theorem getD_app2 (ks ns : List KL) (i : Nat) : (ks ++ ns).getD (ks.length + i) kd = ns.getD i kd := by
  rw [List.getD_eq_getElem?_getD, List.getD_eq_getElem?_getD, List.getElem?_append_right (by omega)]; congr 2; omega
theorem KB.add {w w' : World} {base kb : Nat} {lv lv' : Value} {sz sz' : Int} {T : Nat} {ks : List KL} (h : KB w base kb lv sz T ks) (k : KL)
    (blk : w'.heap[kb]? = some (.cells #[lv', .int .i64 sz'] 43 (0, 0))) (s0 : (ks.length : Int) + 1 ≤ sz') (s1 : sz' ≤ 4194304)
    (row : w'.ownsRow base 25 1 lv' (ks.length + 1) (ks.map KL.v ++ [k.v])) (hf : Fr w w' (KP kb lv)) (ho : OB 5 w base k.v k.l) (ht : k.l.length ≤ T) (ha : ∀ i, i < ks.length → (ks.getD i kd).g ≠ k.g) :
    KB w' base kb lv' sz' T (ks ++ [k]) := by
  have hlen : (ks ++ [k]).length = ks.length + 1 := by simp
  have hlast : (ks ++ [k]).getD ks.length kd = k := by simp
  refine ⟨blk, by omega, s1, by rw [hlen]; omega, h.hb, by rw [hlen, List.map_append]; exact row, fun i hi => ?_, fun i hi => ?_, fun i j hij hj => ?_⟩
  · rw [hlen] at hi
    by_cases e : i < ks.length
    · rw [getD_app1 _ _ _ e]; exact (h.own i e).fr hf (fun q hq => h.ne5 (h.own i e) hq)
    · obtain rfl : i = ks.length := by omega
      rw [hlast]; exact ho.fr hf (fun q hq => h.ne5 ho hq)
  · rw [hlen] at hi
    by_cases e : i < ks.length
    · rw [getD_app1 _ _ _ e]; exact h.top i e
    · obtain rfl : i = ks.length := by omega
      rw [hlast]; exact ht
  · rw [hlen] at hj
    by_cases e : j < ks.length
    · rw [getD_app1 _ _ _ e, getD_app1 _ _ _ (by omega)]; exact h.apart i j hij e
    · obtain rfl : j = ks.length := by omega
      rw [hlast, getD_app1 _ _ _ hij]; exact ha i hij
/-- nothing of the kept has turned -/
theorem KB.fr {w w' : World} {base kb : Nat} {lv : Value} {sz : Int} {T : Nat} {ks : List KL} (h : KB w base kb lv sz T ks) {P : Nat → Prop} (hf : Fr w w' P) (h1 : ¬ P kb) (h2 : ∀ k, lv.ownBlock = some k → ¬ P k) (h3 : ∀ i, i < ks.length → ¬ P (ks.getD i kd).g) : KB w' base kb lv sz T ks :=
  ⟨(hf.block kb (lt_of_block h.blk) h1).trans h.blk, h.s0, h.s1, h.cnt, h.hb, own_fr h.row fun k hk => hf.block k (own_blk_lt h.row k hk).2 (h2 k hk),
    fun i hi => (h.own i hi).fr hf (fun k hk => by obtain rfl : (ks.getD i kd).g = k := by simpa [KL.v, Value.ownBlock] using hk
                                                   exact h3 i hi), h.top, h.apart⟩
theorem Fr.of_below {w w' : World} (h : Below w.heap.size w w') (P : Nat → Prop) : Fr w w' P := ⟨h.os, h.tape, h.output, h.size, fun k hk _ => h.block k hk⟩
theorem KB.below {w w' : World} {base kb : Nat} {lv : Value} {sz : Int} {T : Nat} {ks : List KL} (h : KB w base kb lv sz T ks) (hb : Below w.heap.size w w') : KB w' base kb lv sz T ks :=
  h.fr (Fr.of_below hb (fun _ => False)) (fun h => h) (fun _ _ h => h) (fun _ _ h => h)
theorem KB.drewN {w : World} {base kb : Nat} {lv : Value} {sz : Int} {T : Nat} {ks : List KL} (h : KB w base kb lv sz T ks) (k : Nat) : KB (w.drewN k) base kb lv sz T ks := ⟨h.blk, h.s0, h.s1, h.cnt, h.hb, h.row, h.own, h.top, h.apart⟩
theorem KB.setSz {w : World} {base kb : Nat} {lv : Value} {sz : Int} {T : Nat} {ks : List KL} (h : KB w base kb lv sz T ks) (sz' : Int) (h0 : sz ≤ sz') (h1 : sz' ≤ 4194304) : KB (w.setCell ⟨kb, 1, none⟩ (.int .i64 sz')) base kb lv sz' T ks := by
  have hf : Fr w (w.setCell ⟨kb, 1, none⟩ (.int .i64 sz')) (fun k => k = kb) := Fr.of_grown (grown_setCell 1 _) (fun k e => by injection e with e; exact e.symm)
  have hs := h.s0
  have hc := h.cnt
  refine ⟨blk_set h.blk 1 _, by omega, h1, by omega, h.hb, own_fr h.row fun k hk => hf.block k (own_blk_lt h.row k hk).2 (fun e => ?_), fun i hi => (h.own i hi).fr hf (fun k hk e => h.ne5 (h.own i hi) hk (.inl e)), h.top, h.apart⟩
  obtain ⟨c2, h3⟩ := own_type h.row hk
  rw [e] at h3
  exact absurd (blk_type h.blk h3) (by decide)
theorem KB.lvne {w : World} {base kb : Nat} {lv : Value} {sz : Int} {T : Nat} {ks : List KL} (h : KB w base kb lv sz T ks) : lv.ownBlock ≠ some kb := fun e => by
  obtain ⟨c2, h3⟩ := own_type h.row e
  exact absurd (blk_type h.blk h3) (by decide)
theorem KB.glt {w : World} {base kb : Nat} {lv : Value} {sz : Int} {T : Nat} {ks : List KL} (h : KB w base kb lv sz T ks) (i : Nat) (hi : i < ks.length) : base ≤ (ks.getD i kd).g ∧ (ks.getD i kd).g < w.heap.size := own_blk_lt (h.own i hi) _ rfl
section
variable {P : Program} {ops : Array Oper} {o : Oper} {a : Act} {K : Act → World → Prop} {Q : Exit → Act → World → Prop} {E : Prop}
/-- append(v, ys...) as one step of a region that draws -/
theorem step_append_rv {w : World} (hgd : o.guard = none) (base : Nat) (s x : Operand) (t e : TypeId) (z : Value) (sz bytes : Nat)
    (ho : o.op = .call { callee := .builtin .append, args := #[s, x], argTypes := #[t, t] })
    (ht : P.underlying t = some (.slice e)) (hinfo : (P.info? e).map (fun i => (i.zero, i.size, i.bytes)) = some (some z, sz, bytes))
    (hzs : z.cells.size = sz) (hsz : 0 < sz) (hb0 : 0 < bytes) (v : Value) (n : Nat) (xs : List Value) (hs : a.eval s = v) (HO : w.ownsRow base e sz v n xs) (A : Option Addr) (m c : Nat) (ys : List Value) (hx : a.eval x = .slice A m c) (HR : RV w A m sz ys)
    (hbytes : (n + m) * bytes ≤ 140737488355328) (hbase : base ≤ w.heap.size)
    (h : ∀ v' w', w'.ownsRow base e sz v' (n + m) (xs ++ ys) → w.grownBy w' v.ownBlock → (v'.ownBlock = v.ownBlock ∨ v'.ownBlock = some w.heap.size) → K (a.put o.dst v') w') :
    if Region.wanted o (yielded ops a.tmps) = true then Oper.wp P o a w K Q else E := by
  have hw : Region.wanted o (yielded ops a.tmps) = true := by simp [Region.wanted, hgd]
  rw [if_pos hw]
  exact wp_append_rv base s x t e z sz bytes ho ht hinfo hzs hsz hb0 v n xs hs HO A m c ys hx HR hbytes hbase h
end
theorem info25 : (Try.prog.info? 25).map (fun i => (i.zero, i.size, i.bytes)) = some (some (.slice none 0 0), 1, 24) := by kernel_rfl
/-- one cell just made is read -/
theorem RV_one {w : World} {g : Nat} {x : Value} {t : TypeId} {fr : Nat × Nat} (h : w.heap[g]? = some (.cells #[x] t fr)) (h1 : x.oneCell' = true) : RV w (some ⟨g, 0, none⟩) 1 1 [x] :=
  ⟨rfl, fun v hv => by simp at hv; subst hv; exact h1, fun j v hv => ⟨_, rfl, by
    have hj : j = 0 := by
      rcases j with _ | j
      · rfl
      · simp at hv
    subst hj
    simp at hv
    subst hv
    exact blk_cell h 0 rfl⟩⟩
/-- a list that is handed to Keep -/
structure UL where
  v : Value
  l : List Int
def ud : UL := ⟨.slice none 0 0, []⟩
theorem own_cap {e : TypeId} {w : World} {base : Nat} {v : Value} {l : List Int} (h : OB e w base v l) :
    ∃ A c, v = .slice A l.length c ∧ l.length ≤ c ∧ c ≤ 9223372036854775807 ∧ (0 < c → ∃ g, A = some ⟨g, 0, none⟩) := by
  have h1 := h.1
  rcases h.2 with ⟨rfl, h0⟩ | ⟨g, cap, cur, rfl, _, _, hc, hm, _⟩
  · exact ⟨none, 0, by rw [h0], by omega, by omega, by omega⟩
  · exact ⟨_, cap, rfl, hc, hm, fun _ => ⟨g, rfl⟩⟩
/-- what a call of Keep asks of the lists -/
structure US (w : World) (base va : Nat) (us : List UL) (ks : List KL) : Prop where
  arr : w.heap[va]? = some (.cells (us.map UL.v).toArray 25 (0, 0))
  own : ∀ j, j < us.length → OB 5 w base (us.getD j ud).v (us.getD j ud).l
  top : ∀ j, j < us.length → (us.getD j ud).l.length ≤ 140737488355328
  apart : ∀ i j, i < j → j < us.length → ∀ k, (us.getD i ud).v.ownBlock = some k → (us.getD j ud).v.ownBlock ≠ some k
  far : ∀ i j, i < ks.length → j < us.length → (us.getD j ud).v.ownBlock ≠ some (ks.getD i kd).g
theorem US.cell {w : World} {base va : Nat} {us : List UL} {ks : List KL} (h : US w base va us ks) (j : Nat) (hj : j < us.length) : w.cell? ⟨va, j, none⟩ = some (us.getD j ud).v := by
  refine blk_cell h.arr j ?_
  rw [List.getElem?_toArray, List.getElem?_map, List.getD_eq_getElem?_getD, List.getElem?_eq_getElem hj]
  rfl
theorem room_le (n c : Int) (h : n ≤ c) (h0 : 0 ≤ n) : n ≤ room n c ∧ room n c ≤ c ∧ room n c ≤ n + 5000 ∧ (room n c ≠ 0 → 0 < c) := by
  unfold room; split <;> omega
theorem keep_step {W X w1 : World} {o : Obj} {base kb g1 c1 : Nat} {lvi : Value} {sz : Int} {ks : List KL} {xs : List Value} {m : Nat} {T : Nat} (hX : X.heap = (W.alloc o).heap ∧ X.os = W.os ∧ X.tape = W.tape ∧ X.output = W.output) (hK : KB W base kb lvi sz T ks)
    (hg1 : X.grownBy w1 lvi.ownBlock) (hr1 : w1.ownsRow base 25 1 (.slice (some ⟨g1, 0, none⟩) m c1) m xs) (hb1 : w1.heap[kb]? = some (.cells #[lvi, .int .i64 sz] 43 (0, 0)))
    (hat : (Value.slice (some ⟨g1, 0, none⟩) m c1).ownBlock = lvi.ownBlock ∨ (Value.slice (some ⟨g1, 0, none⟩) m c1).ownBlock = some X.heap.size) :
    Fr W (w1.setCell ⟨kb, 0, none⟩ (.slice (some ⟨g1, 0, none⟩) m c1)) (KP kb lvi) ∧ (w1.setCell ⟨kb, 0, none⟩ (.slice (some ⟨g1, 0, none⟩) m c1)).heap[kb]? = some (.cells #[.slice (some ⟨g1, 0, none⟩) m c1, .int .i64 sz] 43 (0, 0)) ∧
      (w1.setCell ⟨kb, 0, none⟩ (.slice (some ⟨g1, 0, none⟩) m c1)).ownsRow base 25 1 (.slice (some ⟨g1, 0, none⟩) m c1) m xs ∧ W.heap.size ≤ X.heap.size := by
  obtain ⟨h1, h2, h3, h4⟩ := hX
  have hs : X.heap.size = W.heap.size + 1 := by rw [h1]; show (W.heap.push o).size = _; simp
  have hne : g1 ≠ kb := by
    rintro rfl
    obtain ⟨c2, h5⟩ := own_type hr1 rfl
    exact absurd (blk_type hb1 h5) (by decide)
  have hf1 : Fr W w1 (KP kb lvi) := ⟨hg1.os.trans h2, hg1.tape.trans h3, hg1.output.trans h4, by have := hg1.size; omega, fun k hk hn => by
    rw [hg1.block k (by omega) (fun e => hn (.inr e.symm)), h1]
    exact Below.heap_alloc W o k hk⟩
  refine ⟨hf1.trans (Fr.of_grown (grown_setCell 0 _) (P := fun k => k = kb) (fun k e => by injection e with e; exact e.symm)) (fun i _ e => .inl e), blk_set hb1 0 _, own_fr hr1 fun k hk => ?_, by omega⟩
  have : g1 = k := by simpa [Value.ownBlock] using hk
  subst this
  exact heap_setCell_other w1 _ _ _ hne
set_option maxHeartbeats 2000000 in
theorem keep_any (base kb va m : Nat) (lv : Value) (sz : Int) (ks : List KL) (us : List UL) (w : World) (hK : KB w base kb lv sz 4194304 ks) (hU : US w base va us ks) (hm : us.length = m) (hm8 : m ≤ 1000) (hva : lv.ownBlock ≠ some va) (hbs : base ≤ w.heap.size) :
    Calls Try.prog 33 #[.pointer (some ⟨kb, 0, none⟩), .slice (some ⟨va, 0, none⟩) m m] w fun e w' => e = .returned (.tuple #[]) ∧ ∃ lv' sz' new, KB w' base kb lv' sz' 4194304 (ks ++ new) ∧ Fr w w' (KP kb lv) ∧ (lv'.ownBlock = lv.ownBlock ∨ ∃ b, lv'.ownBlock = some b ∧ w.heap.size ≤ b) := by
  have hnva : ¬ KP kb lv va := by
    rintro (rfl | h)
    · exact absurd (blk_type hU.arr hK.blk) (by decide)
    · exact hva h
  have HM := Lib.hid hm
  have HNV := Lib.hid (And.intro hnva hbs)
  clear hm hnva hbs
  go_enter Try.func33, Try.ntmps33
  go_wp2_with fail
  go_loopw [4, 5] (fun i _ wr => ∃ (j : Nat) (lvi : Value) (szi : Int) (new : List KL), j ≤ m ∧ i = .int .i64 j ∧ KB wr base kb lvi szi 4194304 (ks ++ new) ∧ Fr w wr (KP kb lv) ∧ Hid (lvi.ownBlock = lv.ownBlock ∨ ∃ b, lvi.ownBlock = some b ∧ w.heap.size ≤ b) ∧ Hid (∀ q x, q < (ks ++ new).length → j ≤ x → x < m → (us.getD x ud).v.ownBlock ≠ some ((ks ++ new).getD q kd).g)) (fun i _ _ => m - (intOf i).toNat)
  case atStart => exact ⟨0, lv, sz, [], by omega, rfl, by rw [List.append_nil]; exact hK, Fr.refl _ _, .inl rfl, fun q x hq _ hx => by rw [List.append_nil] at hq ⊢; exact hU.far q x hq (by rw [HM.out]; exact hx)⟩
  case round =>
    obtain ⟨j, lvi, szi, new, hj, rfl, hKi, hF, HB, HA⟩ := hrel
    by_cases hlt : j < m
    · have hown := (hU.own j (by rw [HM.out]; exact hlt)).fr hF (fun k hk => hK.ne5 (hU.own j (by rw [HM.out]; exact hlt)) hk)
      have htop := hU.top j (by rw [HM.out]; exact hlt)
      have hcell : wr.cell? ⟨va, j, none⟩ = some (us.getD j ud).v := (World.cell?_of_block (hF.block va (lt_of_block hU.arr) HNV.out.1)).trans (hU.cell j (by rw [HM.out]; exact hlt))
      obtain ⟨A, c, hv, hc, hcm, hAg⟩ := own_cap hown
      obtain ⟨n, hn⟩ : ∃ n, n = (us.getD j ud).l.length := ⟨_, rfl⟩
      rw [← hn] at hv hc htop
      rw [hv] at hcell hown
      have HN := Lib.hid hn
      have HV := Lib.hid hv
      have HO := Lib.hid hown
      have HG := Lib.hid hAg
      clear hn hv hown hAg
      obtain ⟨r0, r1, r2, r3⟩ := room_le (n : Int) (c : Int) (by omega) (by omega)
      obtain ⟨r, hr⟩ : ∃ r, r = room (n : Int) (c : Int) := ⟨_, rfl⟩
      rw [← hr] at r0 r1 r2 r3
      have HR := Lib.hid hr
      have HR3 := Lib.hid r3
      clear hr r3
      have cb1 := blk_cell hKi.blk 1 (v := some (.int .i64 szi)) rfl
      have cb0 := blk_cell hKi.blk 0 (v := some lvi) rfl
      have fb0 := blk_free hKi.blk 0
      have fb1 := blk_free hKi.blk 1
      have z0 := hKi.s0
      have z1 := hKi.s1
      have j0 : (0 : Int) ≤ (j : Int) := by omega
      have j1 : (j : Int) < (m : Int) := by omega
      have hrm : Calls Try.prog 86 #[.int .i64 n, .int .i64 c] = Calls Try.prog 86 #[.int .i64 n, .int .i64 c] := rfl
      clear hrm
      by_cases hr0 : r = 0
      · have d0 : (r == 0) = true := by simpa using hr0
        have H0 := Lib.hid hr0
        clear hr0
        go_wp2_with fail
        go_quiet ((go_at_call 86; exact Calls.quiet_of_same ((room_any n c (by omega) (by omega) _).mono fun _ _ h => by rw [← HR.out] at h; exact ⟨h.1, h.2.symm⟩)))
        go_wp2_with fail
        go_roundw
        case rel => exact ⟨j + 1, lvi, szi, new, by omega, by go_num, hKi.drewN nq, hF.drewN nq, HB.out, fun q x hq hx => HA.out q x hq (by omega)⟩
        case measure => simp [intOf]; omega
      · have d0 : (r == 0) = false := by simpa using hr0
        have hcpos : 0 < c := by have := HR3.out hr0; omega
        obtain ⟨g, hg⟩ := HG.out hcpos
        have hr1 : 1 ≤ r := by omega
        clear hr0
        by_cases hbig : 4194304 < szi + r
        · have HG' := Lib.hid hg
          clear hg
          go_wp2_with fail
          go_quiet ((go_at_call 86; exact Calls.quiet_of_same ((room_any n c (by omega) (by omega) _).mono fun _ _ h => by rw [← HR.out] at h; exact ⟨h.1, h.2.symm⟩)))
          go_wp2_with fail
          go_roundw
          case rel => exact ⟨j + 1, lvi, szi, new, by omega, by go_num, hKi.drewN nq, hF.drewN nq, HB.out, fun q x hq hx => HA.out q x hq (by omega)⟩
          case measure => simp [intOf]; omega
        · obtain rfl := hg
          go_wp2_with fail
          go_quiet ((go_at_call 86; exact Calls.quiet_of_same ((room_any n c (by omega) (by omega) _).mono fun _ _ h => by rw [← HR.out] at h; exact ⟨h.1, h.2.symm⟩)))
          go_wp2_with fail
          have hK2 := (hKi.drewN nq).setSz (szi + r) (by omega) (by omega)
          have hF2 : Fr w ((wr.drewN nq).setCell ⟨kb, 1, none⟩ (.int .i64 (szi + r))) (KP kb lv) := (hF.drewN nq).trans (Fr.of_grown (grown_setCell 1 _) (P := fun k => k = kb) (fun k e => by injection e with e; exact e.symm)) (fun i _ e => .inl e)
          have hO2 := HO.out.fr (w' := (wr.drewN nq).setCell ⟨kb, 1, none⟩ (.int .i64 (szi + r))) (P := fun k => k = kb) (Fr.of_grown ((grown_drewN (grown_refl _ _) nq).trans (grown_setCell 1 _)) (fun k e => by injection e with e; exact e.symm)) (fun k hk e => hKi.ne5 HO.out hk (.inl e))
          have hcell2 : ((wr.drewN nq).setCell ⟨kb, 1, none⟩ (.int .i64 (szi + r))).cell? ⟨va, j, none⟩ = some (.slice (some ⟨g, 0, none⟩) n c) := (World.cell?_of_block (hF2.block va (lt_of_block hU.arr) HNV.out.1)).trans ((hU.cell j (by rw [HM.out]; exact hlt)).trans (by rw [HV.out]))
          have hbs2 : base ≤ ((wr.drewN nq).setCell ⟨kb, 1, none⟩ (.int .i64 (szi + r))).heap.size := Nat.le_trans HNV.out.2 hF2.size
          clear hcell cb0 cb1 fb0 fb1 hF HG HO
          generalize ((wr.drewN nq).setCell ⟨kb, 1, none⟩ (.int .i64 (szi + r))) = W at hK2 hF2 hO2 hcell2 hbs2 ⊢
          have cb0 := blk_cell hK2.blk 0 (v := some lvi) rfl
          have cbA : (W.alloc (.cells #[.slice (some ⟨g, 0, none⟩) n c] 25)).cell? ⟨kb, 0, none⟩ = some lvi := blk_cell (blk_old hK2.blk _) 0 rfl
          have HO2 := Lib.hid hO2
          have hrow := hK2.row
          have HROW := Lib.hid hrow
          have HLV := Lib.hid hK2.lvne
          clear hO2 hrow
          go_region_law ((refine step_append_rv (by rfl) base (.tmp 47) (.tmp 52) 22 25 (.slice none 0 0) 1 24 (by rfl) Try.underlying22 info25 rfl (by omega) (by omega) lvi (ks ++ new).length ((ks ++ new).map KL.v) (by rfl) (HROW.out.alloc _) (some ⟨W.heap.size, 0, none⟩) 1 1 [.slice (some ⟨g, 0, none⟩) n c] (by rfl) (RV_one (heap_alloc_new W _) rfl) (by have := hK2.cnt; omega) (by simp; omega) ?_; intro v1 w1 hr1 hg1 hat1; obtain ⟨g1, c1, rfl, hgb1, hgl1, hgc1⟩ := own_form hr1 (by omega); have hb1 : w1.heap[kb]? = some (.cells #[lvi, .int .i64 (szi + r)] 43 (0, 0)) := (hg1.block kb (by have := lt_of_block hK2.blk; simp; omega) (fun e => HLV.out e.symm)).trans (blk_old (w := W) hK2.blk _); have e0 := blk_cell hb1 0 (v := some lvi) rfl; have e1 := blk_free hb1 0))
          all_goals
            obtain ⟨q1, q2, q3, q4⟩ := keep_step (W := W) (o := .cells #[.slice (some ⟨g, 0, none⟩) n c] 25) (by exact ⟨rfl, rfl, rfl, rfl⟩) hK2 hg1 hr1 hb1 hat1
            have hn' := HN.out
            subst hn'
            have hlenE : (ks ++ new).length = ks.length + new.length := List.length_append
            have hcn := hKi.cnt
            have hKn := hK2.add ⟨g, c, (us.getD j ud).l⟩ q2 (by omega) hK2.s1 q3 q1 HO2.out (by simp only; omega) (fun q hq e => HA.out q j hq (Nat.le_refl _) hlt (by rw [HV.out]; simp only [Value.ownBlock]; rw [e]))
            rw [List.append_assoc] at hKn
            rw [hlenE] at hKn q1 hat1
            have hFn : Fr w _ (KP kb lv) := hF2.trans q1 (fun i hi hh => by
              rcases hh with e | e
              · exact .inl e
              · rcases HB.out with e2 | ⟨b, e2, hb⟩
                · exact .inr (by rw [← e2]; exact e)
                · rw [e2] at e; injection e with e; omega)
            have hBn : Hid ((Value.slice (some ⟨g1, 0, none⟩) (ks.length + new.length + 1) c1).ownBlock = lv.ownBlock ∨ ∃ b, (Value.slice (some ⟨g1, 0, none⟩) (ks.length + new.length + 1) c1).ownBlock = some b ∧ w.heap.size ≤ b) := by
              refine Lib.hid ?_
              rcases hat1 with e | e
              · rcases HB.out with e2 | ⟨b, e2, hb⟩
                · exact .inl (e.trans e2)
                · exact .inr ⟨b, e.trans e2, hb⟩
              · exact .inr ⟨_, e, by have := hF2.size; omega⟩
            have hAn := Lib.hid (show ∀ q x, q < (ks ++ (new ++ [(⟨g, c, (us.getD j ud).l⟩ : KL)])).length → j + 1 ≤ x → x < m → (us.getD x ud).v.ownBlock ≠ some ((ks ++ (new ++ [(⟨g, c, (us.getD j ud).l⟩ : KL)])).getD q kd).g from fun q x hq hx hxm => by
              rw [← List.append_assoc] at hq ⊢
              by_cases e : q < (ks ++ new).length
              · rw [getD_app1 _ _ _ e]; exact HA.out q x e (by omega) hxm
              · have hql : q = (ks ++ new).length := by simp at hq e ⊢; omega
                subst hql
                have : ((ks ++ new) ++ [(⟨g, c, (us.getD j ud).l⟩ : KL)]).getD (ks ++ new).length kd = ⟨g, c, (us.getD j ud).l⟩ := by simp
                rw [this]
                exact hU.apart j x (by omega) (by rw [HM.out]; exact hxm) g (by rw [HV.out]; rfl))
            clear q1 q2 q3 q4 hat1 hr1 hb1 e0 e1 hg1 cb0 cbA hcell2
            go_wp2_with fail
            go_roundw
            case rel => exact ⟨j + 1, _, szi + r, new ++ [⟨g, c, (us.getD j ud).l⟩], by omega, by go_num, hKn, hFn, hBn, hAn⟩
            case measure => simp [intOf]; omega
    · go_wp2_with fail
      go_end0
      exact ⟨rfl, lvi, szi, new, hKi, hF, HB.out⟩
end Go.Proofs.Ythggicgbcgeggaa
