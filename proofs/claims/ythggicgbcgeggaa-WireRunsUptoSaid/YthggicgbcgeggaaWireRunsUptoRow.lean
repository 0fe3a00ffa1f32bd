/- The statement Rows.WireRunsUptoSaid is proved: where what it reads is of bulk at most 1048576 the law returns true, and the input reads as it did. -/
import Derived.Test.YthggicgbcgeggaaRows
import Derived.Test.YthggicgbcgeggaaV13
import Derived.Test.YthggicgbcgeggaaVR
import Derived.WalkKit
import Derived.ProofKit
import Derived.OpenShut
import Derived.ShutString
import Derived.ChangeOld
import Derived.Below
import Derived.SizedLaws
import Derived.JoinedCond
import Derived.Deep.CondSized
set_option linter.unusedVariables false
set_option linter.unusedSimpArgs false
namespace Go.Proofs.Ythggicgbcgeggaa.wireRuns
open Go.ChangeShapes Go.WideShapes Go.ChangeAt Go.RowKit

theorem own : ownKnob Try.prog.godebug = none := by kernel_rfl
theorem laidOut : laidOutB Try.prog = true := by kernel_rfl
theorem one_le {H : Type} (d : DataW H) : 1 ≤ Rows.uptoBulk d := by
  cases d with
  | lit l => cases l <;> simp [Rows.uptoBulk]
  | nil => simp [Rows.uptoBulk]
  | ptr d => simp [Rows.uptoBulk]
  | slice elems spare => simp [Rows.uptoBulk]
  | agg parts => simp [Rows.uptoBulk]
  | iface t d => simp [Rows.uptoBulk]
  | map entries => simp [Rows.uptoBulk]
  | held h => simp [Rows.uptoBulk]
theorem length_le {H : Type} (l : List (DataW H)) : l.length ≤ Rows.uptoBulkAll l := by
  induction l with
  | nil => simp [Rows.uptoBulkAll]
  | cons x r ih => have := one_le x; simp only [Rows.uptoBulkAll, List.length_cons]; omega
theorem bulkAll_append {H : Type} : ∀ a b : List (DataW H), Rows.uptoBulkAll (a ++ b) = Rows.uptoBulkAll a + Rows.uptoBulkAll b
  | [], b => by simp [Rows.uptoBulkAll]
  | x :: a, b => by simp only [List.cons_append, Rows.uptoBulkAll, bulkAll_append a b]; omega
theorem bulk_range {H : Type} (D : Nat → DataW H) : ∀ n k, k ≤ n → Rows.uptoBulkAll ((List.range k).map D) ≤ Rows.uptoBulkAll ((List.range n).map D)
  | 0, k, h => by obtain rfl : k = 0 := by omega
                  exact Nat.le_refl _
  | n + 1, k, h => by
    by_cases e : k = n + 1
    · subst e; exact Nat.le_refl _
    · have := bulk_range D n k (by omega)
      rw [List.range_succ, List.map_append, bulkAll_append]; omega
theorem tot_bulk {H : Type} (D : Nat → DataW H) (ls : List (List Int)) (n : Nat) (h : ∀ r, r < n → (ls.getD r []).length ≤ Rows.uptoBulk (D r)) : ∀ k, k ≤ n → tot ls k ≤ Rows.uptoBulkAll ((List.range k).map D)
  | 0, _ => by simp [tot]
  | k + 1, hk => by
    have h1 := tot_bulk D ls n h k (by omega)
    have h2 := h k (by omega)
    rw [List.range_succ, List.map_append, bulkAll_append]
    simp only [tot, List.map_cons, List.map_nil, Rows.uptoBulkAll]
    omega
open Go.Deep in
/-- a slice of slices of bytes that came in -/
theorem open_rows_bulk {H : Type} {enc : TypeId × Value → H} {P : Program} {W : World} {base : Nat} {held : Bool} {t e q : TypeId} {a : Option Addr} {len cap : Nat} {d : DataW H} {ps : List MemPlace} {ts : List TypeId} {ds : List (DataW H)} {j : Nat}
    (hsz : (DataW.weightsEach P ts ds).all (· ≤ reachBytes) = true) (ht : ts[j]? = some t) (hd : ds[j]? = some d) (hu : P.underlying t = some (.slice e)) (he : P.underlying e = some (.slice q)) (hq : P.underlying q = some (.int .u8)) (ce : P.cellsOf e = 1) (cq : P.cellsOf q = 1) (hBe : 0 < P.bytesOf e) (hBq : P.bytesOf q = 1)
    (h : DataW.Trod enc P W base (fun _ => true) held t (.slice a len cap) d ps) : ∃ ls, RBB W a len ls ∧ ∀ k, k ≤ len → tot ls k ≤ Rows.uptoBulk d := by
  obtain ⟨fuel, hf⟩ := h
  rcases open_int_rows hu he hq ce cq hf with ⟨hcs, _⟩ | ⟨x, l, c, A, L, C, Z, hcs, _, hl, _, hx, hall⟩
  · simp [Value.cells] at hcs
    obtain ⟨rfl, rfl, rfl⟩ := hcs
    exact ⟨[], ⟨rfl, by omega, fun j hj => by omega⟩, fun k hk => by obtain rfl : k = 0 := by omega
                                                                     simp [tot]⟩
  · simp [Value.cells] at hcs
    obtain ⟨rfl, rfl, rfl⟩ := hcs
    obtain ⟨hx, _⟩ := Prod.mk.inj hx
    subst hx
    have z := sized_slice hsz ht hd hu
    have z2 : len * P.bytesOf e ≤ reachBytes := Nat.le_trans (Nat.mul_le_mul_right _ (by simp)) z
    have z3 : len ≤ reachBytes := Nat.le_trans (Nat.le_mul_of_pos_right _ hBe) z2
    have hls : ∀ r, r < len → ((List.range len).map fun r => (Z r).take (L r)).getD r [] = (Z r).take (L r) := by
      intro r hr
      simp [List.getD_eq_getElem?_getD, hr]
    have hbk : ∀ r, r < len → (((List.range len).map fun r => (Z r).take (L r)).getD r []).length ≤ Rows.uptoBulk (intRow (H := H) .u8 (A r) (L r) (Z r)) := by
      intro r hr
      rw [hls r hr]
      obtain ⟨h1, h2, h3, h4, h5, h6, h7⟩ := hall r (by omega)
      rcases hA : A r with _ | a'
      · have := h6 hA; rw [List.length_take]; omega
      · have h9 := length_le (lits (H := H) .u8 ((Z r).take (L r)))
        have h10 : (lits (H := H) .u8 ((Z r).take (L r))).length = ((Z r).take (L r)).length := by simp [lits]
        simp only [intRow, Rows.uptoBulk]
        omega
    refine ⟨(List.range len).map fun r => (Z r).take (L r), ?_, fun k hk => ?_⟩
    · refine ⟨by simp, z3, fun r hr => ?_⟩
      rw [hls r hr]
      obtain ⟨h1, h2, h3, h4, h5, h6, h7⟩ := hall r (by omega)
      have hlen : ((Z r).take (L r)).length = L r := by rw [List.length_take]; omega
      rw [hlen]
      have hsmall : L r ≤ reachBytes := by
        rcases hA : A r with _ | a'
        · have := h6 hA; omega
        · have hm : (C r) * 1 ∈ (intRow (H := H) .u8 (A r) (L r) (Z r)).weights P e := by
            rw [hA]
            have hZ : ((Z r).take (L r)).length + ((Z r).drop (L r)).length = C r := by
              rw [← List.length_append, List.take_append_drop, h4]
            simp only [intRow, DataW.weights, he, hBq, List.mem_cons, lits, List.length_map]
            left
            rw [hZ]
          have hm2 := DataW.weights_mem_each (P := P) ht hd ((C r) * 1) (by
            simp only [DataW.weights, hu, List.mem_cons, List.mem_append]
            right; left
            exact weights_all_mem (List.mem_map.2 ⟨r, List.mem_range.2 hr, rfl⟩) _ hm)
          have := List.all_eq_true.1 hsz _ hm2
          simp only [decide_eq_true_eq] at this
          omega
      refine ⟨x, A r, C r, rfl, h1, ⟨hlen, by unfold reachBytes at hsmall; omega, fun i hi => ?_, BY.nth fun y hy => wf_byte (h5 y (List.mem_of_mem_take hy))⟩, by unfold reachBytes at hsmall; omega, h2⟩
      rcases hA : A r with _ | a'
      · have := h6 hA; omega
      · refine ⟨a', rfl, ?_⟩
        obtain ⟨_, h8⟩ := h7 a' hA
        rw [h8 i (by omega)]
        unfold nth
        rw [List.getD_eq_getElem?_getD, List.getD_eq_getElem?_getD, List.getElem?_take_of_lt hi]
    · have h1 := tot_bulk (fun r => intRow (H := H) .u8 (A r) (L r) (Z r)) _ len hbk k hk
      have h2 := bulk_range (fun r => intRow (H := H) .u8 (A r) (L r) (Z r)) len k hk
      simp only [Rows.uptoBulk]
      omega
/-- a slice of whole numbers that came in is no longer than its bulk -/
theorem open_bulk {H : Type} {enc : TypeId × Value → H} {P : Program} {W : World} {base : Nat} {spare : Nat → Bool} {held : Bool} {t e : TypeId} {k : IntKind} {a : Option Addr} {len cap : Nat} {d : DataW H} {ps : List MemPlace}
    (hu : P.underlying t = some (.slice e)) (he : P.underlying e = some (.int k)) (hc : P.cellsOf e = 1)
    (h : DataW.Trod enc P W base spare held t (.slice a len cap) d ps) : len ≤ Rows.uptoBulk d := by
  obtain ⟨fuel, hf⟩ := h
  rcases open_ints hu he hc hf with ⟨hcs, _⟩ | ⟨x, l, c, zs, hcs, _, hl, _, hz, hx, hcell, hwz⟩
  · simp [Value.cells] at hcs
    obtain ⟨rfl, rfl, rfl⟩ := hcs
    omega
  · simp [Value.cells] at hcs
    obtain ⟨rfl, rfl, rfl⟩ := hcs
    obtain ⟨hx, _⟩ := Prod.mk.inj hx
    subst hx
    have hl2 : len ≤ zs.length := by
      rw [hz]
      split
      · exact hl
      · exact Nat.le_refl _
    have h1 := length_le (lits (H := H) k (zs.take len))
    have h2 : (lits (H := H) k (zs.take len)).length = len := by simp [lits]; omega
    simp only [Rows.uptoBulk]
    omega
set_option maxRecDepth 100000 in
theorem contract (H : Type) (enc : TypeId × Value → H) (W : World) (base : Nat) (args : Array Value) (ds gs : List (DataW H)) (before : List MemPlace)
    (hval0 : ∀ (j : Nat) t v, Try.f10.params[j]? = some t → args[j]? = some v → Value.okWide Try.prog W .any base t v)
    (hW : DataW.Whole enc Try.prog Try.f10.params.toList Rows.wireRunsSpec.vars false W args.toList ds gs before) (hk : Rows.uptoSmall H (ds ++ gs) = true)
    (hsz0 : (DataW.weightsEach Try.prog (Try.f10.params.toList ++ Rows.wireRunsSpec.plain.varTypes Try.prog) (ds ++ gs)).all (· ≤ reachBytes) = true) :
    Calls Try.prog 10 args W fun e W' => ∃ v, e = .returned v ∧ Rows.wireRunsSpec.post enc Try.prog Try.f10 false true false false W args v W' := by
  have hsz : (DataW.weightsEach Try.prog (Try.f10.params.toList ++ Rows.wireRunsSpec.plain.varTypes Try.prog) (ds ++ gs)).all (· ≤ reachBytes) = true := hsz0
  have hval : ∀ (j : Nat) t v, Try.f10.params[j]? = some t → args[j]? = some v → Value.okWide Try.prog W .any base t v := hval0
  have hW' := hW
  obtain ⟨p, q, hA0, hV, rfl, hfz, hnd⟩ := hW
  have hA : DataW.TrodAll enc Try.prog W 0 (fun _ => true) true Try.f10.params.toList args.toList ds p := hA0
  rw [Try.params10] at hA hval hsz
  obtain ⟨v0, vs0, d0, ds0, p0, q0, hargs, rfl, rfl, h0, r0⟩ := trodAll_cons hA
  obtain ⟨v1, vs1, d1, ds1, p1, q1, rfl, rfl, rfl, h1, r1⟩ := trodAll_cons r0
  obtain ⟨v2, vs2, d2, ds2, p2, q2, rfl, rfl, rfl, h2, r2⟩ := trodAll_cons r1
  obtain ⟨rfl, rfl, rfl⟩ := trodAll_nil r2
  obtain rfl : args = #[v0, v1, v2] := by cases args; simp_all
  obtain ⟨rfl, rfl⟩ := trodVars_none hV
  obtain ⟨a0, len0, cap0, rfl⟩ := okWide_slice Try.underlying40 (hval 0 40 v0 rfl rfl)
  have k0 := h0
  have lt0 : ∀ x ∈ p0, x.block < W.heap.size := by obtain ⟨m, hm⟩ := k0; exact DataW.trod_lt m _ _ _ hm
  obtain ⟨l0, ll0, ln0, lc0, le0, lw0⟩ := open_nums hsz (j := 0) (t := 40) rfl rfl Try.underlying40 Try.underlying27 (by kernel_rfl) (B := 8) (by kernel_rfl) h0
  have rb0 := RI_of ll0 (by decide) ln0 le0 lw0
  obtain ⟨a1, len1, cap1, rfl⟩ := okWide_slice Try.underlying48 (hval 1 48 v1 rfl rfl)
  have k1 := h1
  have lt1 : ∀ x ∈ p1, x.block < W.heap.size := by obtain ⟨m, hm⟩ := k1; exact DataW.trod_lt m _ _ _ hm
  obtain ⟨l1, ll1, ln1, lc1, le1, lw1⟩ := open_nums hsz (j := 1) (t := 48) rfl rfl Try.underlying48 Try.underlying2 (by kernel_rfl) (B := 8) (by kernel_rfl) h1
  have rb1 := RI_of ll1 (by decide) ln1 le1 lw1
  obtain ⟨a2, len2, cap2, rfl⟩ := okWide_slice Try.underlying22 (hval 2 22 v2 rfl rfl)
  have k2 := h2
  have lt2 : ∀ x ∈ p2, x.block < W.heap.size := by obtain ⟨m, hm⟩ := k2; exact DataW.trod_lt m _ _ _ hm
  obtain ⟨l2, rb2, tb2⟩ := open_rows_bulk hsz (j := 2) (t := 22) rfl rfl Try.underlying22 Try.underlying25 Try.underlying5 (by kernel_rfl) (by kernel_rfl) (of_decide_eq_true (by kernel_rfl)) (by kernel_rfl) h2
  have hb : Rows.uptoBulkAll ([d0, d1, d2] ++ []) ≤ 1048576 := of_decide_eq_true hk
  simp only [Rows.uptoBulkAll, List.cons_append, List.nil_append] at hb
  clear hA0 hval0 hsz0 hsz
  refine (runs_law a0 len0 cap0 l0 a1 len1 cap1 l1 a2 len2 cap2 l2 W rb0 rb1 rb2 (fun k hk => Nat.le_trans (tb2 k hk) (by omega))).mono fun e W' ⟨he, bel⟩ => ?_
  subst he
  exact ⟨_, rfl, _, _, _, [], _, [], hW', trodAll_mk1 (shut_bool Try.underlying4 _), (trodAll_cons_mk (Below.trod laidOut (by kernel_rfl) (of_decide_eq_true (by kernel_rfl)) k0 bel lt0) (trodAll_cons_mk (Below.trod laidOut (by kernel_rfl) (of_decide_eq_true (by kernel_rfl)) k1 bel lt1) (trodAll_cons_mk (Below.trod laidOut (by kernel_rfl) (of_decide_eq_true (by kernel_rfl)) k2 bel lt2) trodAll_mk0))), rfl, bel.frame _, fun h => by cases h⟩

set_option maxRecDepth 100000 in
theorem lifted (os : Os) (started : os.Started) (H : Type) (enc : TypeId × Value → H) (F : Stop.Interp) :
    ReturnsInHanded {} Try.checked os 10 .any ((Rows.OpenSpec.upto Rows.wireRunsSpec).pre6 enc Try.prog Try.f10 Rows.wireRunsUptoRow.domain false) (((Rows.OpenSpec.upto Rows.wireRunsSpec).at F).post enc Try.prog Try.f10 false true false false) := by
  refine returnsInHanded_of_cond_sized (C := Try.checked) (s := Rows.OpenSpec.upto Rows.wireRunsSpec) (k := Rows.uptoSmall) rfl own started (by kernel_rfl) Try.func10
    (OpenSpec.witness (enc := enc) (C := Try.checked) (s := Rows.OpenSpec.upto Rows.wireRunsSpec) (k := Rows.uptoSmall) rfl false ⟨#[], #[.slice none 0 0, .slice none 0 0, .slice none 0 0], []⟩ 8 (by kernel_rfl) (by kernel_rfl) (by kernel_rfl)
      (x := ([.nil, .nil, .nil], [], [])) (by kernel_rfl) rfl (by kernel_rfl)) ?_
  intro W base args ds gs before hval hW _ hk hsz _
  exact contract H enc W base args ds gs before hval hW hk hsz
theorem holds : Rows.WireRunsUptoSaid :=
  OpenClaim.holds_of_cond 10 Try.f10 rfl rfl rfl rfl rfl rfl rfl ⟨rfl, rfl, rfl, rfl, rfl⟩ rfl rfl rfl rfl rfl (by kernel_rfl) Try.func10 (by kernel_rfl)
    (of_decide_eq_true (by kernel_rfl)) (by unfold Func.isWrapper; first | (rw [if_pos (by decide +kernel)]; kernel_rfl) | (rw [if_neg (by decide +kernel)]; exact ⟨rfl, rfl⟩))
    (fun os started H enc _ F => lifted os started H enc F)
#print axioms holds
end Go.Proofs.Ythggicgbcgeggaa.wireRuns
namespace Go.Proofs.Ythggicgbcgeggaa
/-- The statement, under a short name. -/
theorem wireRuns_upto_holds : Rows.WireRunsUptoSaid := wireRuns.holds
end Go.Proofs.Ythggicgbcgeggaa
