/- From a row's readings to catalogs and segments. -/
import Derived.Test.YthggicgbcgeggaaVR2
import Derived.Test.YthggicgbcgeggaaVB7
import Derived.Lib.SmallJoins
set_option linter.unusedVariables false
set_option linter.unusedSimpArgs false
namespace Go.Proofs.Ythggicgbcgeggaa
open Go.ChangeShapes Go.WideShapes Go.ChangeAt Go.RowKit Go.Deep Go.Joins
def sgAt (W : World) (a : Option Addr) (i : Nat) : Sg :=
  ⟨cellInt (a.bind fun ad => W.cell? (fad (ad.add (i * 5)) 0)), cellInt (a.bind fun ad => W.cell? (fad (ad.add (i * 5)) 1)), cellInt (a.bind fun ad => W.cell? (fad (ad.add (i * 5)) 2)), cellInt (a.bind fun ad => W.cell? (fad (ad.add (i * 5)) 3)), cellInt (a.bind fun ad => W.cell? (fad (ad.add (i * 5)) 4))⟩
theorem open_segs {H : Type} {enc : TypeId × Value → H} {W : World} {base : Nat} {held : Bool} {a : Option Addr} {len cap : Nat} {d : DataW H} {ps : List MemPlace} {ts : List TypeId} {ds : List (DataW H)} {j : Nat}
    (hsz : (DataW.weightsEach Try.prog ts ds).all (· ≤ reachBytes) = true) (ht : ts[j]? = some 76) (hd : ds[j]? = some d) (h : DataW.Trod enc Try.prog W base (fun _ => true) held 76 (.slice a len cap) d ps) : len ≤ cap ∧ ∃ ss, RSg W a len ss := by
  obtain ⟨h0, h1, hlc, h2⟩ := open_structs [.i64, .i64, .u32, .i64, .i64] hsz ht hd Try.underlying76 Try.underlying96 (by kernel_rfl) (by kernel_rfl) (of_decide_eq_true (by kernel_rfl)) (fun j k hjk => by
    rcases j with _ | _ | _ | _ | _ | j
    · simp at hjk; subst hjk; exact ⟨_, rfl, by kernel_rfl⟩
    · simp at hjk; subst hjk; exact ⟨_, rfl, by kernel_rfl⟩
    · simp at hjk; subst hjk; exact ⟨_, rfl, by kernel_rfl⟩
    · simp at hjk; subst hjk; exact ⟨_, rfl, by kernel_rfl⟩
    · simp at hjk; subst hjk; exact ⟨_, rfl, by kernel_rfl⟩
    · simp at hjk) h
  have hb : Try.prog.bytesOf 96 = 40 := by kernel_rfl
  rw [hb] at h1
  have e : ∀ i, i < len → sg ((List.range len).map (sgAt W a)) i = sgAt W a i := fun i hi => by simp [sg, List.getD_eq_getElem?_getD, hi]
  have hw : ∀ i, i < len → SW (sgAt W a i) := fun i hi => by
    obtain ⟨ad, rfl, hc⟩ := h2 i hi
    have w0 := wf_i64' (hc 0 .i64 rfl).2
    have w1 := wf_i64' (hc 1 .i64 rfl).2
    have w2 := wf_u32 (hc 2 .u32 rfl).2
    have w3 := wf_i64' (hc 3 .i64 rfl).2
    have w4 := wf_i64' (hc 4 .i64 rfl).2
    exact ⟨w0, w1, w2, w3, w4⟩
  refine ⟨hlc, (List.range len).map (sgAt W a), by simp, by omega, fun i hi => ?_, fun i => ?_⟩
  · rw [e i hi]
    obtain ⟨ad, rfl, hc⟩ := h2 i hi
    exact ⟨ad, rfl, (hc 0 .i64 rfl).1, (hc 1 .i64 rfl).1, (hc 2 .u32 rfl).1, (hc 3 .i64 rfl).1, (hc 4 .i64 rfl).1⟩
  · by_cases hi : i < len
    · rw [e i hi]; exact hw i hi
    · rw [show sg ((List.range len).map (sgAt W a)) i = sgd by simp [sg, List.getD_eq_getElem?_getD, hi]]; exact SW.d
/-- a catalog's three parts -/
theorem open_cat_parts {H : Type} {enc : TypeId × Value → H} {W : World} {base : Nat} {held : Bool} {n : Nat} {v0 v1 v2 : Value} {y0 y1 y2 : DataW H × List MemPlace}
    (hw : (DataW.weightsEach Try.prog [2, 2, 76] [y0.1, y1.1, y2.1]).all (· ≤ reachBytes) = true)
    (h0 : DataW.trod enc Try.prog W base (fun _ => true) held n 2 [v0] = some y0) (h1 : DataW.trod enc Try.prog W base (fun _ => true) held n 2 [v1] = some y1) (h2 : DataW.trod enc Try.prog W base (fun _ => true) held n 76 [v2] = some y2) :
    ∃ gen first a len cap ss, v0 = .int .i64 gen ∧ v1 = .int .i64 first ∧ v2 = .slice a len cap ∧ i64r gen ∧ i64r first ∧ len ≤ cap ∧ RSg W a len ss := by
  obtain ⟨u0, e0, -, w0⟩ := DataW.trod_int Try.underlying2 h0
  obtain ⟨u1, e1, -, w1⟩ := DataW.trod_int Try.underlying2 h1
  have hs : ∃ a len cap, v2 = .slice a len cap := by
    rcases open_slice Try.underlying76 h2 with ⟨hcs, _⟩ | ⟨x, l, c, m, n, D, Pl, hcs, _⟩
    · exact ⟨_, _, _, by simpa using hcs⟩
    · exact ⟨_, _, _, by simpa using hcs⟩
  obtain ⟨a, len, cap, rfl⟩ := hs
  obtain ⟨hlc, ss, hr⟩ := open_segs (a := a) (len := len) (cap := cap) (d := y2.1) (ps := y2.2) (j := 2) hw rfl rfl ⟨n, h2⟩
  exact ⟨u0, u1, a, len, cap, ss, by simpa using e0, by simpa using e1, rfl, wf_i64' w0, wf_i64' w1, hlc, hr⟩
set_option maxRecDepth 20000 in
theorem open_cat {H : Type} {enc : TypeId × Value → H} {W : World} {base b0 : Nat} {r : Reach} {held : Bool} {v : Value} {d : DataW H} {ps : List MemPlace} {ts : List TypeId} {ds : List (DataW H)} {j : Nat}
    (hsz : (DataW.weightsEach Try.prog ts ds).all (· ≤ reachBytes) = true) (ht : ts[j]? = some 78) (hd : ds[j]? = some d) (hv : Value.okWide Try.prog W r b0 78 v) (h : DataW.Trod enc Try.prog W base (fun _ => true) held 78 v d ps) :
    ∃ gen first a len cap ss, v = .agg #[.int .i64 gen, .int .i64 first, .slice a len cap] ∧ i64r gen ∧ i64r first ∧ len ≤ cap ∧ RSg W a len ss := by
  obtain ⟨v0, v1, v2, y0, y1, y2, n, rfl, rfl, rfl, h0, h1, h2⟩ := open_agg3 Try.underlying78 (by kernel_rfl) (by kernel_rfl) hv h
  have hw : (DataW.weightsEach Try.prog [2, 2, 76] [y0.1, y1.1, y2.1]).all (· ≤ reachBytes) = true := by
    refine List.all_eq_true.2 fun x hx => ?_
    exact List.all_eq_true.1 hsz x (DataW.weights_mem_each ht hd x (by simp only [DataW.weights, Try.underlying78]; exact hx))
  obtain ⟨gen, first, a, len, cap, ss, rfl, rfl, rfl, hg, hf, hc, hr⟩ := open_cat_parts hw h0 h1 h2
  exact ⟨gen, first, a, len, cap, ss, rfl, hg, hf, hc, hr⟩
end Go.Proofs.Ythggicgbcgeggaa
