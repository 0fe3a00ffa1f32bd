/- The statement Rows.WireNoneSaid is proved: for every input the law returns true, and the input reads as it did; no condition. -/
import Derived.Test.YthggicgbcgeggaaRows
import Derived.Test.YthggicgbcgeggaaV26
import Derived.Test.YthggicgbcgeggaaVR
import Derived.Test.YthggicgbcgeggaaVR2
import Derived.Test.YthggicgbcgeggaaV23
import Derived.WalkKit
import Derived.ProofKit
import Derived.OpenShut
import Derived.ShutString
import Derived.ChangeOld
import Derived.Below
import Derived.SizedLaws
set_option linter.unusedVariables false
set_option linter.unusedSimpArgs false
namespace Go.Proofs.Ythggicgbcgeggaa.wireNone
open Go.ChangeShapes Go.WideShapes Go.ChangeAt Go.RowKit

theorem own : ownKnob Try.prog.godebug = none := by kernel_rfl
theorem laidOut : laidOutB Try.prog = true := by kernel_rfl
theorem open_ops {H : Type} {enc : TypeId × Value → H} {W : World} {base : Nat} {held : Bool} {a : Option Addr} {len cap : Nat} {d : DataW H} {ps : List MemPlace} {ts : List TypeId} {ds : List (DataW H)} {j : Nat}
    (hsz : (DataW.weightsEach Try.prog ts ds).all (· ≤ reachBytes) = true) (ht : ts[j]? = some 51) (hd : ds[j]? = some d) (h : DataW.Trod enc Try.prog W base (fun _ => true) held 51 (.slice a len cap) d ps) : ∃ os, RO W a len os := by
  obtain ⟨h1, _, _, h2⟩ := open_structs [.i64, .u64, .i64] hsz ht hd Try.underlying51 Try.underlying59 (by kernel_rfl) (by kernel_rfl) (of_decide_eq_true (by kernel_rfl)) (fun j k hjk => by
    rcases j with _ | _ | _ | j
    · simp at hjk; subst hjk; exact ⟨_, rfl, by kernel_rfl⟩
    · simp at hjk; subst hjk; exact ⟨_, rfl, by kernel_rfl⟩
    · simp at hjk; subst hjk; exact ⟨_, rfl, by kernel_rfl⟩
    · simp at hjk) h
  refine ⟨(List.range len).map fun i => (cellInt (a.bind fun ad => W.cell? (fad (ad.add (i * 3)) 0)), cellInt (a.bind fun ad => W.cell? (fad (ad.add (i * 3)) 1)), cellInt (a.bind fun ad => W.cell? (fad (ad.add (i * 3)) 2))), by simp, h1, fun i hi => ?_, fun i hi => ?_⟩
  · obtain ⟨ad, rfl, hc⟩ := h2 i hi
    have e : ((List.range len).map fun i => (cellInt ((some ad).bind fun ad => W.cell? (fad (ad.add (i * 3)) 0)), cellInt ((some ad).bind fun ad => W.cell? (fad (ad.add (i * 3)) 1)), cellInt ((some ad).bind fun ad => W.cell? (fad (ad.add (i * 3)) 2)))).getD i (0, 0, 0) = (cellInt (W.cell? (fad (ad.add (i * 3)) 0)), cellInt (W.cell? (fad (ad.add (i * 3)) 1)), cellInt (W.cell? (fad (ad.add (i * 3)) 2))) := by
      simp [List.getD_eq_getElem?_getD, hi]
    rw [e]
    exact ⟨ad, rfl, (hc 0 .i64 rfl).1, (hc 1 .u64 rfl).1, (hc 2 .i64 rfl).1⟩
  · obtain ⟨ad, rfl, hc⟩ := h2 i hi
    have e : ((List.range len).map fun i => (cellInt ((some ad).bind fun ad => W.cell? (fad (ad.add (i * 3)) 0)), cellInt ((some ad).bind fun ad => W.cell? (fad (ad.add (i * 3)) 1)), cellInt ((some ad).bind fun ad => W.cell? (fad (ad.add (i * 3)) 2)))).getD i (0, 0, 0) = (cellInt (W.cell? (fad (ad.add (i * 3)) 0)), cellInt (W.cell? (fad (ad.add (i * 3)) 1)), cellInt (W.cell? (fad (ad.add (i * 3)) 2))) := by
      simp [List.getD_eq_getElem?_getD, hi]
    rw [e]
    exact wf_i64' (hc 2 .i64 rfl).2
set_option maxRecDepth 100000 in
theorem lifted (os : Os) (started : os.Started) (H : Type) (enc : TypeId × Value → H) :
    ReturnsInHanded {} Try.checked os 9 .any (Rows.wireNoneSpec.pre6 enc Try.prog Try.f9 Rows.wireNoneRow.domain false) (Rows.wireNoneSpec.post enc Try.prog Try.f9 false true false false) := by
  refine returnsInHanded_of_change_sized (C := Try.checked) own started (by kernel_rfl) Try.func9
    (ChangeSpec.witness6 (enc := enc) (C := Try.checked) false ⟨#[], #[.slice none 0 0], []⟩ 8 (by kernel_rfl) (by kernel_rfl) (by kernel_rfl) (by kernel_rfl)) ?_
  intro W base args ds gs before hval0 hW hcnd hsz0 _
  have hsz : (DataW.weightsEach Try.prog (Try.f9.params.toList ++ Rows.wireNoneSpec.plain.varTypes Try.prog) (ds ++ gs)).all (· ≤ reachBytes) = true := hsz0
  have hval : ∀ (j : Nat) t v, Try.f9.params[j]? = some t → args[j]? = some v → Value.okWide Try.prog W .any base t v := hval0
  have hW' := hW
  obtain ⟨p, q, hA0, hV, rfl, hfz, hnd⟩ := hW
  have hA : DataW.TrodAll enc Try.prog W 0 (fun _ => true) true Try.f9.params.toList args.toList ds p := hA0
  rw [Try.params9] at hA hval hsz
  obtain ⟨v0, vs0, d0, ds0, p0, q0, hargs, rfl, rfl, h0, r0⟩ := trodAll_cons hA
  obtain ⟨rfl, rfl, rfl⟩ := trodAll_nil r0
  obtain rfl : args = #[v0] := by cases args; simp_all
  obtain ⟨rfl, rfl⟩ := trodVars_none hV
  obtain ⟨a0, len0, cap0, rfl⟩ := okWide_slice Try.underlying51 (hval 0 51 v0 rfl rfl)
  have k0 := h0
  have lt0 : ∀ x ∈ p0, x.block < W.heap.size := by obtain ⟨m, hm⟩ := k0; exact DataW.trod_lt m _ _ _ hm
  obtain ⟨l0, rb0⟩ := open_ops hsz (j := 0) rfl rfl h0
  clear hA0 hval0 hsz0 hsz
  refine (none_law a0 len0 cap0 l0 W rb0).mono fun e W' ⟨he, bel⟩ => ?_
  subst he
  exact ⟨_, rfl, _, _, _, [], _, [], hW', trodAll_mk1 (shut_bool Try.underlying4 _), (trodAll_cons_mk (Below.trod laidOut (by kernel_rfl) (of_decide_eq_true (by kernel_rfl)) k0 bel lt0) trodAll_mk0), rfl, bel.frame _, fun h => by cases h⟩

theorem holds : Rows.WireNoneSaid :=
  OpenClaim.holds_of_wide 9 Try.f9 rfl rfl rfl rfl rfl rfl rfl ⟨rfl, rfl, rfl, rfl, rfl⟩ rfl rfl rfl rfl rfl (by kernel_rfl) Try.func9 (by kernel_rfl)
    (of_decide_eq_true (by kernel_rfl)) (by unfold Func.isWrapper; first | (rw [if_pos (by decide +kernel)]; kernel_rfl) | (rw [if_neg (by decide +kernel)]; exact ⟨rfl, rfl⟩))
    (fun os started H enc _ => lifted os started H enc)
#print axioms holds
end Go.Proofs.Ythggicgbcgeggaa.wireNone
namespace Go.Proofs.Ythggicgbcgeggaa
/-- The statement, under a short name. -/
theorem wireNone_holds : Rows.WireNoneSaid := wireNone.holds
end Go.Proofs.Ythggicgbcgeggaa
