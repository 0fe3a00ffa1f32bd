/- Walk, first half: flumelaw1.WireRuns: the fields written one behind the other. -/
import Derived.Test.YthggicgbcgeggaaV11
import Derived.Test.YthggicgbcgeggaaVR
set_option linter.unusedVariables false
set_option linter.unusedSimpArgs false
namespace Go.Proofs.Ythggicgbcgeggaa
open Go.RowKit
/-- one field's bytes -/
def fld (u i : Int) (s : List Int) : List Int := vb u.toNat ++ (vb (zigI i).toNat ++ (fb (u % 4294967296) 4 ++ (fb u 8 ++ sb s)))
/-- the first k fields -/
def joinF (us is : List Int) (ls : List (List Int)) : Nat → List Int
  | 0 => []
  | k + 1 => joinF us is ls k ++ fld (nth us k) (nth is k) (ls.getD k [])
def tot (ls : List (List Int)) : Nat → Nat
  | 0 => 0
  | k + 1 => tot ls k + (ls.getD k []).length
theorem fld_len (u i : Int) (s : List Int) : (fld u i s).length ≤ 42 + s.length := by
  have h1 := (vb_len u.toNat).2
  have h2 := (vb_len (zigI i).toNat).2
  have h3 := (vb_len s.length).2
  unfold fld sb
  simp only [List.length_append, fb_len]
  omega
theorem joinF_len (us is : List Int) (ls : List (List Int)) : ∀ k, (joinF us is ls k).length ≤ 42 * k + tot ls k
  | 0 => by simp [joinF]
  | k + 1 => by
    have := joinF_len us is ls k
    have h2 := fld_len (nth us k) (nth is k) (ls.getD k [])
    simp only [joinF, tot, List.length_append]
    omega
end Go.Proofs.Ythggicgbcgeggaa
