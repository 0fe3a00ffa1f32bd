/- Plain words: what catalog.Read's body computes; walks: number, and body up to its loop. -/
import Derived.Test.YthggicgbcgeggaaVB2
import Derived.Test.YthggicgbcgeggaaV15
set_option linter.unusedVariables false
set_option linter.unusedSimpArgs false
namespace Go.Proofs.Ythggicgbcgeggaa
open Go.RowKit
def M63 : Int := 9223372036854775807
/-- a segment is read at p -/
def rdSeg (l : List Int) (p : Nat) (b : Int) : Sg × Nat × Int :=
  (⟨(rdN l p b M63).1,
    (rdN l (rdN l p b M63).2.1 (rdN l p b M63).2.2 M63).1,
    (rdL l (rdN l (rdN l p b M63).2.1 (rdN l p b M63).2.2 M63).2.1 (rdN l (rdN l p b M63).2.1 (rdN l p b M63).2.2 M63).2.2 4).1,
    (rdN l (rdL l (rdN l (rdN l p b M63).2.1 (rdN l p b M63).2.2 M63).2.1 (rdN l (rdN l p b M63).2.1 (rdN l p b M63).2.2 M63).2.2 4).2.1 (rdL l (rdN l (rdN l p b M63).2.1 (rdN l p b M63).2.2 M63).2.1 (rdN l (rdN l p b M63).2.1 (rdN l p b M63).2.2 M63).2.2 4).2.2 M63).1,
    (rdN l (rdN l (rdL l (rdN l (rdN l p b M63).2.1 (rdN l p b M63).2.2 M63).2.1 (rdN l (rdN l p b M63).2.1 (rdN l p b M63).2.2 M63).2.2 4).2.1 (rdL l (rdN l (rdN l p b M63).2.1 (rdN l p b M63).2.2 M63).2.1 (rdN l (rdN l p b M63).2.1 (rdN l p b M63).2.2 M63).2.2 4).2.2 M63).2.1 (rdN l (rdL l (rdN l (rdN l p b M63).2.1 (rdN l p b M63).2.2 M63).2.1 (rdN l (rdN l p b M63).2.1 (rdN l p b M63).2.2 M63).2.2 4).2.1 (rdL l (rdN l (rdN l p b M63).2.1 (rdN l p b M63).2.2 M63).2.1 (rdN l (rdN l p b M63).2.1 (rdN l p b M63).2.2 M63).2.2 4).2.2 M63).2.2 M63).1⟩,
   (rdN l (rdN l (rdL l (rdN l (rdN l p b M63).2.1 (rdN l p b M63).2.2 M63).2.1 (rdN l (rdN l p b M63).2.1 (rdN l p b M63).2.2 M63).2.2 4).2.1 (rdL l (rdN l (rdN l p b M63).2.1 (rdN l p b M63).2.2 M63).2.1 (rdN l (rdN l p b M63).2.1 (rdN l p b M63).2.2 M63).2.2 4).2.2 M63).2.1 (rdN l (rdL l (rdN l (rdN l p b M63).2.1 (rdN l p b M63).2.2 M63).2.1 (rdN l (rdN l p b M63).2.1 (rdN l p b M63).2.2 M63).2.2 4).2.1 (rdL l (rdN l (rdN l p b M63).2.1 (rdN l p b M63).2.2 M63).2.1 (rdN l (rdN l p b M63).2.1 (rdN l p b M63).2.2 M63).2.2 4).2.2 M63).2.2 M63).2)
theorem rdSeg_of {l : List Int} {p p1 p2 p3 p4 p5 : Nat} {b b1 b2 b3 b4 b5 x1 x2 x3 x4 x5 : Int} (h1 : rdN l p b M63 = (x1, p1, b1)) (h2 : rdN l p1 b1 M63 = (x2, p2, b2)) (h3 : rdL l p2 b2 4 = (x3, p3, b3)) (h4 : rdN l p3 b3 M63 = (x4, p4, b4)) (h5 : rdN l p4 b4 M63 = (x5, p5, b5)) :
    rdSeg l p b = (⟨x1, x2, x3, x4, x5⟩, p5, b5) := by
  unfold rdSeg; simp only [h1, h2, h3, h4, h5]
/-- so many segments are read from p on -/
def rdSegs (l : List Int) (p : Nat) (b : Int) : Nat → List Sg × Nat × Int
  | 0 => ([], p, b)
  | k + 1 => ((rdSegs l p b k).1 ++ [(rdSeg l (rdSegs l p b k).2.1 (rdSegs l p b k).2.2).1], (rdSeg l (rdSegs l p b k).2.1 (rdSegs l p b k).2.2).2)
theorem rdSegs_len (l : List Int) (p : Nat) (b : Int) : ∀ k, (rdSegs l p b k).1.length = k
  | 0 => rfl
  | k + 1 => by unfold rdSegs; rw [List.length_append, rdSegs_len l p b k]; rfl
theorem rdN_bd (l : List Int) (hb : BY l) (p : Nat) (hp : p ≤ l.length) (b most : Int) (hm : 0 ≤ most) : 0 ≤ (rdN l p b most).1 ∧ (rdN l p b most).1 ≤ most ∧ (rdN l p b most).2.1 ≤ l.length := by
  rcases rdN_cases l hb p hp b most with ⟨x, j, _, _, h2, h3, h4, _, h1⟩ | ⟨e, _, h1, _⟩
  · rw [h1]; exact ⟨h4, h2, h3⟩
  · rw [h1]; exact ⟨Int.le_refl _, hm, hp⟩
theorem rdL_bd (l : List Int) (hb : BY l) (p : Nat) (hp : p ≤ l.length) (b : Int) : 0 ≤ (rdL l p b 4).1 ∧ (rdL l p b 4).1 < 4294967296 ∧ (rdL l p b 4).2.1 ≤ l.length := by
  have h := low_small (by_drop hb p) 4
  unfold rdL
  split
  · exact ⟨Int.le_refl _, by omega, hp⟩
  · split
    · exact ⟨Int.le_refl _, by omega, hp⟩
    · exact ⟨h.1, by have := h.2; omega, by simp only; omega⟩
theorem rdSeg_bd (l : List Int) (hb : BY l) (p : Nat) (hp : p ≤ l.length) (b : Int) : SW (rdSeg l p b).1 ∧ (rdSeg l p b).2.1 ≤ l.length := by
  rcases h1 : rdN l p b M63 with ⟨x1, p1, b1⟩
  have q1 := rdN_bd l hb p hp b M63 (by decide)
  rw [h1] at q1
  rcases h2 : rdN l p1 b1 M63 with ⟨x2, p2, b2⟩
  have q2 := rdN_bd l hb p1 q1.2.2 b1 M63 (by decide)
  rw [h2] at q2
  rcases h3 : rdL l p2 b2 4 with ⟨x3, p3, b3⟩
  have q3 := rdL_bd l hb p2 q2.2.2 b2
  rw [h3] at q3
  rcases h4 : rdN l p3 b3 M63 with ⟨x4, p4, b4⟩
  have q4 := rdN_bd l hb p3 q3.2.2 b3 M63 (by decide)
  rw [h4] at q4
  rcases h5 : rdN l p4 b4 M63 with ⟨x5, p5, b5⟩
  have q5 := rdN_bd l hb p4 q4.2.2 b4 M63 (by decide)
  rw [h5] at q5
  rw [rdSeg_of h1 h2 h3 h4 h5]
  simp only [M63] at q1 q2 q3 q4 q5
  exact ⟨⟨⟨by show (-9223372036854775808 : Int) ≤ x1; omega, by show x1 ≤ (9223372036854775807 : Int); omega⟩, ⟨by show (-9223372036854775808 : Int) ≤ x2; omega, by show x2 ≤ (9223372036854775807 : Int); omega⟩, ⟨q3.1, q3.2.1⟩, ⟨by show (-9223372036854775808 : Int) ≤ x4; omega, by show x4 ≤ (9223372036854775807 : Int); omega⟩, ⟨by show (-9223372036854775808 : Int) ≤ x5; omega, by show x5 ≤ (9223372036854775807 : Int); omega⟩⟩, q5.2.2⟩
theorem rdSegs_bd (l : List Int) (hb : BY l) (p : Nat) (hp : p ≤ l.length) (b : Int) : ∀ k, (∀ j, SW (sg (rdSegs l p b k).1 j)) ∧ (rdSegs l p b k).2.1 ≤ l.length
  | 0 => ⟨fun j => by unfold rdSegs sg; simp; exact SW.d, hp⟩
  | k + 1 => by
    have h := rdSegs_bd l hb p hp b k
    have h2 := rdSeg_bd l hb (rdSegs l p b k).2.1 h.2 (rdSegs l p b k).2.2
    exact ⟨fun j => sw_app _ _ h.1 h2.1 j, h2.2⟩
/-- what body reads: the error's number, gen, first, the segments -/
def bodyI (l : List Int) : Int × Int × Int × Option (List Sg) :=
  let a := rdN l 0 0 M63
  let f := rdN l a.2.1 a.2.2 M63
  let c := rdN l f.2.1 f.2.2 64
  let s := rdSegs l c.2.1 c.2.2 c.1.toNat
  if s.2.2 = 2 then (2, 0, 0, none) else if s.2.2 ≠ 0 ∨ s.2.1 < l.length ∨ mayB a.1 f.1 s.1 = false then (4, 0, 0, none) else (0, a.1, f.1, some s.1)
theorem wrap_pos (x : Int) (h0 : 0 ≤ x) (h1 : x ≤ M63) : IntKind.i64.wrap x = x := by
  have h1' : x ≤ 9223372036854775807 := h1
  rw [IntKind.wrap_i64]; omega
set_option maxHeartbeats 400000 in
theorem number_any (g : Nat) (A : Option Addr) (n c : Nat) (l : List Int) (p : Nat) (b : Int) (w : World) (h : RS w g A n c l p b) :
    Calls Try.prog 122 #[.pointer (some ⟨g, 0, none⟩)] w fun e w' => e = .returned (.int .i64 (rdN l p b M63).1) ∧ RS w' g A n c l (rdN l p b M63).2.1 (rdN l p b M63).2.2 ∧ w.grownBy w' (some g) := by
  have hq := rdN_bd l h.rb.by_ p (by rw [h.rb.len]; exact h.hp) b M63 (by decide)
  have hw := wrap_pos (rdN l p b M63).1 hq.1 hq.2.1
  go_enter Try.func122, Try.ntmps122
  go_wp2_with (go_at_call 48; refine (varintR_any g A n c l p b M63 _ h).mono ?_; rintro e w1 ⟨rfl, hr, hg⟩)
  go_ret
  exact ⟨rfl, hr, hg⟩
end Go.Proofs.Ythggicgbcgeggaa
