/- Walk: flumelaw1.WireApart returns true. -/
import Derived.Test.YthggicgbcgeggaaV19
import Derived.Test.YthggicgbcgeggaaVR
set_option linter.unusedVariables false
set_option linter.unusedSimpArgs false
namespace Go.Proofs.Ythggicgbcgeggaa
open Go.RowKit
/-- lists made one behind the other, from block lo on -/
structure MD (w : World) (base : Nat) (us : List UL) (low : Nat) : Prop where
  own : ∀ j, j < us.length → OB 5 w base (us.getD j ud).v (us.getD j ud).l
  top : ∀ j, j < us.length → (us.getD j ud).l.length ≤ 140737488355328
  apart : ∀ i j, i < us.length → j < us.length → i ≠ j → ∀ k, (us.getD i ud).v.ownBlock = some k → (us.getD j ud).v.ownBlock ≠ some k
  low_ : ∀ j, j < us.length → ∀ k, (us.getD j ud).v.ownBlock = some k → low ≤ k
theorem MD.nil (w : World) (base low : Nat) : MD w base [] low := ⟨fun j h => absurd h (by simp), fun j h => absurd h (by simp), fun i j h => absurd h (by simp), fun j h => absurd h (by simp)⟩
theorem getU_app1 (us : List UL) (u : UL) (i : Nat) (h : i < us.length) : (us ++ [u]).getD i ud = us.getD i ud := by
  rw [List.getD_eq_getElem?_getD, List.getD_eq_getElem?_getD, List.getElem?_append_left h]
theorem getU_app2 (us : List UL) (u : UL) : (us ++ [u]).getD us.length ud = u := by simp
theorem MD.snoc {w w' : World} {base low : Nat} {us : List UL} {v : Value} {l : List Int} (h : MD w base us low) (hw : Below w.heap.size w w') (ho : OB 5 w' w.heap.size v l) (ht : l.length ≤ 140737488355328) (hb : base ≤ w.heap.size) (hl : low ≤ w.heap.size) : MD w' base (us ++ [⟨v, l⟩]) low := by
  have hlen : (us ++ [(⟨v, l⟩ : UL)]).length = us.length + 1 := by simp
  refine ⟨fun j hj => ?_, fun j hj => ?_, fun i j hi hj hij k hk hk2 => ?_, fun j hj k hk => ?_⟩
  · rw [hlen] at hj
    by_cases e : j < us.length
    · rw [getU_app1 _ _ _ e]; exact (h.own j e).below hw
    · obtain rfl : j = us.length := by omega
      rw [getU_app2]; exact ho.lower hb
  · rw [hlen] at hj
    by_cases e : j < us.length
    · rw [getU_app1 _ _ _ e]; exact h.top j e
    · obtain rfl : j = us.length := by omega
      rw [getU_app2]; exact ht
  · rw [hlen] at hi hj
    by_cases e1 : i < us.length
    · rw [getU_app1 _ _ _ e1] at hk
      by_cases e2 : j < us.length
      · rw [getU_app1 _ _ _ e2] at hk2; exact h.apart i j e1 e2 hij k hk hk2
      · obtain rfl : j = us.length := by omega
        rw [getU_app2] at hk2
        have h1 := (own_blk_lt (h.own i e1) k hk).2
        have h2 := (own_blk_lt ho k hk2).1
        omega
    · obtain rfl : i = us.length := by omega
      rw [getU_app2] at hk
      by_cases e2 : j < us.length
      · rw [getU_app1 _ _ _ e2] at hk2
        have h1 := (own_blk_lt (h.own j e2) k hk2).2
        have h2 := (own_blk_lt ho k hk).1
        omega
      · omega
  · rw [hlen] at hj
    by_cases e : j < us.length
    · rw [getU_app1 _ _ _ e] at hk; exact h.low_ j e k hk
    · obtain rfl : j = us.length := by omega
      rw [getU_app2] at hk
      have h2 := (own_blk_lt ho k hk).1
      omega
theorem MD.drew {w : World} {base low : Nat} {us : List UL} (h : MD w base us low) : MD w.drew base us low := ⟨h.own, h.top, h.apart, h.low_⟩
theorem MD.below {w w' : World} {base low : Nat} {us : List UL} (h : MD w base us low) (hw : Below w.heap.size w w') : MD w' base us low := ⟨fun j hj => (h.own j hj).below hw, h.top, h.apart, h.low_⟩
/-- the same lists in another order -/
theorem MD.perm {w : World} {base low : Nat} {us us' : List UL} (h : MD w base us low) (f : Nat → Nat) (hf : ∀ j, j < us'.length → f j < us.length ∧ us'.getD j ud = us.getD (f j) ud) (hi : ∀ i j, i < us'.length → j < us'.length → i ≠ j → f i ≠ f j) : MD w base us' low :=
  ⟨fun j hj => by rw [(hf j hj).2]; exact h.own _ (hf j hj).1, fun j hj => by rw [(hf j hj).2]; exact h.top _ (hf j hj).1,
    fun i j hi' hj' hij => by rw [(hf i hi').2, (hf j hj').2]; exact h.apart _ _ (hf i hi').1 (hf j hj').1 (hi i j hi' hj' hij), fun j hj => by rw [(hf j hj).2]; exact h.low_ _ (hf j hj).1⟩
/-- what Keep asks, out of what was made -/
theorem MD.us {w : World} {base low : Nat} {us : List UL} {ks : List KL} {cs : Array Value} (h : MD w base us low) (hks : ∀ i, i < ks.length → (ks.getD i kd).g < low) (hcs : cs = (us.map UL.v).toArray) : US (w.alloc (.cells cs 25)) base w.heap.size us ks := by
  subst hcs
  refine ⟨heap_alloc_new w _, fun j hj => (h.own j hj).below (below_alloc1 w _), h.top, fun i j hij hj => h.apart i j (by omega) hj (by omega), fun i j hi hj e => ?_⟩
  have h1 := h.low_ j hj _ e
  have h2 := hks i hi
  omega
theorem KB.hks {w : World} {base kb : Nat} {lv : Value} {sz : Int} {T : Nat} {ks : List KL} (h : KB w base kb lv sz T ks) : ∀ i, i < ks.length → (ks.getD i kd).g < w.heap.size := fun i hi => (h.glt i hi).2
theorem KB.new (w : World) (base T : Nat) (hb : base ≤ w.heap.size) : KB (w.alloc (.cells #[.slice none 0 0, .int .i64 0] 43)) base w.heap.size (.slice none 0 0) 0 T [] :=
  ⟨heap_alloc_new w _, by omega, by omega, by simp, hb, ⟨by simp, .inl ⟨rfl, rfl⟩⟩, fun i h => absurd h (by simp), fun i h => absurd h (by simp), fun i j h1 h2 => absurd h2 (by simp)⟩
theorem KB.lvlt {w : World} {base kb : Nat} {lv : Value} {sz : Int} {T : Nat} {ks : List KL} (h : KB w base kb lv sz T ks) {k : Nat} (hk : lv.ownBlock = some k) : base ≤ k ∧ k < w.heap.size := own_blk_lt h.row k hk
/-- a call of Keep over an array just made -/
theorem keep_call (base kb m low : Nat) (lv : Value) (sz : Int) (ks : List KL) (us : List UL) (cs : Array Value) (w0 w : World) (hbs : base = w0.heap.size) (hB : Below w0.heap.size w0 w) (hK : KB w base kb lv sz 4194304 ks) (hM : MD w base us low) (hks : ∀ i, i < ks.length → (ks.getD i kd).g < low) (hm : us.length = m) (hm8 : m ≤ 1000) (hcs : cs = (us.map UL.v).toArray) :
    Calls Try.prog 33 #[.pointer (some ⟨kb, 0, none⟩), .slice (some ⟨w.heap.size, 0, none⟩) m m] (w.alloc (.cells cs 25)) fun e w' => e = .returned (.tuple #[]) ∧ ∃ lv' sz' new, KB w' base kb lv' sz' 4194304 (ks ++ new) ∧ Fr (w.alloc (.cells cs 25)) w' (KP kb lv) ∧ Below w0.heap.size w0 w' := by
  have hbw : base ≤ w.heap.size := by rw [hbs]; exact hB.size
  refine (keep_any base kb w.heap.size m lv sz ks us (w.alloc (.cells cs 25)) (hK.below (below_alloc1 w _)) (hM.us hks hcs) hm hm8 (fun e => by have := (hK.lvlt e).2; omega) (by simp; omega)).mono ?_
  rintro e w' ⟨rfl, lv', sz', new, h1, h2, _⟩
  refine ⟨rfl, lv', sz', new, h1, h2, ?_⟩
  exact h2.below (hB.alloc hB.size _) (fun k hk => by
    rw [← hbs]
    rcases hk with rfl | hk
    · exact hK.hb
    · exact (hK.lvlt hk).1)
end Go.Proofs.Ythggicgbcgeggaa
