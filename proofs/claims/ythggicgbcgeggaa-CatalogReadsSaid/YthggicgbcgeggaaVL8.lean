/- Walk: the document's Eq. -/
import Derived.Test.YthggicgbcgeggaaVL7
import Derived.Laws.StructEq
set_option linter.unusedVariables false
set_option linter.unusedSimpArgs false
namespace Go.Proofs.Ythggicgbcgeggaa
open Go.RowKit
deriving instance DecidableEq for Sg
/-- two catalogs are alike -/
def eqC (g1 f1 : Int) (s1 : List Sg) (g2 f2 : Int) (s2 : List Sg) : Bool := decide (g1 = g2 ∧ f1 = f2 ∧ s1 = s2)
theorem eq96 (s t : Sg) (w : World) : (Op.equalIn 10000 96 (.agg #[.int .i64 s.num, .int .i64 s.base, .int .u32 s.seed, .int .i64 s.end_, .int .i64 s.size]) (.agg #[.int .i64 t.num, .int .i64 t.base, .int .u32 t.seed, .int .i64 t.end_, .int .i64 t.size])).run Try.prog w = .ok (decide (s = t)) w := by
  have u2 := Try.underlying2
  have u3 := Try.underlying3
  have u46 := Try.underlying46
  have hS : Try.prog.underlying 96 = some (.struct (Try.prog.fieldsOf 96)) := by kernel_rfl
  have hp : Try.prog.stoodInHeld 96 = false := by kernel_rfl
  rw [show (10000 : Nat) = 9999 + 1 from rfl, run_equalIn_agg w 9999 96 _ _ hS hp]
  simp only [Program.fieldsOf, Try.underlying96]
  go_simp
  obtain ⟨a, b, c, d, e⟩ := s
  obtain ⟨a', b', c', d', e'⟩ := t
  by_cases h1 : a = a' <;> by_cases h2 : b = b' <;> by_cases h3 : c = c' <;> by_cases h4 : d = d' <;> by_cases h5 : e = e' <;> simp [h1, h2, h3, h4, h5]
theorem sgs_eq {a b : List Sg} (hl : a.length = b.length) (h : ∀ i, i < a.length → sg a i = sg b i) : a = b := by
  apply List.ext_getElem hl
  intro i h1 h2
  have := h i h1
  rw [sg_at a i h1, sg_at b i h2] at this
  exact this
theorem below2d (w : World) (a b : Obj) (k : Nat) : Below w.heap.size w (((w.alloc a).alloc b).drewN k) := below_drewN (below2 w a b) k
set_option maxRecDepth 20000 in
set_option maxHeartbeats 4000000 in
theorem eqC_any (g1 f1 g2 f2 : Int) (A1 A2 : Option Addr) (n1 c1 n2 c2 : Nat) (s1 s2 : List Sg) (w : World) (hs1 : RSg w A1 n1 s1) (hc1 : n1 ≤ c1) (hs2 : RSg w A2 n2 s2) (hc2 : n2 ≤ c2) :
    Calls Try.prog 65 #[.agg #[.int .i64 g1, .int .i64 f1, .slice A1 n1 c1], .agg #[.int .i64 g2, .int .i64 f2, .slice A2 n2 c2]] w fun e w' => e = .returned (.bool (eqC g1 f1 s1 g2 f2 s2)) ∧ Below w.heap.size w w' := by
  have HL1 := Lib.hid hs1.len
  have HL2 := Lib.hid hs2.len
  have ht1 := hs1.top
  have ht2 := hs2.top
  have hb1 := below2 w (.cells #[.int .i64 g1, .int .i64 f1, .slice A1 n1 c1] 78) (.cells #[.int .i64 g2, .int .i64 f2, .slice A2 n2 c2] 78)
  by_cases hg : g1 = g2
  · by_cases hf : f1 = f2
    · by_cases hn : n1 = n2
      · subst hg hf hn
        have hbd := below2d w (.cells #[.int .i64 g1, .int .i64 f1, .slice A1 n1 c1] 78) (.cells #[.int .i64 g1, .int .i64 f1, .slice A2 n1 c2] 78)
        have hs3 := hs1.below hb1
        have hs4 := hs2.below hb1
        obtain ⟨w1, hw1⟩ : ∃ w1, ((w.alloc (.cells #[.int .i64 g1, .int .i64 f1, .slice A1 n1 c1] 78)).alloc (.cells #[.int .i64 g1, .int .i64 f1, .slice A2 n1 c2] 78)) = w1 := ⟨_, rfl⟩
        obtain ⟨tn1, tn2⟩ := two_new w (.cells #[.int .i64 g1, .int .i64 f1, .slice A1 n1 c1] 78) (.cells #[.int .i64 g1, .int .i64 f1, .slice A2 n1 c2] 78)
        rw [hw1] at tn1 tn2 hs3 hs4 hbd hb1
        have HTN := Lib.hid (And.intro tn1 tn2)
        have HW1 := Lib.hid hw1
        clear tn1 tn2 hw1
        go_enter Try.func65, Try.ntmps65
        go_wp2_with fail
        rw [HW1.out]
        go_loopw [5] (fun i wr => ∃ (k q : Nat), k ≤ n1 ∧ i = .int .i64 k ∧ Hid (∀ j, j < k → sg s1 j = sg s2 j) ∧ Hid (wr = w1.drewN q)) (fun i _ => n1 - (intOf i).toNat)
        case atStart => exact ⟨0, 0, by omega, rfl, fun j hj => by omega, rfl⟩
        case round =>
          obtain ⟨k, q, hk, rfl, HC, HW⟩ := hrel
          obtain rfl := HW.out
          have y2 : w1.cell? ⟨w.heap.size, 2, none⟩ = some (.slice A1 n1 c1) := blk_cell HTN.out.1 2 rfl
          have z2 : w1.cell? ⟨w.heap.size + 1, 2, none⟩ = some (.slice A2 n1 c2) := blk_cell HTN.out.2 2 rfl
          by_cases hlt : k < n1
          · obtain ⟨ad1, rfl, p0, p1, p2, p3, p4⟩ := hs3.cell k hlt
            obtain ⟨ad2, rfl, r0, r1, r2, r3, r4⟩ := hs4.cell k hlt
            have k0 : (0 : Int) ≤ (k : Int) := by omega
            have hM : Try.prog.eqGuardType Try.prog.depth 96 = false := by kernel_rfl
            have hE : ∀ w, (Op.equalIn 10000 96 (.agg #[.int .i64 (sg s1 k).num, .int .i64 (sg s1 k).base, .int .u32 (sg s1 k).seed, .int .i64 (sg s1 k).end_, .int .i64 (sg s1 k).size]) (.agg #[.int .i64 (sg s2 k).num, .int .i64 (sg s2 k).base, .int .u32 (sg s2 k).seed, .int .i64 (sg s2 k).end_, .int .i64 (sg s2 k).size])).run Try.prog w = .ok (decide (sg s1 k = sg s2 k)) w := fun w => eq96 _ _ w
            have k1 : (k : Int) < (n1 : Int) := by omega
            by_cases q1 : sg s1 k = sg s2 k
            · have HQ := Lib.hid q1
              rw [show decide (sg s1 k = sg s2 k) = true from decide_eq_true q1] at hE
              clear q1
              go_wp2_with fail
              go_quiet (fail)
              go_wp2_with fail
              go_roundw
              case rel =>
                refine ⟨k + 1, q + nq, by omega, by go_num, Lib.hid fun j hj => ?_, by first | exact trivial | rfl | exact (World.drewN_drewN _ _ _) | exact (World.drewN_drewN _ _ _).symm⟩
                by_cases e : j = k
                · subst e; exact HQ.out
                · exact HC.out j (by omega)
              case measure => simp [intOf]; omega
            · have H := Lib.hid (show eqC g1 f1 s1 g1 f1 s2 = false by unfold eqC; apply decide_eq_false; rintro ⟨-, -, rfl⟩; exact q1 rfl)
              rw [show decide (sg s1 k = sg s2 k) = false from decide_eq_false q1] at hE
              clear q1
              go_wp2_with fail
              go_quiet (fail)
              go_wp2_with fail
              go_ret
              exact ⟨by rw [H.out]; rfl, below_drewN (hbd q) nq⟩
          · obtain rfl : k = n1 := by omega
            have H := Lib.hid (show eqC g1 f1 s1 g1 f1 s2 = true by unfold eqC; exact decide_eq_true ⟨rfl, rfl, sgs_eq (by rw [HL1.out, HL2.out]) (by rw [HL1.out]; exact HC.out)⟩)
            go_wp2_with fail
            go_ret
            exact ⟨by rw [H.out]; rfl, hbd q⟩
      · have H := Lib.hid (show eqC g1 f1 s1 g2 f2 s2 = false by unfold eqC; apply decide_eq_false; rintro ⟨-, -, h⟩; apply hn; rw [← HL1.out, ← HL2.out, h])
        have d1 : (g1 != g2) = false := by simpa using hg
        have d2 : (f1 != f2) = false := by simpa using hf
        have d3 : ((n1 : Int) != (n2 : Int)) = true := by simp; omega
        clear hg hf hn
        go_enter Try.func65, Try.ntmps65
        go_wp2_with fail
        go_ret
        exact ⟨by rw [H.out]; rfl, hb1⟩
    · have H := Lib.hid (show eqC g1 f1 s1 g2 f2 s2 = false by unfold eqC; apply decide_eq_false; rintro ⟨-, h, -⟩; exact hf h)
      have d1 : (g1 != g2) = false := by simpa using hg
      have d2 : (f1 != f2) = true := by simpa using hf
      clear hg hf
      go_enter Try.func65, Try.ntmps65
      go_wp2_with fail
      go_ret
      exact ⟨by rw [H.out]; rfl, hb1⟩
  · have H := Lib.hid (show eqC g1 f1 s1 g2 f2 s2 = false by unfold eqC; apply decide_eq_false; rintro ⟨h, -⟩; exact hg h)
    have d1 : (g1 != g2) = true := by simpa using hg
    clear hg
    go_enter Try.func65, Try.ntmps65
    go_wp2_with fail
    go_ret
    exact ⟨by rw [H.out]; rfl, hb1⟩
end Go.Proofs.Ythggicgbcgeggaa
