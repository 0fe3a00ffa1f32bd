/- Walk: flumelaw10.CatalogReads returns true for any input. -/
import Derived.Test.YthggicgbcgeggaaVB9
import Derived.Test.YthggicgbcgeggaaVA
set_option linter.unusedVariables false
set_option linter.unusedSimpArgs false
namespace Go.Proofs.Ythggicgbcgeggaa
open Go.RowKit
open K
theorem bodyI_form (l : List Int) : ((bodyI l).2 = (0, 0, none) ∧ (bodyI l).1 ≠ 0) ∨ ∃ g f ss, bodyI l = (0, g, f, some ss) := by
  unfold bodyI
  simp only
  split
  · exact .inl ⟨rfl, by decide⟩
  · split
    · exact .inl ⟨rfl, by decide⟩
    · exact .inr ⟨_, _, _, rfl⟩
theorem readI_form (l : List Int) : ((readI l).2 = (0, 0, none) ∧ (readI l).1 ≠ 0) ∨ ∃ g f ss, readI l = (0, g, f, some ss) := by
  unfold readI
  split
  · exact .inl ⟨rfl, by decide⟩
  · split
    · exact .inl ⟨rfl, by decide⟩
    · split
      · exact .inl ⟨rfl, by decide⟩
      · exact bodyI_form _
theorem add_blk3 (ad : Addr) (i : Nat) : (ad.add i).block = ad.block := by unfold Addr.add; split <;> rfl
theorem RSg.grown {w w' : World} {A : Option Addr} {n g : Nat} {ss : List Sg} (h : RSg w A n ss) (hne : ∀ ad, A = some ad → ad.block ≠ g) (hg : w.grownBy w' (some g)) : RSg w' A n ss :=
  ⟨h.len, h.top, fun j hj => by
    obtain ⟨ad, e, h1, h2, h3, h4, h5⟩ := h.cell j hj
    have hb : (ad.add (j * 5)).block ≠ g := by rw [add_blk3]; exact hne ad e
    have hk : ∀ (a : Addr) (v : Value), a.block = (ad.add (j * 5)).block → w.cell? a = some v → w'.cell? a = some v := fun a v ha hc => (World.cell?_of_block (hg.block a.block (World.block_lt_of_cell? w _ hc) (by rw [ha]; exact fun e => hb (Option.some.inj e)))).trans hc
    exact ⟨ad, e, hk _ _ rfl h1, hk ⟨_, _, none⟩ _ rfl h2, hk ⟨_, _, none⟩ _ rfl h3, hk ⟨_, _, none⟩ _ rfl h4, hk ⟨_, _, none⟩ _ rfl h5⟩, h.rng⟩
/-- a catalog that was answered, when there is none -/
theorem CR.none {w : World} {base : Nat} {v : Value} {gen first : Int} (h : CR w base v gen first none) : v = .agg #[.int .i64 0, .int .i64 0, .slice none 0 0] := h
theorem CR.some {w : World} {base : Nat} {v : Value} {gen first : Int} {ss : List Sg} (h : CR w base v gen first (some ss)) (hw : ∀ j, SW (sg ss j)) (hl : ss.length ≤ 64) :
    ∃ A n c, v = .agg #[.int .i64 gen, .int .i64 first, .slice A n c] ∧ n ≤ c ∧ RSg w A n ss ∧ ∀ ad, A = Option.some ad → base ≤ ad.block := by
  obtain ⟨u, e, ho⟩ := h
  obtain ⟨A, n, c, rfl, -, hc, hr⟩ := ho.read hw (by omega)
  exact ⟨A, n, c, e, hc, hr, fun ad e => (own_blk_lt ho ad.block (by rw [e]; rfl)).1⟩
theorem RSg.nil (w : World) : RSg w none 0 [] := ⟨rfl, by omega, fun j hj => by omega, fun _ => SW.d⟩
set_option maxRecDepth 20000 in
set_option maxHeartbeats 4000000 in
theorem creads_law (AB : Option Addr) (nb cb : Nat) (ls : List (List Int)) (w : World) (hB : RBB w AB nb ls) :
    Calls Try.prog 12 #[.slice AB nb cb] w fun e w' => e = .returned (.bool true) ∧ Below w.heap.size w w' := by
  have tb := hB.top
  go_enter Try.func12, Try.ntmps12
  go_wp2_with (go_at_call 53; refine (begun10_any _).mono ?_; rintro e w1 ⟨rfl, hw⟩)
  go_loopw [3] (fun i wr => ∃ (k : Nat), k ≤ nb ∧ i = .int .i64 k ∧ Below w.heap.size w wr) (fun i _ => nb - (intOf i).toNat)
  case atStart => exact ⟨0, by omega, rfl, hw⟩
  case round =>
    clear hw
    obtain ⟨k, hk, rfl, hw⟩ := hrel
    by_cases hlt : k < nb
    · by_cases h40 : k < 40
      · obtain ⟨ad, A2, c2, rfl, hcb, hr2, hn2, hc2⟩ := hB.cell k hlt
        obtain ⟨l2, hl2⟩ : ∃ l2, l2 = ls.getD k [] := ⟨_, rfl⟩
        rw [← hl2] at hcb hr2 hn2 hc2
        clear hl2
        obtain ⟨n2, hn2'⟩ : ∃ n2, n2 = l2.length := ⟨_, rfl⟩
        rw [← hn2'] at hcb hr2 hn2 hc2
        have HL2 := Lib.hid hn2'
        clear hn2'
        have hcb1 := cell_keep hw hcb
        rcases readI_form l2 with ⟨hf1, hf2⟩ | ⟨g0, f0, ss, hf⟩
        · obtain ⟨e0, he0⟩ : ∃ e0, (readI l2).1 = e0 := ⟨_, rfl⟩
          have HR : Hid (readI l2 = (e0, 0, 0, none)) := Lib.hid (by rw [← he0, ← hf1])
          have he1 : (e0 == 0) = false := by rw [← he0]; simpa using hf2
          have HQ := Lib.hid (show eqC 0 0 [] 0 0 [] = true by decide)
          clear hf1 hf2 he0
          go_wp2_with (first
            | (go_at_call 21; refine (lent_any A2 n2 c2 l2 hn2 _ (hr2.below hw)).mono ?_; rintro e w21 ⟨g, cap, rfl, hg, hcap, hL, hw21⟩; have hlr := (show RB w21 (some ⟨g, 0, none⟩) n2 l2 from OB.rb hL HL2.out.symm hr2.by_ (by omega)); have hw2 := below_step hw hw21; have hcb2 := cell_keep hw2 hcb; have hgl := own_blk_lt hL g rfl)
            | (go_at_call 68; refine (cread_any (some ⟨g, 0, none⟩) n2 cap l2 _ hlr (by omega)).mono ?_; rw [HR.out]; rintro e w22 ⟨v, rfl, hCR, hw22⟩; have hv5 := CR.none hCR; subst hv5; have hr5 := RSg.nil w22; clear hCR; have hw3 := (below_step hw2 hw22).alloc (below_step hw2 hw22).size (.cells #[.int .i64 0, .int .i64 0, .slice none 0 0] 78); have hcb3 := cell_keep (below_step hw2 hw22) hcb; have hcb3' := cell_keep hw3 hcb; have hL3 := (hL.below hw22).below (below_alloc1 _ (.cells #[.int .i64 0, .int .i64 0, .slice none 0 0] 78)); have ht5 := heap_alloc_new w22 (.cells #[.int .i64 0, .int .i64 0, .slice none 0 0] 78); have hr5' := hr5.below (below_alloc1 _ (.cells #[.int .i64 0, .int .i64 0, .slice none 0 0] 78)); have hg5 : g < w22.heap.size := (by have := hw22.size; omega))
            | (go_at_call 69; refine (rcread_any A2 n2 c2 l2 _ (hr2.below hw3) hc2).mono ?_; rw [HR.out]; rintro e w23 ⟨v, rfl, hCR, hw23⟩; have hv6 := CR.none hCR; subst hv6; have hr6 := RSg.nil w23; clear hCR; have hw4a := below_to hw3 hw3.size hw23; have hw4 := hw4a.alloc hw4a.size (.cells #[.int .i64 0, .int .i64 0, .slice none 0 0] 78); have hcb4 := cell_keep hw4 hcb; have hcb4' := cell_keep hw4a hcb; have hL4 := (hL3.below hw23).below (below_alloc1 _ (.cells #[.int .i64 0, .int .i64 0, .slice none 0 0] 78)); have ht6 := heap_alloc_new w23 (.cells #[.int .i64 0, .int .i64 0, .slice none 0 0] 78); have ht5' := (hw23.block _ (lt_of_block ht5)).trans ht5; have ht5'' := blk_old ht5' (.cells #[.int .i64 0, .int .i64 0, .slice none 0 0] 78); have hr5'' := (hr5'.below hw23).below (below_alloc1 _ (.cells #[.int .i64 0, .int .i64 0, .slice none 0 0] 78)); have hr6' := hr6.below (below_alloc1 _ (.cells #[.int .i64 0, .int .i64 0, .slice none 0 0] 78)); have p0 := blk_cell ht5' 0 (v := some (.int .i64 0)) rfl; have p1 := blk_cell ht5' 1 (v := some (.int .i64 0)) rfl; have p2 := blk_cell ht5' 2 (v := some (.slice none 0 0)) rfl; have r0 := blk_cell ht5'' 0 (v := some (.int .i64 0)) rfl; have r1 := blk_cell ht5'' 1 (v := some (.int .i64 0)) rfl; have r2 := blk_cell ht5'' 2 (v := some (.slice none 0 0)) rfl)
            | (go_at_call 65; refine (eqC_any 0 0 0 0 none none 0 0 0 0 [] [] _ hr5'' (Nat.le_refl _) hr6' (Nat.le_refl _)).mono ?_; rw [HQ.out]; rintro e w24 ⟨rfl, hw24⟩; have hw5 := below_to hw4 hw4.size hw24; have hcb5 := cell_keep hw5 hcb; have hL5 := hL4.below hw24; have ht57 := (hw24.block _ (lt_of_block ht5'')).trans ht5''; have hr57 := hr5''.below hw24)
            | (go_at_call 27; refine (back_any A2 n2 c2 g cap l2 hn2 hcap w _ hw5 hr2 (Nat.le_trans hw.size hg) (hL5.lower hw.size)).mono ?_; rintro e w27 ⟨rfl, hg27⟩; have hw7 := grown_below hw5 hg27 (Nat.le_trans hw.size hg); have hcb7 := cell_keep hw7 hcb; have ht58 := blk_grown hg27 (by omega) ht57))
          go_roundw
          case rel => exact ⟨k + 1, by omega, by go_num, hw7⟩
          case measure => simp [intOf]; omega
        · obtain ⟨-, hmay, hsw, hgr, hfr, hcat⟩ := catI_read hr2.by_ hf
          have HR : Hid (readI l2 = (0, g0, f0, some ss)) := Lib.hid hf
          have HC := Lib.hid hcat
          have HW := Lib.hid hsw
          have hl64 := (may_out hmay).2.2.2.1
          have HQ := Lib.hid (show eqC g0 f0 ss g0 f0 ss = true by unfold eqC; simp)
          clear hf hcat hsw hmay
          go_wp2_with (first
            | (go_at_call 21; refine (lent_any A2 n2 c2 l2 hn2 _ (hr2.below hw)).mono ?_; rintro e w21 ⟨g, cap, rfl, hg, hcap, hL, hw21⟩; have hlr := (show RB w21 (some ⟨g, 0, none⟩) n2 l2 from OB.rb hL HL2.out.symm hr2.by_ (by omega)); have hw2 := below_step hw hw21; have hcb2 := cell_keep hw2 hcb; have hgl := own_blk_lt hL g rfl)
            | (go_at_call 68; refine (cread_any (some ⟨g, 0, none⟩) n2 cap l2 _ hlr (by omega)).mono ?_; rw [HR.out]; rintro e w22 ⟨v, rfl, hCR, hw22⟩; obtain ⟨A5, n5, c5, rfl, hc5, hr5, hb5⟩ := CR.some hCR HW.out hl64; clear hCR; have hw3 := (below_step hw2 hw22).alloc (below_step hw2 hw22).size (.cells #[.int .i64 g0, .int .i64 f0, .slice A5 n5 c5] 78); have hcb3 := cell_keep (below_step hw2 hw22) hcb; have hcb3' := cell_keep hw3 hcb; have hL3 := (hL.below hw22).below (below_alloc1 _ (.cells #[.int .i64 g0, .int .i64 f0, .slice A5 n5 c5] 78)); have ht5 := heap_alloc_new w22 (.cells #[.int .i64 g0, .int .i64 f0, .slice A5 n5 c5] 78); have hr5' := hr5.below (below_alloc1 _ (.cells #[.int .i64 g0, .int .i64 f0, .slice A5 n5 c5] 78)); have hg5 : g < w22.heap.size := (by have := hw22.size; omega))
            | (go_at_call 69; refine (rcread_any A2 n2 c2 l2 _ (hr2.below hw3) hc2).mono ?_; rw [HR.out]; rintro e w23 ⟨v, rfl, hCR, hw23⟩; obtain ⟨A6, n6, c6, rfl, hc6, hr6, hb6⟩ := CR.some hCR HW.out hl64; clear hCR; have hw4a := below_to hw3 hw3.size hw23; have hw4 := hw4a.alloc hw4a.size (.cells #[.int .i64 g0, .int .i64 f0, .slice A6 n6 c6] 78); have hcb4 := cell_keep hw4 hcb; have hcb4' := cell_keep hw4a hcb; have hL4 := (hL3.below hw23).below (below_alloc1 _ (.cells #[.int .i64 g0, .int .i64 f0, .slice A6 n6 c6] 78)); have ht6 := heap_alloc_new w23 (.cells #[.int .i64 g0, .int .i64 f0, .slice A6 n6 c6] 78); have ht5' := (hw23.block _ (lt_of_block ht5)).trans ht5; have ht5'' := blk_old ht5' (.cells #[.int .i64 g0, .int .i64 f0, .slice A6 n6 c6] 78); have hr5'' := (hr5'.below hw23).below (below_alloc1 _ (.cells #[.int .i64 g0, .int .i64 f0, .slice A6 n6 c6] 78)); have hr6' := hr6.below (below_alloc1 _ (.cells #[.int .i64 g0, .int .i64 f0, .slice A6 n6 c6] 78)); have p0 := blk_cell ht5' 0 (v := some (.int .i64 g0)) rfl; have p1 := blk_cell ht5' 1 (v := some (.int .i64 f0)) rfl; have p2 := blk_cell ht5' 2 (v := some (.slice A5 n5 c5)) rfl; have r0 := blk_cell ht5'' 0 (v := some (.int .i64 g0)) rfl; have r1 := blk_cell ht5'' 1 (v := some (.int .i64 f0)) rfl; have r2 := blk_cell ht5'' 2 (v := some (.slice A5 n5 c5)) rfl)
            | (go_at_call 65; refine (eqC_any g0 f0 g0 f0 A5 A6 n5 c5 n6 c6 ss ss _ hr5'' hc5 hr6' hc6).mono ?_; rw [HQ.out]; rintro e w24 ⟨rfl, hw24⟩; have hw5 := below_to hw4 hw4.size hw24; have hcb5 := cell_keep hw5 hcb; have hL5 := hL4.below hw24; have ht57 := (hw24.block _ (lt_of_block ht5'')).trans ht5''; have hr57 := hr5''.below hw24)
            | (go_at_call 27; refine (back_any A2 n2 c2 g cap l2 hn2 hcap w _ hw5 hr2 (Nat.le_trans hw.size hg) (hL5.lower hw.size)).mono ?_; rintro e w27 ⟨rfl, hg27⟩; have hw7 := grown_below hw5 hg27 (Nat.le_trans hw.size hg); have hcb7 := cell_keep hw7 hcb; have ht58 := blk_grown hg27 (by omega) ht57; have hr58 := RSg.grown hr57 (fun ad' e' => by have := hb5 ad' e'; omega) hg27; have s0 := blk_cell ht58 0 (v := some (.int .i64 g0)) rfl; have s1 := blk_cell ht58 1 (v := some (.int .i64 f0)) rfl; have s2 := blk_cell ht58 2 (v := some (.slice A5 n5 c5)) rfl)
            | (go_at_call 55; refine (writeR g0 f0 A5 n5 c5 ss _ hr58 hc5 hgr hfr).mono ?_; rw [HC.out]; rintro e w28 ⟨A9, n9, c9, rfl, hr9, hc9, hw28⟩; have hw9 := below_to hw7 hw7.size hw28; have hcb9 := cell_keep hw9 hcb)
            | (go_at_call 26; refine (eq_any A9 A2 n9 n2 c9 c2 l2 l2 _ hr9 (hr2.below hw9)).mono ?_; rw [eqI_self]; rintro e w29 ⟨rfl, hw29⟩; have hw10 := below_to hw9 hw9.size hw29))
          go_roundw
          case rel => exact ⟨k + 1, by omega, by go_num, hw10⟩
          case measure => simp [intOf]; omega
      · go_wp2_with fail
        go_ret
        exact ⟨rfl, hw⟩
    · go_wp2_with fail
      go_ret
      exact ⟨rfl, hw⟩
end Go.Proofs.Ythggicgbcgeggaa
