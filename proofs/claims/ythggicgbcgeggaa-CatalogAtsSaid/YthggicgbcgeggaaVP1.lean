/- Walk: flumelaw10.CatalogAts returns true for any input. -/
import Derived.Test.YthggicgbcgeggaaVB7
set_option linter.unusedVariables false
set_option linter.unusedSimpArgs false
namespace Go.Proofs.Ythggicgbcgeggaa
open Go.RowKit
open K
theorem lastLe_out (ss : List Sg) (lsn : Int) : ∀ k, (∃ j, j < k ∧ (sg ss j).base ≤ lsn) → lastLe ss lsn k < k ∧ (sg ss (lastLe ss lsn k)).base ≤ lsn ∧ ∀ j, lastLe ss lsn k < j → j < k → lsn < (sg ss j).base
  | 0, ⟨j, h, _⟩ => by omega
  | k + 1, ⟨j, h, hj⟩ => by
    unfold lastLe
    by_cases e : (sg ss k).base ≤ lsn
    · rw [if_pos e]; exact ⟨by omega, e, fun j h1 h2 => by omega⟩
    · rw [if_neg e]
      have ih := lastLe_out ss lsn k ⟨j, by (have : j ≠ k := fun h => e (h ▸ hj)); omega, hj⟩
      refine ⟨by omega, ih.2.1, fun j h1 h2 => ?_⟩
      by_cases e2 : j = k
      · subst e2; omega
      · exact ih.2.2 j h1 (by omega)
theorem at_law {gen first lsn : Int} {ss : List Sg} {k : Nat} (h : mayB gen first ss = true) (hk : k < ss.length) (hb : (sg ss k).base ≤ lsn) :
    (¬ first ≤ lsn ∧ atI gen first ss lsn = (0, false)) ∨ (first ≤ lsn ∧ ∃ i : Nat, atI gen first ss lsn = ((i : Int), true) ∧ i < ss.length ∧ (sg ss i).base ≤ lsn ∧ (i + 1 < ss.length → lsn < (sg ss i).end_)) := by
  by_cases hf : first ≤ lsn
  · refine .inr ⟨hf, lastLe ss lsn ss.length, by unfold atI; rw [if_pos ⟨h, hf⟩], ?_⟩
    obtain ⟨h1, h2, h3⟩ := lastLe_out ss lsn ss.length ⟨k, hk, hb⟩
    refine ⟨h1, h2, fun h4 => ?_⟩
    have h5 := h3 (lastLe ss lsn ss.length + 1) (by omega) h4
    have h6 := (chk_out ((may_out h).2.2.2.2.2.1 (lastLe ss lsn ss.length) (by omega))).2.2.2.2.2.2.2
    omega
  · exact .inl ⟨hf, by unfold atI; rw [if_neg (by intro h2; exact hf h2.2)]⟩
theorem at_no {gen first lsn : Int} {ss : List Sg} (h : ¬ (mayB gen first ss = true ∧ first ≤ lsn)) : atI gen first ss lsn = (0, false) := by unfold atI; rw [if_neg h]
set_option maxRecDepth 20000 in
set_option maxHeartbeats 4000000 in
theorem ats_law (gen first : Int) (A : Option Addr) (n c : Nat) (ss : List Sg) (by_ : Int) (w : World) (hs : RSg w A n ss) (hc : n ≤ c) (hg : i64r gen) (hf : i64r first) (hb : i64r by_) :
    Calls Try.prog 14 #[.agg #[.int .i64 gen, .int .i64 first, .slice A n c], .int .i64 by_] w fun e w' => e = .returned (.bool true) ∧ Below w.heap.size w w' := by
  have HL := Lib.hid hs.len
  have hb1 := below_alloc1 w (.cells #[.int .i64 gen, .int .i64 first, .slice A n c] 78)
  have HTN := Lib.hid (heap_alloc_new w (.cells #[.int .i64 gen, .int .i64 first, .slice A n c] 78))
  have hs1 := hs.below hb1
  cases hm : mayB gen first ss
  · have HM := Lib.hid hm
    have HA := Lib.hid (at_no (gen := gen) (first := first) (lsn := by_) (ss := ss) (by rw [hm]; simp))
    have HC := Lib.hid (show catI gen first ss = ([], 4) by unfold catI; rw [if_neg (by rw [hm]; simp)])
    clear hm
    go_enter Try.func14, Try.ntmps14
    go_wp2_with (first
      | (go_at_call 53; refine (begun10_any _).mono ?_; rintro e w2 ⟨rfl, hb2⟩; have hw2 := below_to hb1 hb1.size hb2; have ht2 := (hb2.block _ (lt_of_block HTN.out)).trans HTN.out; have hs2 := hs1.below hb2; have x0 := blk_cell ht2 0 (v := some (.int .i64 gen)) rfl; have x1 := blk_cell ht2 1 (v := some (.int .i64 first)) rfl; have x2 := blk_cell ht2 2 (v := some (.slice A n c)) rfl)
      | (go_at_call 59; refine (may_any gen first A n c ss _ hs2 hc).mono ?_; rw [HM.out]; rintro e w3 ⟨rfl, hb3⟩; have hw3 := below_to hw2 hw2.size hb3; have ht3 := (hb3.block _ (lt_of_block ht2)).trans ht2; have hs3 := hs2.below hb3; have y0 := blk_cell ht3 0 (v := some (.int .i64 gen)) rfl; have y1 := blk_cell ht3 1 (v := some (.int .i64 first)) rfl; have y2 := blk_cell ht3 2 (v := some (.slice A n c)) rfl)
      | (go_at_call 57; refine (atC_any gen first by_ A n c ss _ hs3 hc).mono ?_; rw [HA.out]; rintro e w4 ⟨rfl, hb4⟩; have hw4 := below_to hw3 hw3.size hb4; have ht4 := (hb4.block _ (lt_of_block ht3)).trans ht3; have hs4 := hs3.below hb4; have z0 := blk_cell ht4 0 (v := some (.int .i64 gen)) rfl; have z1 := blk_cell ht4 1 (v := some (.int .i64 first)) rfl; have z2 := blk_cell ht4 2 (v := some (.slice A n c)) rfl)
      | (go_at_call 55; refine (writeR gen first A n c ss _ hs4 hc hg hf).mono ?_; rw [HC.out]; rintro e w5 ⟨A5, n5, c5, rfl, hr5, hc5, hb5⟩; have hw5 := below_to hw4 hw4.size hb5; obtain rfl : n5 = 0 := hr5.len.symm))
    go_ret
    exact ⟨rfl, hw5⟩
  · have HM := Lib.hid hm
    have hmo := may_out hm
    have n1 : n ≤ 64 := by have := hmo.2.2.2.1; have := HL.out; omega
    have n0 : 1 ≤ n := by have := hmo.2.2.1; have := HL.out; omega
    have f1 := hmo.2.1
    clear hm hmo
    obtain ⟨-, f2⟩ := hf
    have f2' : first ≤ 9223372036854775807 := f2
    clear f2
    have hn64 : ¬ (64 : Int) < (n : Int) := by omega
    have hwf : IntKind.i64.wrap (first - 1) = first - 1 := by rw [IntKind.wrap_i64]; omega
    have hwn : IntKind.i64.wrap ((n : Int) - 1) = (n : Int) - 1 := by rw [IntKind.wrap_i64]; omega
    have HA := Lib.hid (at_no (gen := gen) (first := first) (lsn := first - 1) (ss := ss) (by omega))
    by_cases hby : by_ < 0 ∨ 1000 < by_
    · by_cases hb0 : by_ < 0
      · clear hby
        go_enter Try.func14, Try.ntmps14
        go_wp2_with (first
          | (go_at_call 53; refine (begun10_any _).mono ?_; rintro e w2 ⟨rfl, hb2⟩; have hw2 := below_to hb1 hb1.size hb2; have ht2 := (hb2.block _ (lt_of_block HTN.out)).trans HTN.out; have hs2 := hs1.below hb2; have x0 := blk_cell ht2 0 (v := some (.int .i64 gen)) rfl; have x1 := blk_cell ht2 1 (v := some (.int .i64 first)) rfl; have x2 := blk_cell ht2 2 (v := some (.slice A n c)) rfl)
          | (go_at_call 59; refine (may_any gen first A n c ss _ hs2 hc).mono ?_; rw [HM.out]; rintro e w3 ⟨rfl, hb3⟩; have hw3 := below_to hw2 hw2.size hb3; have ht3 := (hb3.block _ (lt_of_block ht2)).trans ht2; have hs3 := hs2.below hb3; have y0 := blk_cell ht3 0 (v := some (.int .i64 gen)) rfl; have y1 := blk_cell ht3 1 (v := some (.int .i64 first)) rfl; have y2 := blk_cell ht3 2 (v := some (.slice A n c)) rfl))
        go_ret
        exact ⟨rfl, hw3⟩
      · have hb2 : 1000 < by_ := by omega
        clear hby
        go_enter Try.func14, Try.ntmps14
        go_wp2_with (first
          | (go_at_call 53; refine (begun10_any _).mono ?_; rintro e w2 ⟨rfl, hb2⟩; have hw2 := below_to hb1 hb1.size hb2; have ht2 := (hb2.block _ (lt_of_block HTN.out)).trans HTN.out; have hs2 := hs1.below hb2; have x0 := blk_cell ht2 0 (v := some (.int .i64 gen)) rfl; have x1 := blk_cell ht2 1 (v := some (.int .i64 first)) rfl; have x2 := blk_cell ht2 2 (v := some (.slice A n c)) rfl)
          | (go_at_call 59; refine (may_any gen first A n c ss _ hs2 hc).mono ?_; rw [HM.out]; rintro e w3 ⟨rfl, hb3⟩; have hw3 := below_to hw2 hw2.size hb3; have ht3 := (hb3.block _ (lt_of_block ht2)).trans ht2; have hs3 := hs2.below hb3; have y0 := blk_cell ht3 0 (v := some (.int .i64 gen)) rfl; have y1 := blk_cell ht3 1 (v := some (.int .i64 first)) rfl; have y2 := blk_cell ht3 2 (v := some (.slice A n c)) rfl))
        go_ret
        exact ⟨rfl, hw3⟩
    · have hby1 : ¬ by_ < 0 := by omega
      have hby2 : ¬ 1000 < by_ := by omega
      clear hby
      go_enter Try.func14, Try.ntmps14
      go_wp2_with (first
        | (go_at_call 53; refine (begun10_any _).mono ?_; rintro e w2 ⟨rfl, hb2⟩; have hw2 := below_to hb1 hb1.size hb2; have ht2 := (hb2.block _ (lt_of_block HTN.out)).trans HTN.out; have hs2 := hs1.below hb2; have x0 := blk_cell ht2 0 (v := some (.int .i64 gen)) rfl; have x1 := blk_cell ht2 1 (v := some (.int .i64 first)) rfl; have x2 := blk_cell ht2 2 (v := some (.slice A n c)) rfl)
        | (go_at_call 59; refine (may_any gen first A n c ss _ hs2 hc).mono ?_; rw [HM.out]; rintro e w3 ⟨rfl, hb3⟩; have hw3 := below_to hw2 hw2.size hb3; have ht3 := (hb3.block _ (lt_of_block ht2)).trans ht2; have hs3 := hs2.below hb3; have y0 := blk_cell ht3 0 (v := some (.int .i64 gen)) rfl; have y1 := blk_cell ht3 1 (v := some (.int .i64 first)) rfl; have y2 := blk_cell ht3 2 (v := some (.slice A n c)) rfl))
      clear x0 x1 x2 y0 y1 y2 hs2 ht2 hw2 hb2
      go_loopw [10] (fun i wr => ∃ k : Nat, i = .int .i64 k ∧ k ≤ n ∧ RSg wr A n ss ∧ wr.heap[w.heap.size]? = some (.cells #[.int .i64 gen, .int .i64 first, .slice A n c] 78) ∧ Below w.heap.size w wr) (fun i _ => n - (intOf i).toNat)
      case atStart => exact ⟨0, rfl, by omega, hs3, ht3, hw3⟩
      case round =>
        clear hs3 ht3 hw3 hb3
        obtain ⟨k, rfl, hk, hs, ht, hw⟩ := hrel
        have x0 := blk_cell ht 0 (v := some (.int .i64 gen)) rfl
        have x1 := blk_cell ht 1 (v := some (.int .i64 first)) rfl
        have x2 := blk_cell ht 2 (v := some (.slice A n c)) rfl
        by_cases hlt : k < n
        · have hle : (k : Int) ≤ (n : Int) - 1 := by omega
          have hp := sg_pos HM.out k (by have := HL.out; omega)
          have hr := (hs.rng k).base.2
          obtain ⟨ad, rfl, p1, p2, p3, p4, p5⟩ := hs.cell k hlt
          obtain ⟨b, hbk⟩ : ∃ b, (sg ss k).base = b := ⟨_, rfl⟩
          have hb0 : 1 ≤ b := by rw [← hbk]; exact hp.2.1
          have hb9 : b ≤ 9223372036854775807 := by rw [← hbk]; exact hr
          rw [hbk] at p2
          have HBK := Lib.hid hbk
          clear hp hr hbk p1 p3 p4 p5
          by_cases hov : b + by_ ≤ 9223372036854775807
          · have hwl : IntKind.i64.wrap (b + by_) = b + by_ := by rw [IntKind.wrap_i64]; omega
            have hnl : ¬ b + by_ < b := by omega
            rcases at_law (lsn := b + by_) HM.out (show k < ss.length by have := HL.out; omega) (by rw [HBK.out]; omega) with ⟨hf1, ha⟩ | ⟨hf1, i, ha, hi1, hi2, hi3⟩
            · have HAT := Lib.hid ha
              clear ha
              go_wp2_with (go_at_call 57; refine (atC_any gen first (b + by_) (some ad) n c ss _ hs hc).mono ?_; rw [HAT.out]; rintro e w4 ⟨rfl, hb4⟩; have hw4 := below_to hw hw.size hb4; have ht4 := (hb4.block _ (lt_of_block ht)).trans ht; have hs4 := hs.below hb4; have z1 := blk_cell ht4 1 (v := some (.int .i64 first)) rfl)
              go_roundw
              case rel => exact ⟨k + 1, by simp, by omega, hs4, ht4, hw4⟩
              case measure => simp [intOf]; omega
            · have HAT := Lib.hid ha
              have hin : i < n := by have := HL.out; omega
              obtain ⟨b2, hb2⟩ : ∃ b2, (sg ss i).base = b2 := ⟨_, rfl⟩
              obtain ⟨e2, he2⟩ : ∃ e2, (sg ss i).end_ = e2 := ⟨_, rfl⟩
              rw [hb2] at hi2
              rw [he2] at hi3
              have hni : ¬ b + by_ < b2 := by omega
              have HB2 := Lib.hid hb2
              have HE2 := Lib.hid he2
              clear ha hb2 he2
              by_cases hil : (i : Int) < (n : Int) - 1
              · have hne : ¬ e2 ≤ b + by_ := by have := hi3 (by have := HL.out; omega); omega
                clear hi3 hi1
                go_wp2_with (go_at_call 57; refine (atC_any gen first (b + by_) (some ad) n c ss _ hs hc).mono ?_; rw [HAT.out]; rintro e w4 ⟨rfl, hb4⟩; have hw4 := below_to hw hw.size hb4; have ht4 := (hb4.block _ (lt_of_block ht)).trans ht; have hs4 := hs.below hb4; have z1 := blk_cell ht4 1 (v := some (.int .i64 first)) rfl; have z2 := blk_cell ht4 2 (v := some (.slice (some ad) n c)) rfl; obtain ⟨ad', hA', r1, r2, r3, r4, r5⟩ := hs4.cell i hin; obtain rfl : ad = ad' := (by injection hA'); rw [HB2.out] at r2; rw [HE2.out] at r4; clear r1 r3 r5)
                go_roundw
                case rel => exact ⟨k + 1, by simp, by omega, hs4, ht4, hw4⟩
                case measure => simp [intOf]; omega
              · clear hi3 hi1
                go_wp2_with (go_at_call 57; refine (atC_any gen first (b + by_) (some ad) n c ss _ hs hc).mono ?_; rw [HAT.out]; rintro e w4 ⟨rfl, hb4⟩; have hw4 := below_to hw hw.size hb4; have ht4 := (hb4.block _ (lt_of_block ht)).trans ht; have hs4 := hs.below hb4; have z1 := blk_cell ht4 1 (v := some (.int .i64 first)) rfl; have z2 := blk_cell ht4 2 (v := some (.slice (some ad) n c)) rfl; obtain ⟨ad', hA', r1, r2, r3, r4, r5⟩ := hs4.cell i hin; obtain rfl : ad = ad' := (by injection hA'); rw [HB2.out] at r2; rw [HE2.out] at r4; clear r1 r3 r5)
                go_roundw
                case rel => exact ⟨k + 1, by simp, by omega, hs4, ht4, hw4⟩
                case measure => simp [intOf]; omega
          · obtain ⟨ov, hwl⟩ : ∃ ov, IntKind.i64.wrap (b + by_) = ov := ⟨_, rfl⟩
            have hnl : ov < b := by rw [← hwl, IntKind.wrap_i64]; omega
            go_wp2_with fail
            go_ret
            exact ⟨rfl, hw⟩
        · have hle : ¬ (k : Int) ≤ (n : Int) - 1 := by omega
          go_wp2_with (go_at_call 57; refine (atC_any gen first (first - 1) A n c ss _ hs hc).mono ?_; rw [HA.out]; rintro e w4 ⟨rfl, hb4⟩; have hw4 := below_to hw hw.size hb4)
          go_ret
          exact ⟨rfl, hw4⟩
end Go.Proofs.Ythggicgbcgeggaa
