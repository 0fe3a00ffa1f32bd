/- Walk: flumelaw1.WireReads returns true for any input. -/
import Derived.Test.YthggicgbcgeggaaV6
import Derived.Test.YthggicgbcgeggaaVR
set_option linter.unusedVariables false
set_option linter.unusedSimpArgs false
namespace Go.Proofs.Ythggicgbcgeggaa
open Go.RowKit
theorem OB.rb {e : TypeId} {w : World} {base g n cap : Nat} {l m : List Int} (h : OB e w base (.slice (some ⟨g, 0, none⟩) (n + m.length) cap) (l ++ m)) (hl : l.length = n) (hb : BY l) (hn : n ≤ 140737488355328) : RB w (some ⟨g, 0, none⟩) n l := by
  refine ⟨hl, hn, fun j hj => ⟨_, rfl, ?_⟩, hb.nth⟩
  have := World.ownsRow.cells (g := g) h rfl j (.int .u8 (nth l j)) (by
    rw [bys_append, List.getElem?_append_left (by rw [bys_len]; omega), bys_at l j (by omega)])
  exact this
theorem OB.keptG {e : TypeId} {w w' : World} {base g : Nat} {v : Value} {l : List Int} (h : OB e w base v l) (hg : w.grownBy w' (some g)) (hlt : g < base) : OB e w' base v l :=
  World.ownsRow.kept h (row := some g) hg (by
    right
    intro e
    have := own_blk_lt h g e
    omega)
theorem OB.readR {e : TypeId} {w : World} {base n c : Nat} {A : Option Addr} {l : List Int} (h : OB e w base (.slice A n c) l) (hn : l.length = n) (hb : BY l) (hs : l.length ≤ 140737488355328) : RB w A n l := by
  obtain ⟨A2, n2, c2, e2, _, hr⟩ := h.readN hb hs
  injection e2 with e1 e2 e3
  subst e1 e2
  exact hr
theorem eqI_self (l : List Int) : eqI l l = true := by unfold eqI; simp
theorem rsI_props (l : List Int) (m : Int) (h : BY l) : BY (rsI l m).1 ∧ (rsI l m).1.length ≤ l.length := by
  unfold rsI
  split
  · exact ⟨fun x hx => by simp at hx, by simp⟩
  · split
    · exact ⟨fun x hx => by simp at hx, by simp⟩
    · split
      · exact ⟨fun x hx => by simp at hx, by simp⟩
      · split
        · exact ⟨fun x hx => by simp at hx, by simp⟩
        · refine ⟨fun x hx => h x (List.mem_of_mem_drop (List.mem_of_mem_take hx)), ?_⟩
          simp only [List.length_take, List.length_drop]
          omega
set_option maxRecDepth 20000 in
set_option maxHeartbeats 4000000 in
theorem reads_any (AB : Option Addr) (nb cb : Nat) (ls : List (List Int)) (AN : Option Addr) (nn cn : Nat) (is : List Int) (w : World)
    (hB : RBB w AB nb ls) (hN : RI .i64 w AN nn is) :
    Calls Try.prog 3 #[.slice AB nb cb, .slice AN nn cn] w fun e w' => e = .returned (.bool true) ∧ Below w.heap.size w w' := by
  have tb := hB.top
  have tn := hN.top
  go_enter Try.func3, Try.ntmps3
  go_wp2_with (go_at_call 20; refine (begun_any _).mono ?_; rintro e w1 ⟨rfl, hw⟩)
  go_loopw [5] (fun i wr => ∃ (k : Nat), k ≤ nb ∧ i = .int .i64 k ∧ Below w.heap.size w wr) (fun i _ => nb - (intOf i).toNat)
  case atStart => exact ⟨0, by omega, rfl, hw⟩
  case round =>
    clear hw
    obtain ⟨k, hk, rfl, hw⟩ := hrel
    by_cases hlt : k < nb
    · obtain ⟨ad, A2, c2, rfl, hcb, hr2, hn2, hc2⟩ := hB.cell k hlt
      obtain ⟨l2, hl2⟩ : ∃ l2, l2 = ls.getD k [] := ⟨_, rfl⟩
      rw [← hl2] at hcb hr2 hn2 hc2
      clear hl2
      obtain ⟨n2, hn2'⟩ : ∃ n2, n2 = l2.length := ⟨_, rfl⟩
      rw [← hn2'] at hcb hr2 hn2 hc2
      have HL2 := Lib.hid hn2'
      clear hn2'
      have hcb1 := cell_keep hw hcb
      by_cases hkn : k < nn
      · obtain ⟨nd, rfl, hcn⟩ := hN.cell k hkn
        obtain ⟨m0, m1⟩ := wf_i64' (hN.wf_nth k hkn)
        obtain ⟨m, hm⟩ : ∃ m, m = nth is k := ⟨_, rfl⟩
        rw [← hm] at hcn m0 m1
        clear hm
        obtain ⟨hy1, hy2⟩ := rsI_props l2 m hr2.by_
        have HY2 := Lib.hid hy2
        rw [← HL2.out] at hy2
        clear HL2
        have HL2 := Lib.hid hr2.len.symm
        go_wp2_with (first
          | (go_at_call 21; refine (lent_any A2 n2 c2 l2 hn2 _ (hr2.below hw)).mono ?_; rintro e w21 ⟨g, cap, rfl, hg, hcap, hL, hw21⟩; have hlr := (show RB w21 (some ⟨g, 0, none⟩) n2 l2 from OB.rb hL HL2.out.symm hr2.by_ (by omega)); have hw2 := below_step hw hw21; have hcb2 := cell_keep hw2 hcb; have hcn2 := cell_keep hw2 hcn; have hgl := own_blk_lt hL g rfl)
          | (go_at_call 22; with_reducible refine (read_any (some ⟨g, 0, none⟩) n2 cap l2 _ hlr).mono ?_; rintro e w22 ⟨rfl, rfl⟩)
          | (go_at_call 23; refine (rread_any A2 n2 c2 l2 _ (hr2.below hw2)).mono ?_; rintro e w23 ⟨rfl, rfl⟩)
          | (go_at_call 24; refine (rstr_any (some ⟨g, 0, none⟩) n2 cap l2 m _ hlr (by omega) m0 m1).mono ?_; rintro e w24 ⟨v1, rfl, hO1, hw24⟩; have hw3 := below_step hw2 hw24; have hcb3 := cell_keep hw3 hcb; have hlr3 := hlr.below hw24; obtain ⟨A3, n3, c3, rfl, hc3, hb3⟩ := hO1.readN hy1 (by omega))
          | (go_at_call 25; refine (rrstr_any A2 n2 c2 l2 m _ (hr2.below hw3) hc2 m0 m1).mono ?_; rintro e w25 ⟨v2, rfl, hO2, hw25⟩; have hw4 := below_step hw3 hw25; have hcb4 := cell_keep hw4 hcb; have hO3 := hO1.below hw25; have hL4 := (hL.below hw24).below hw25; obtain ⟨A4, n4, c4, rfl, hc4, hb4⟩ := hO2.readN hy1 (by omega); have hb5 := hb3.below hw25)
          | (go_at_call 26; with_reducible refine (eq_any A3 A4 n3 n4 c3 c4 _ _ _ hb5 hb4).mono ?_; rw [eqI_self]; rintro e w26 ⟨rfl, hw26⟩; have hw5 := below_step hw4 hw26; have hcb5 := cell_keep hw5 hcb)
          | (go_at_call 27; refine (back_any A2 n2 c2 g cap l2 hn2 hcap w _ hw5 hr2 (Nat.le_trans hw.size hg) ((hL4.below hw26).lower hw.size)).mono ?_; rintro e w27 ⟨rfl, hg27⟩; have hw6 := grown_below hw5 hg27 (Nat.le_trans hw.size hg); have hcb6 := cell_keep hw6 hcb; have hb7 := OB.readR ((hO3.below hw26).keptG hg27 (by have := hw2.size; omega)) hb3.len hy1 (by have := hb3.len; omega); have hb8 := OB.readR ((hO2.below hw26).keptG hg27 (by have := hw24.size; omega)) hb4.len hy1 (by have := hb4.len; omega))
          | (go_at_call 26; refine (eq_any A3 A4 n3 n4 c3 c4 _ _ _ hb7 hb8).mono ?_; rw [eqI_self]; rintro e w28 ⟨rfl, hw28⟩; have hw7 := below_step hw6 hw28))
        go_roundw
        case rel => exact ⟨k + 1, by omega, by go_num, hw7⟩
        case measure => simp [intOf]; omega
      · obtain ⟨m, hm⟩ : ∃ m : Int, m = 1048576 := ⟨_, rfl⟩
        have m0 : -9223372036854775808 ≤ (1048576 : Int) := by omega
        have m1 : (1048576 : Int) ≤ 9223372036854775807 := by omega
        obtain ⟨hy1, hy2⟩ := rsI_props l2 1048576 hr2.by_
        rw [← HL2.out] at hy2
        clear HL2
        have HL2 := Lib.hid hr2.len.symm
        go_wp2_with (first
          | (go_at_call 21; refine (lent_any A2 n2 c2 l2 hn2 _ (hr2.below hw)).mono ?_; rintro e w21 ⟨g, cap, rfl, hg, hcap, hL, hw21⟩; have hlr := (show RB w21 (some ⟨g, 0, none⟩) n2 l2 from OB.rb hL HL2.out.symm hr2.by_ (by omega)); have hw2 := below_step hw hw21; have hcb2 := cell_keep hw2 hcb; have hgl := own_blk_lt hL g rfl)
          | (go_at_call 22; with_reducible refine (read_any (some ⟨g, 0, none⟩) n2 cap l2 _ hlr).mono ?_; rintro e w22 ⟨rfl, rfl⟩)
          | (go_at_call 23; refine (rread_any A2 n2 c2 l2 _ (hr2.below hw2)).mono ?_; rintro e w23 ⟨rfl, rfl⟩)
          | (go_at_call 24; refine (rstr_any (some ⟨g, 0, none⟩) n2 cap l2 1048576 _ hlr (by omega) m0 m1).mono ?_; rintro e w24 ⟨v1, rfl, hO1, hw24⟩; have hw3 := below_step hw2 hw24; have hcb3 := cell_keep hw3 hcb; have hlr3 := hlr.below hw24; obtain ⟨A3, n3, c3, rfl, hc3, hb3⟩ := hO1.readN hy1 (by omega))
          | (go_at_call 25; refine (rrstr_any A2 n2 c2 l2 1048576 _ (hr2.below hw3) hc2 m0 m1).mono ?_; rintro e w25 ⟨v2, rfl, hO2, hw25⟩; have hw4 := below_step hw3 hw25; have hcb4 := cell_keep hw4 hcb; have hO3 := hO1.below hw25; have hL4 := (hL.below hw24).below hw25; obtain ⟨A4, n4, c4, rfl, hc4, hb4⟩ := hO2.readN hy1 (by omega); have hb5 := hb3.below hw25)
          | (go_at_call 26; with_reducible refine (eq_any A3 A4 n3 n4 c3 c4 _ _ _ hb5 hb4).mono ?_; rw [eqI_self]; rintro e w26 ⟨rfl, hw26⟩; have hw5 := below_step hw4 hw26; have hcb5 := cell_keep hw5 hcb)
          | (go_at_call 27; refine (back_any A2 n2 c2 g cap l2 hn2 hcap w _ hw5 hr2 (Nat.le_trans hw.size hg) ((hL4.below hw26).lower hw.size)).mono ?_; rintro e w27 ⟨rfl, hg27⟩; have hw6 := grown_below hw5 hg27 (Nat.le_trans hw.size hg); have hcb6 := cell_keep hw6 hcb; have hb7 := OB.readR ((hO3.below hw26).keptG hg27 (by have := hw2.size; omega)) hb3.len hy1 (by have := hb3.len; omega); have hb8 := OB.readR ((hO2.below hw26).keptG hg27 (by have := hw24.size; omega)) hb4.len hy1 (by have := hb4.len; omega))
          | (go_at_call 26; refine (eq_any A3 A4 n3 n4 c3 c4 _ _ _ hb7 hb8).mono ?_; rw [eqI_self]; rintro e w28 ⟨rfl, hw28⟩; have hw7 := below_step hw6 hw28))
        go_roundw
        case rel => exact ⟨k + 1, by omega, by go_num, hw7⟩
        case measure => simp [intOf]; omega
    · go_wp2_with fail
      go_ret
      exact ⟨rfl, hw⟩
end Go.Proofs.Ythggicgbcgeggaa
