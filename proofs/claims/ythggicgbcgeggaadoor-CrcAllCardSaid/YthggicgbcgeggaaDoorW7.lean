/- Walk: flumelaw2.CrcAll returns true for any input. -/
import Derived.Test.YthggicgbcgeggaaDoorW6
import Derived.Test.YthggicgbcgeggaaDoorW3
import Derived.Test.YthggicgbcgeggaaDoorWR
import Derived.Deep.CutBlock
set_option linter.unusedVariables false
set_option linter.unusedSimpArgs false
namespace Go.Proofs.YthggicgbcgeggaaDoor
open Go.RowKit
theorem OB.rb {e : TypeId} {w : World} {base g n cap : Nat} {l m : List Int} (h : OB e w base (.slice (some ⟨g, 0, none⟩) (n + m.length) cap) (l ++ m)) (hl : l.length = n) (hb : BY l) (hn : n ≤ 140737488355328) : RB w (some ⟨g, 0, none⟩) n l := by
  refine ⟨hl, hn, fun j hj => ⟨_, rfl, ?_⟩, hb.nth⟩
  have := World.ownsRow.cells (g := g) h rfl j (.int .u8 (nth l j)) (by
    rw [bys_append, List.getElem?_append_left (by rw [bys_len]; omega), bys_at l j (by omega)])
  exact this
theorem add_zero (ad : Addr) : ad.add 0 = ad := by unfold Addr.add; simp
def nthl (ls : List (List Int)) (j : Nat) : List Int := ls.getD j []
set_option maxRecDepth 100000 in
set_option maxHeartbeats 4000000 in
theorem all_any (AB : Option Addr) (nb cb : Nat) (ls : List (List Int)) (AS : Option Addr) (ns cs : Nat) (ss : List Int) (AN : Option Addr) (nn cn : Nat) (is : List Int) (w : World) (ht : Tab w)
    (hB : RBB w AB nb ls) (hS : RI .u32 w AS ns ss) (hN : RI .i64 w AN nn is) :
    Calls Tryd.prog 6 #[.slice AB nb cb, .slice AS ns cs, .slice AN nn cn] w fun e w' => e = .returned (.bool true) ∧ Below w.heap.size w w' := by
  have tb := hB.top
  have ts := hS.top
  have tn := hN.top
  go_enter Tryd.func6, Tryd.ntmps6
  go_upto_block 0 with (go_at_call 7; refine (begun_any _ ht).mono ?_; rintro e w1 ⟨rfl, hw⟩)
  go_cut [] (fun wc => Below w.heap.size w wc)
  case first =>
    go_wp2_with fail
    go_loopw [7, 8] (fun sz i wr => ∃ (k z : Nat), k ≤ nb ∧ i = .int .i64 k ∧ sz = .int .i64 z ∧ z ≤ 65536 ∧ Below w.heap.size w wr) (fun _ i _ => nb - (intOf i).toNat)
    case atStart => exact ⟨0, 0, by omega, rfl, rfl, by omega, hw⟩
    case round =>
      clear hw
      obtain ⟨k, z, hk, rfl, rfl, hz, hw⟩ := hrel
      by_cases hlt : k < nb
      · obtain ⟨ad, A2, c2, rfl, hcb, hr2, hn2, hc2⟩ := hB.cell k hlt
        obtain ⟨l2, hl2⟩ : ∃ l2, l2 = ls.getD k [] := ⟨_, rfl⟩
        rw [← hl2] at hcb hr2 hn2 hc2
        clear hl2
        obtain ⟨n2, hn2'⟩ : ∃ n2, n2 = l2.length := ⟨_, rfl⟩
        rw [← hn2'] at hcb hr2 hn2 hc2
        have HL2 := Lib.hid hn2'
        clear hn2'
        have hcb1 := cell_keep hw hcb
        by_cases hbig : 65536 < z + n2
        · have d1 : decide ((65536 : Int) < (z : Int) + (n2 : Int)) = true := by simp; omega
          go_wp2_with fail
          go_meet
          case rel => exact hw
        · have d1 : decide ((65536 : Int) < (z : Int) + (n2 : Int)) = false := by simp; omega
          go_wp2_with (first
            | (go_at_call 12; refine (lent_any A2 n2 c2 l2 hn2 _ (hr2.below hw)).mono ?_; rintro e w12 ⟨g, cap, rfl, hg, hcap, hL, hw12⟩; have hlr := (show RB w12 (some ⟨g, 0, none⟩) n2 l2 from OB.rb hL HL2.out.symm hr2.by_ (by omega)); have hw2 := below_step hw hw12; have hcb2 := cell_keep hw2 hcb)
            | (go_at_call 8; with_reducible refine (sum_any (some ⟨g, 0, none⟩) n2 cap l2 _ hlr).mono ?_; rintro e w8 ⟨rfl, hw8⟩; have hw3 := below_step hw2 hw8; have hcb3 := cell_keep hw3 hcb)
            | (go_at_call 13; refine (rsum_any A2 n2 c2 l2 _ (hr2.below hw3)).mono ?_; rintro e w13 ⟨rfl, rfl⟩)
            | (go_at_call 14; refine (back_any A2 n2 c2 g cap l2 hn2 hcap w _ hw3 hr2 (Nat.le_trans hw.size hg) ((hL.below hw8).lower hw.size)).mono ?_; rintro e w14 ⟨rfl, hg14⟩; have hw4 := grown_below hw3 hg14 (Nat.le_trans hw.size hg); have hcb4 := cell_keep hw4 hcb))
          clear hcb hcb1 hcb2 hcb3 hL hlr hg14
          by_cases hks : k < ns
          · obtain ⟨sd, rfl, hcs⟩ := hS.cell k hks
            obtain ⟨x0, x1⟩ := wf_u32 (hS.wf_nth k hks)
            have hcs4 := cell_keep hw4 hcs
            have hk0 : (0 : Int) ≤ (k : Int) := Int.natCast_nonneg _
            have hk1 : (k : Int) < (nb : Int) := by omega
            have hk2 : (k : Int) < (ns : Int) := by omega
            have hd2 : decide ((k : Int) < (ns : Int)) = true := by simp; omega
            clear hcs
            go_region_held3 (fun w' => w'.cell? (ad.add k) = some (.slice A2 n2 c2) ∧ w'.cell? (sd.add k) = some (.int .u32 (nth ss k)) ∧ Below w.heap.size w w')
              (first
                | exact ⟨hcb4, hcs4, hw4.drew⟩
                | exact ⟨cell_keep hwn hh.1, cell_keep hwn hh.2.1, below_step hh.2.2 hwn⟩
                | exact hh)
              (first
                | (go_at_call 10; have hh : _ ∧ _ ∧ Below w.heap.size w _ := (by assumption); refine (more_any _ x0 x1 A2 n2 c2 l2 _ (hr2.below hh.2.2)).mono ?_; rintro e w15 ⟨rfl, hwn⟩)
                | (go_at_call 15; have hh : _ ∧ _ ∧ Below w.heap.size w _ := (by assumption); refine (rmore_any _ x0 x1 A2 n2 c2 l2 _ (hr2.below hh.2.2)).mono ?_; rintro e w16 ⟨rfl, rfl⟩))
            all_goals
              go_wp2_with fail
              go_roundw
              case rel => exact ⟨k + 1, z + n2, by omega, by go_num, by go_num, by omega, (by first | exact hh.2.2 | (rename_i hf; exact hf.2.2) | exact And.right (And.right (by assumption)))⟩
              case measure => simp [intOf]; omega
          · have hd2 : decide ((k : Int) < (ns : Int)) = false := by simp; omega
            clear hcb4
            go_quiet (fail)
            go_wp2_with fail
            go_roundw
            case rel => exact ⟨k + 1, z + n2, by omega, by go_num, by go_num, by omega, below_drewN hw4 _⟩
            case measure => simp [intOf]; omega
      · go_wp2_with fail
        go_meet
        case rel => exact hw
  case rest =>
    clear hw
    have hw := hcut
    clear hcut
    go_wp2_with fail
    go_loopw [11] (fun i wr => ∃ (k : Nat), k ≤ ns ∧ i = .int .i64 k ∧ Below w.heap.size w wr) (fun i _ => ns - (intOf i).toNat)
    case atStart => exact ⟨0, by omega, rfl, hw⟩
    case round =>
      clear hw
      obtain ⟨k, hk, rfl, hw⟩ := hrel
      by_cases hlt : k < ns
      · obtain ⟨sd, rfl, hcs⟩ := hS.cell k hlt
        obtain ⟨_, e, hcz⟩ := hS.cell 0 (by omega)
        obtain rfl := Option.some.inj e
        clear e
        obtain ⟨x0, x1⟩ := wf_u32 (hS.wf_nth k hlt)
        obtain ⟨y0, y1⟩ := wf_u32 (hS.wf_nth 0 (by omega))
        have hcs1 := cell_keep hw hcs
        obtain ⟨x, hx⟩ : ∃ x, x = nth ss k := ⟨_, rfl⟩
        obtain ⟨y, hy⟩ : ∃ y, y = nth ss 0 := ⟨_, rfl⟩
        rw [← hx] at x0 x1 hcs1 hcs
        rw [← hy] at y0 y1 hcz
        clear hx hy
        rw [add_zero] at hcz
        have em := bare_mask x x0 x1
        have eb := mask_bare x x0 x1
        obtain ⟨m0, m1⟩ := maskI_rng x
        obtain ⟨b0, b1⟩ := bareI_rng x
        go_wp2_with (first
          | (go_at_call 16; refine (mask_any _ x0 x1 _).mono ?_; rintro e w16 ⟨rfl, rfl⟩)
          | (go_at_call 17; refine (rmask_any _ x0 x1 _).mono ?_; rintro e w17 ⟨rfl, rfl⟩)
          | (go_at_call 18; refine (bare_any _ x0 x1 _).mono ?_; rintro e w18 ⟨rfl, rfl⟩)
          | (go_at_call 19; refine (rbare_any _ x0 x1 _).mono ?_; rintro e w19 ⟨rfl, rfl⟩)
          | (go_at_call 18; refine (bare_any _ m0 m1 _).mono ?_; rintro e w18 ⟨rfl, rfl⟩)
          | (go_at_call 16; refine (mask_any _ b0 b1 _).mono ?_; rintro e w18 ⟨rfl, rfl⟩))
        go_loopw [13] (fun i wr => ∃ (q : Nat), q ≤ nn ∧ i = .int .i64 q ∧ Below w.heap.size w wr) (fun i _ => nn - (intOf i).toNat)
        case atStart => exact ⟨0, by omega, rfl, hw⟩
        case round =>
          clear hw hcs1
          obtain ⟨q, hq, rfl, hw⟩ := hrel
          by_cases hqt : q < nn
          · by_cases hq8 : q < 8
            · obtain ⟨nd, rfl, hcn⟩ := hN.cell q hqt
              obtain ⟨n0, n1⟩ := wf_i64' (hN.wf_nth q hqt)
              have hcz1 := cell_keep hw hcz
              have hcn1 := cell_keep hw hcn
              obtain ⟨n, hn⟩ : ∃ n, n = nth is q := ⟨_, rfl⟩
              rw [← hn] at n0 n1 hcn1 hcn
              clear hn
              have dq : decide ((q : Int) < 8) = true := by simp; omega
              have HQ := Lib.hid hq8
              clear hq8 em eb
              go_wp2_with fail
              have z1 : (0 : Int) < (ns : Int) := by omega
              have z2 : 0 < ns := by omega
              have q0 : (0 : Int) ≤ (q : Int) := by omega
              have q1 : (q : Int) < (nn : Int) := by omega
              have d0 : decide ((0 : Int) < (ns : Int)) = true := by simp; omega
              have ez := add_zero sd
              go_region_held3 (fun w' => w'.cell? (nd.add q) = some (.int .i64 n) ∧ w'.cell? sd = some (.int .u32 y) ∧ Below w.heap.size w w')
                (first
                  | exact ⟨hcn1, hcz1, hw.drew⟩
                  | exact ⟨cell_keep hwn hh.1, cell_keep hwn hh.2.1, below_step hh.2.2 hwn⟩
                  | exact hh)
                (first
                  | (go_at_call 9; have hh : _ ∧ _ ∧ Below w.heap.size w _ := (by assumption); refine (join_any x y n x0 x1 (by omega) _ (ht.below hh.2.2)).mono ?_; rintro e w9 ⟨rfl, hwn⟩)
                  | (go_at_call 20; have hh : _ ∧ _ ∧ Below w.heap.size w _ := (by assumption); refine (rjoin_any x y n x0 x1 (by omega) _).mono ?_; rintro e w20 ⟨rfl, hwn⟩)
                  | (go_at_call 11; have hh : _ ∧ _ ∧ Below w.heap.size w _ := (by assumption); refine (zeros_any x n x0 x1 (by omega) _ (ht.below hh.2.2)).mono ?_; rintro e w11 ⟨rfl, hwn⟩)
                  | (go_at_call 21; have hh : _ ∧ _ ∧ Below w.heap.size w _ := (by assumption); refine (rzeros_any x n x0 x1 (by omega) _).mono ?_; rintro e w21 ⟨rfl, hwn⟩))
              all_goals
                go_wp2_with fail
                exact ⟨⟨q + 1, by omega, by go_num, (by first | exact hh.2.2 | (rename_i hf; exact hf.2.2) | exact And.right (And.right (by assumption)))⟩, by simp [intOf]; omega⟩
            · have dq : decide ((q : Int) < 8) = false := by simp; omega
              clear em eb hq8
              go_wp2_with fail
              exact ⟨⟨k + 1, by omega, by go_num, hw⟩, by simp [intOf]; omega⟩
          · go_wp2_with fail
            exact ⟨⟨k + 1, by omega, by go_num, hw⟩, by simp [intOf]; omega⟩
      · go_wp2_with fail
        go_ret
        exact ⟨rfl, hw⟩
end Go.Proofs.YthggicgbcgeggaaDoor
