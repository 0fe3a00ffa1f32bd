/- Walk: flumelaw1.WireNone returns true. -/
import Derived.Test.YthggicgbcgeggaaV25
set_option linter.unusedVariables false
set_option linter.unusedSimpArgs false
namespace Go.Proofs.Ythggicgbcgeggaa
open Go.RowKit
theorem info52 : (Try.prog.info? 52).map (fun i => (i.zero, i.size, i.bytes)) = some (some (.pointer none), 1, 8) := by kernel_rfl
/-- the array of the three readers, and the two that are there -/
structure RR (w : World) (rb g1 g2 : Nat) (A2 : Option Addr) (c2 : Nat) (b1 b2 : Int) : Prop where
  arr : w.heap[rb]? = some (.cells #[.pointer none, .pointer (some ⟨g1, 0, none⟩), .pointer (some ⟨g2, 0, none⟩)] 52 (0, 0))
  r1 : RS w g1 none 0 0 [] 0 b1
  r2 : RS w g2 A2 0 c2 [] 0 b2
theorem RS.frEmpty {w w' : World} {P : Nat → Prop} {g : Nat} {A : Option Addr} {c : Nat} {b : Int} (h : RS w g A 0 c [] 0 b) (hF : Fr w w' P) (hn : ¬ P g) : RS w' g A 0 c [] 0 b :=
  ⟨(hF.block g (lt_of_block h.rd) hn).trans h.rd, ⟨rfl, by omega, fun j hj => by omega, h.rb.rng⟩, h.hc, h.hp⟩
theorem RR.fr {w w' : World} {P : Nat → Prop} {rb g1 g2 : Nat} {A2 : Option Addr} {c2 : Nat} {b1 b2 : Int} (h : RR w rb g1 g2 A2 c2 b1 b2) (hF : Fr w w' P) (hp : ∀ k, k < w.heap.size → ¬ P k) : RR w' rb g1 g2 A2 c2 b1 b2 :=
  ⟨(hF.block rb (lt_of_block h.arr) (hp _ (lt_of_block h.arr))).trans h.arr, h.r1.frEmpty hF (hp _ (lt_of_block h.r1.rd)), h.r2.frEmpty hF (hp _ (lt_of_block h.r2.rd))⟩
theorem RR.below {w w' : World} {rb g1 g2 : Nat} {A2 : Option Addr} {c2 : Nat} {b1 b2 : Int} (h : RR w rb g1 g2 A2 c2 b1 b2) (hb : Below w.heap.size w w') : RR w' rb g1 g2 A2 c2 b1 b2 := h.fr (Fr.of_below hb (fun _ => False)) (fun _ _ e => e)
theorem RR.ne {w : World} {rb g1 g2 : Nat} {A2 : Option Addr} {c2 : Nat} {b1 b2 : Int} (h : RR w rb g1 g2 A2 c2 b1 b2) : rb ≠ g1 ∧ rb ≠ g2 :=
  ⟨fun e => by have := h.arr; rw [e] at this; exact absurd (blk_type this h.r1.rd) (by decide), fun e => by have := h.arr; rw [e] at this; exact absurd (blk_type this h.r2.rd) (by decide)⟩
/-- the start of the inner loop, the reader g there -/
theorem st_none (W0 : World) (g : Nat) (A : Option Addr) (c : Nat) (h : RS W0 g A 0 c [] 0 0) :
    ST W0 ((W0.alloc (.cells #[.slice none 0 0, .int .i64 0, .int .i64 0] 56)).alloc (.cells #[.slice none 0 0, .int .i64 0] 43)) (W0.heap.size + 1) g W0.heap.size (W0.heap.size + 1) A none 0 c 0 [] 0 0 0 0 (.slice none 0 0) 0 [] := by
  have hgl := lt_of_block h.rd
  have hb := (below_alloc1 W0 (.cells #[.slice none 0 0, .int .i64 0, .int .i64 0] 56)).alloc (by simp) (.cells #[.slice none 0 0, .int .i64 0] 43)
  have hq : QD (W0.alloc (.cells #[.slice none 0 0, .int .i64 0, .int .i64 0] 56)) W0.heap.size (.slice none 0 0) 0 0 := heap_alloc_new W0 _
  have hk := KB.new (W0.alloc (.cells #[.slice none 0 0, .int .i64 0, .int .i64 0] 56)) (W0.heap.size + 1) 4194304 (by simp)
  have e : (W0.alloc (.cells #[.slice none 0 0, .int .i64 0, .int .i64 0] 56)).heap.size = W0.heap.size + 1 := by simp
  rw [e] at hk
  exact ⟨h.below hb, ⟨hq.below (below_alloc1 _ _), RB_nil _, Nat.le_refl _, Nat.le_refl _⟩, hk, by omega, by omega, by omega, fun h0 => absurd h0 (by omega), fun h0 => absurd h0 (by omega), by omega, Nat.le_refl _, by simp, Fr.of_below hb _⟩
set_option maxRecDepth 20000 in
set_option maxHeartbeats 8000000 in
theorem none_law (AO : Option Addr) (no co : Nat) (os : List (Int × Int × Int)) (w : World) (hO : RO w AO no os) :
    Calls Try.prog 9 #[.slice AO no co] w fun e w' => e = .returned (.bool true) ∧ Below w.heap.size w w' := by
  have to := hO.top
  go_enter Try.func9, Try.ntmps9
  go_wp2_with (first
    | (go_at_call 20; refine (begun_any _).mono ?_; rintro e w1 ⟨rfl, hw1⟩; have hz1 := Lib.hid (show RD (w1.alloc (.cells #[.slice none 0 0, .int .i64 0, .int .i64 0] 65)) w1.heap.size (.slice none 0 0) 0 0 from heap_alloc_new w1 _); have hw2 := hw1.alloc hw1.size (.cells #[.slice none 0 0, .int .i64 0, .int .i64 0] 65))
    | (go_at_call 42; refine (newReader_own none 0 0 [] _ (RB_nil _)).mono ?_; rintro e w3 ⟨g2, A2, c2, rfl, hg2, hs3, hA2, hw3'⟩; have hw3 := below_to hw2 hw2.size hw3'; have hz3 := Lib.hid (hz1.out.below hw3')))
  have hR : RR (w3.alloc (.cells #[.pointer none, .pointer (some ⟨w1.heap.size, 0, none⟩), .pointer (some ⟨g2, 0, none⟩)] 52)) w3.heap.size w1.heap.size g2 A2 c2 0 0 := ⟨heap_alloc_new w3 _, ⟨blk_old hz3.out _, RB_nil _, Nat.le_refl _, Nat.le_refl _⟩, hs3.below (below_alloc1 _ _)⟩
  have hw4 := hw3.alloc hw3.size (.cells #[.pointer none, .pointer (some ⟨w1.heap.size, 0, none⟩), .pointer (some ⟨g2, 0, none⟩)] 52)
  have hl1 := hw1.size
  have hgg : w1.heap.size ≠ g2 := by
    have e : (w1.alloc (.cells #[.slice none 0 0, .int .i64 0, .int .i64 0] 65)).heap.size = w1.heap.size + 1 := by simp
    omega
  have hl2 : w.heap.size ≤ g2 := Nat.le_trans hw2.size hg2
  obtain ⟨g1, hg1⟩ : ∃ g1, g1 = w1.heap.size := ⟨_, rfl⟩
  obtain ⟨rb, hrb⟩ : ∃ rb, rb = w3.heap.size := ⟨_, rfl⟩
  rw [← hg1, ← hrb] at hR
  rw [← hg1] at hw4 hl1 hgg
  rw [← hg1, ← hrb]
  clear hg2 hs3 hA2 hw3' hz1 hz3 hw1 hw2 hw3
  generalize (w3.alloc (.cells #[.pointer none, .pointer (some ⟨g1, 0, none⟩), .pointer (some ⟨g2, 0, none⟩)] 52)) = W at hR hw4 ⊢
  have HNE := Lib.hid (And.intro hgg (And.intro hl1 hl2))
  clear hg1 hrb hgg
  go_loopw [5] (fun s wr => ∃ (i : Nat) (b1 b2 : Int), s = .int .i64 i ∧ i ≤ 3 ∧ RR wr rb g1 g2 A2 c2 b1 b2 ∧ Hid (i ≤ 1 → b1 = 0) ∧ Hid (i ≤ 2 → b2 = 0) ∧ Below w.heap.size w wr) (fun s _ => 3 - (intOf s).toNat)
  case atStart => exact ⟨0, 0, 0, rfl, by omega, hR, fun _ => rfl, fun _ => rfl, hw4⟩
  case round =>
    clear hR hw4
    obtain ⟨i, b1, b2, rfl, hi, hR, H1, H2, hw⟩ := hrel
    obtain ⟨w0, hw0⟩ : ∃ w0 : World, w0 = wr := ⟨_, rfl⟩
    subst hw0
    have hi4 : i = 0 ∨ i = 1 ∨ i = 2 ∨ i = 3 := by omega
    rcases hi4 with rfl | rfl | rfl | rfl
    · rw [show ((0 : Nat) : Int) = 0 from rfl]
      have hK0 := KB.new (w0.alloc (.cells #[.slice none 0 0, .int .i64 0, .int .i64 0] 56)) (w0.heap.size + 1) 4194304 (by simp)
      have hse : (w0.alloc (.cells #[.slice none 0 0, .int .i64 0, .int .i64 0] 56)).heap.size = w0.heap.size + 1 := by simp
      rw [hse] at hK0
      have hcr : ((w0.alloc (.cells #[.slice none 0 0, .int .i64 0, .int .i64 0] 56)).alloc (.cells #[.slice none 0 0, .int .i64 0] 43)).cell? ⟨rb, 0, none⟩ = some (.pointer none) := blk_cell (blk_old (blk_old hR.arr _) _) 0 rfl
      have hB0 : Below w0.heap.size w0 ((w0.alloc (.cells #[.slice none 0 0, .int .i64 0, .int .i64 0] 56)).alloc (.cells #[.slice none 0 0, .int .i64 0] 43)) := (below_alloc1 w0 _).alloc (by simp) _
      have hS1 : w0.heap.size + 1 ≤ ((w0.alloc (.cells #[.slice none 0 0, .int .i64 0, .int .i64 0] 56)).alloc (.cells #[.slice none 0 0, .int .i64 0] 43)).heap.size := by simp
      clear hse
      go_wp2_with fail
      generalize ((w0.alloc (.cells #[.slice none 0 0, .int .i64 0, .int .i64 0] 56)).alloc (.cells #[.slice none 0 0, .int .i64 0] 43)) = W1 at hK0 hcr hB0 hS1 ⊢
      obtain ⟨kb, hkb⟩ : ∃ kb, kb = w0.heap.size + 1 := ⟨_, rfl⟩
      rw [← hkb] at hK0 hS1
      rw [← hkb]
      have HKB := Lib.hid hkb
      clear hkb hcr
      go_loopw [6, 9] (fun q s wr => ∃ (j : Nat) (lv : Value) (sz : Int) (ks : List KL) (qa : Option Addr), q = .pointer qa ∧ s = .int .i64 j ∧ j ≤ no ∧ KB wr kb kb lv sz 4194304 ks ∧ Below w0.heap.size w0 wr ∧ kb ≤ wr.heap.size) (fun _ s _ => no - (intOf s).toNat)
      case atStart => exact ⟨0, _, 0, [], _, rfl, rfl, by omega, hK0, hB0, hS1⟩
      case round =>
        clear hK0 hB0 hS1
        obtain ⟨j, lv, sz, ks, qa, rfl, rfl, hj, hK, hB, hS⟩ := hrel
        by_cases hlt : j < no
        · obtain ⟨od, rfl, hk1, hk2, hk3⟩ := hO.cell j hlt
          obtain ⟨z0, z1⟩ := hO.rng j hlt
          obtain ⟨⟨kind, most, size⟩, ho⟩ : ∃ o, o = os.getD j (0, 0, 0) := ⟨_, rfl⟩
          rw [← ho] at hk1 hk2 hk3 z0 z1
          simp only at hk1 hk2 hk3 z0 z1
          clear ho
          have j0 : (0 : Int) ≤ (j : Int) := by omega
          have j1 : (j : Int) < (no : Int) := by omega
          have HF : Hid (∀ wX, Below w0.heap.size w0 wX → wX.cell? ⟨rb, 0, none⟩ = some (.pointer none) ∧ wX.cell? (od.add (j * 3)) = some (.int .i64 kind) ∧ wX.cell? ⟨(od.add (j * 3)).block, (od.add (j * 3)).off + 1, none⟩ = some (.int .u64 most) ∧ wX.cell? ⟨(od.add (j * 3)).block, (od.add (j * 3)).off + 2, none⟩ = some (.int .i64 size)) := by
            refine Lib.hid fun wX hX => ?_
            have hbX := below_to hw hw.size hX
            exact ⟨blk_cell ((hX.block rb (lt_of_block hR.arr)).trans hR.arr) 0 rfl, cell_keep hbX hk1, cell_keep hbX hk2, cell_keep hbX hk3⟩
          have hq : QS (wr.alloc (.cells #[.slice none 0 0, .int .i64 0, .int .i64 0] 56)) wr.heap.size none 0 0 [] 0 0 := ⟨heap_alloc_new wr _, RB_nil _, Nat.le_refl _, Nat.le_refl _⟩
          have hqd := hq.drew
          have hKd := (hK.below (below_alloc1 wr (.cells #[.slice none 0 0, .int .i64 0, .int .i64 0] 56))).drew
          have hBd := (hB.alloc hB.size (.cells #[.slice none 0 0, .int .i64 0, .int .i64 0] 56)).drew
          have hSd : kb ≤ (wr.alloc (.cells #[.slice none 0 0, .int .i64 0, .int .i64 0] 56)).drew.heap.size := Nat.le_trans hS (below_alloc1 wr _).size
          obtain ⟨f1, f2, f3, f4⟩ := HF.out _ hBd
          clear hq
          go_wp2_with fail
          go_region_held3 (fun w' => w'.cell? ⟨rb, 0, none⟩ = some (.pointer none) ∧ w'.cell? (od.add (j * 3)) = some (.int .i64 kind) ∧ w'.cell? ⟨(od.add (j * 3)).block, (od.add (j * 3)).off + 1, none⟩ = some (.int .u64 most) ∧ w'.cell? ⟨(od.add (j * 3)).block, (od.add (j * 3)).off + 2, none⟩ = some (.int .i64 size))
            (first | exact HF.out _ hB6 | exact ⟨f1, f2, f3, f4⟩)
            (first
              | (go_at_call 43; refine (oneN_any kind most size z0 z1 hqd hKd hSd).mono ?_; rintro e w6 ⟨rfl, lv', sz', ks', hK6, hF6⟩; have hB6 : Below w0.heap.size w0 w6 := hF6.below hBd (fun k e => (by rcases e with rfl | rfl | e; exact hB.size; (have := HKB.out; omega); (have := (hK.lvlt e).1; have := HKB.out; omega))); have hS6 := Nat.le_trans hSd hF6.size)
              | (go_at_call 47; refine (left_nil _).mono ?_; rintro e w7 ⟨rfl, rfl⟩)
              | (go_at_call 46; refine (at_nil _).mono ?_; rintro e w8 ⟨rfl, rfl⟩))
          all_goals go_wp2_with fail
          go_roundw
          case rel => exact ⟨j + 1, lv', sz', ks', _, rfl, by go_num, by omega, hK6, hB6, hS6⟩
          case measure => simp [intOf]; omega
        · go_wp2_with fail
          go_roundw
          case rel => exact ⟨1, b1, b2, by first | rfl | go_num, by omega, hR.fr (Fr.of_below hB (fun _ => False)) (fun _ _ e => e), fun _ => H1.out (by omega), fun _ => H2.out (by omega), below_to hw hw.size hB⟩
          case measure => simp [intOf]
    · obtain rfl : b1 = 0 := H1.out (by omega)
      have hS0 := st_none w0 g1 none 0 hR.r1
      have hcr : ((w0.alloc (.cells #[.slice none 0 0, .int .i64 0, .int .i64 0] 56)).alloc (.cells #[.slice none 0 0, .int .i64 0] 43)).cell? ⟨rb, 1, none⟩ = some (.pointer (some ⟨g1, 0, none⟩)) := blk_cell (blk_old (blk_old hR.arr _) _) 1 rfl
      go_wp2_with fail
      generalize ((w0.alloc (.cells #[.slice none 0 0, .int .i64 0, .int .i64 0] 56)).alloc (.cells #[.slice none 0 0, .int .i64 0] 43)) = W1 at hS0 hcr ⊢
      obtain ⟨h, hh⟩ : ∃ h, h = w0.heap.size := ⟨_, rfl⟩
      obtain ⟨kb, hkb⟩ : ∃ kb, kb = w0.heap.size + 1 := ⟨_, rfl⟩
      rw [← hkb, ← hh] at hS0
      rw [← hkb, ← hh]
      clear hkb hh hcr
      go_loopw [6, 9] (fun q s wr => ∃ (j p : Nat) (b : Int) (lv : Value) (sz : Int) (ks : List KL), q = .pointer (some ⟨h, 0, none⟩) ∧ s = .int .i64 j ∧ j ≤ no ∧ ST w0 wr kb g1 h kb none none 0 0 0 [] p b p b lv sz ks) (fun _ s _ => no - (intOf s).toNat)
      case atStart => exact ⟨0, 0, 0, _, 0, [], rfl, rfl, by omega, hS0⟩
      case round =>
        clear hS0
        obtain ⟨j, p, b, lv, sz, ks, rfl, rfl, hj, hS⟩ := hrel
        by_cases hlt : j < no
        · obtain ⟨od, rfl, hk1, hk2, hk3⟩ := hO.cell j hlt
          obtain ⟨z0, z1⟩ := hO.rng j hlt
          obtain ⟨⟨kind, most, size⟩, ho⟩ : ∃ o, o = os.getD j (0, 0, 0) := ⟨_, rfl⟩
          rw [← ho] at hk1 hk2 hk3 z0 z1
          simp only at hk1 hk2 hk3 z0 z1
          clear ho
          have j0 : (0 : Int) ≤ (j : Int) := by omega
          have j1 : (j : Int) < (no : Int) := by omega
          have HF : Hid (∀ wX, Fr w0 wX (fun k => k = g1) → wX.cell? ⟨rb, 1, none⟩ = some (.pointer (some ⟨g1, 0, none⟩)) ∧ wX.cell? (od.add (j * 3)) = some (.int .i64 kind) ∧ wX.cell? ⟨(od.add (j * 3)).block, (od.add (j * 3)).off + 1, none⟩ = some (.int .u64 most) ∧ wX.cell? ⟨(od.add (j * 3)).block, (od.add (j * 3)).off + 2, none⟩ = some (.int .i64 size)) := by
            refine Lib.hid fun wX hX => ?_
            have hbX := hX.below hw (fun k e => by rw [e]; exact HNE.out.2.1)
            exact ⟨blk_cell ((hX.block rb (lt_of_block hR.arr) hR.ne.1).trans hR.arr) 1 rfl, cell_keep hbX hk1, cell_keep hbX hk2, cell_keep hbX hk3⟩
          have hSd := hS.drew
          obtain ⟨f1, f2, f3, f4⟩ := HF.out _ hSd.bel
          have hp0 : p = 0 := by have := hS.rs.hp; omega
          go_wp2_with fail
          go_region_held3 (fun w' => w'.cell? ⟨rb, 1, none⟩ = some (.pointer (some ⟨g1, 0, none⟩)) ∧ w'.cell? (od.add (j * 3)) = some (.int .i64 kind) ∧ w'.cell? ⟨(od.add (j * 3)).block, (od.add (j * 3)).off + 1, none⟩ = some (.int .u64 most) ∧ w'.cell? ⟨(od.add (j * 3)).block, (od.add (j * 3)).off + 2, none⟩ = some (.int .i64 size))
            (first | exact HF.out _ hS8.bel | exact HF.out _ hS7.bel | exact HF.out _ hS6.bel | exact ⟨f1, f2, f3, f4⟩)
            (first
              | (go_at_call 43; refine (one_any kind most size z0 z1 hSd).mono ?_; rintro e w6 ⟨rfl, p', b', lv', sz', ks', hS6⟩; have hp' : p' = 0 := (by have := hS6.rs.hp; omega); subst hp')
              | (go_at_call 47; refine (left_rs g1 none 0 0 [] 0 b' _ hS6.rs).mono ?_; rintro e w7 ⟨rfl, k7, hw7⟩; have hS7 : ST w0 w7 kb g1 h kb none none 0 0 0 [] 0 b' 0 b' lv' sz' ks' := (by rw [hw7]; exact hS6.drewN k7); clear hw7)
              | (go_at_call 46; refine (at_any g1 none 0 0 [] 0 b' _ hS7.rs).mono ?_; rintro e w8 ⟨rfl, hw8⟩; have hS8 : ST w0 w8 kb g1 h kb none none 0 0 0 [] 0 b' 0 b' lv' sz' ks' := (by rw [← hw8]; exact hS7); clear hw8))
          all_goals go_wp2_with fail
          go_roundw
          case rel => exact ⟨j + 1, 0, b', lv', sz', ks', rfl, by go_num, by omega, hS8⟩
          case measure => simp [intOf]; omega
        · have hpz : p = 0 := by have := hS.rs.hp; omega
          go_wp2_with fail
          go_roundw
          case rel => exact ⟨2, b, b2, by first | rfl | go_num, by omega, ⟨(hS.bel.block rb (lt_of_block hR.arr) hR.ne.1).trans hR.arr, (hpz ▸ hS.rs), hR.r2.frEmpty hS.bel (fun e => HNE.out.1 e.symm)⟩, fun h => by omega, fun _ => H2.out (by omega), hS.bel.below hw (fun k e => by rw [e]; exact HNE.out.2.1)⟩
          case measure => simp [intOf]
    · obtain rfl : b2 = 0 := H2.out (by omega)
      have hS0 := st_none w0 g2 A2 c2 hR.r2
      have hcr : ((w0.alloc (.cells #[.slice none 0 0, .int .i64 0, .int .i64 0] 56)).alloc (.cells #[.slice none 0 0, .int .i64 0] 43)).cell? ⟨rb, 2, none⟩ = some (.pointer (some ⟨g2, 0, none⟩)) := blk_cell (blk_old (blk_old hR.arr _) _) 2 rfl
      go_wp2_with fail
      generalize ((w0.alloc (.cells #[.slice none 0 0, .int .i64 0, .int .i64 0] 56)).alloc (.cells #[.slice none 0 0, .int .i64 0] 43)) = W1 at hS0 hcr ⊢
      obtain ⟨h, hh⟩ : ∃ h, h = w0.heap.size := ⟨_, rfl⟩
      obtain ⟨kb, hkb⟩ : ∃ kb, kb = w0.heap.size + 1 := ⟨_, rfl⟩
      rw [← hkb, ← hh] at hS0
      rw [← hkb, ← hh]
      clear hkb hh hcr
      go_loopw [6, 9] (fun q s wr => ∃ (j p : Nat) (b : Int) (lv : Value) (sz : Int) (ks : List KL), q = .pointer (some ⟨h, 0, none⟩) ∧ s = .int .i64 j ∧ j ≤ no ∧ ST w0 wr kb g2 h kb A2 none 0 c2 0 [] p b p b lv sz ks) (fun _ s _ => no - (intOf s).toNat)
      case atStart => exact ⟨0, 0, 0, _, 0, [], rfl, rfl, by omega, hS0⟩
      case round =>
        clear hS0
        obtain ⟨j, p, b, lv, sz, ks, rfl, rfl, hj, hS⟩ := hrel
        by_cases hlt : j < no
        · obtain ⟨od, rfl, hk1, hk2, hk3⟩ := hO.cell j hlt
          obtain ⟨z0, z1⟩ := hO.rng j hlt
          obtain ⟨⟨kind, most, size⟩, ho⟩ : ∃ o, o = os.getD j (0, 0, 0) := ⟨_, rfl⟩
          rw [← ho] at hk1 hk2 hk3 z0 z1
          simp only at hk1 hk2 hk3 z0 z1
          clear ho
          have j0 : (0 : Int) ≤ (j : Int) := by omega
          have j1 : (j : Int) < (no : Int) := by omega
          have HF : Hid (∀ wX, Fr w0 wX (fun k => k = g2) → wX.cell? ⟨rb, 2, none⟩ = some (.pointer (some ⟨g2, 0, none⟩)) ∧ wX.cell? (od.add (j * 3)) = some (.int .i64 kind) ∧ wX.cell? ⟨(od.add (j * 3)).block, (od.add (j * 3)).off + 1, none⟩ = some (.int .u64 most) ∧ wX.cell? ⟨(od.add (j * 3)).block, (od.add (j * 3)).off + 2, none⟩ = some (.int .i64 size)) := by
            refine Lib.hid fun wX hX => ?_
            have hbX := hX.below hw (fun k e => by rw [e]; exact HNE.out.2.2)
            exact ⟨blk_cell ((hX.block rb (lt_of_block hR.arr) hR.ne.2).trans hR.arr) 2 rfl, cell_keep hbX hk1, cell_keep hbX hk2, cell_keep hbX hk3⟩
          have hSd := hS.drew
          obtain ⟨f1, f2, f3, f4⟩ := HF.out _ hSd.bel
          have hp0 : p = 0 := by have := hS.rs.hp; omega
          go_wp2_with fail
          go_region_held3 (fun w' => w'.cell? ⟨rb, 2, none⟩ = some (.pointer (some ⟨g2, 0, none⟩)) ∧ w'.cell? (od.add (j * 3)) = some (.int .i64 kind) ∧ w'.cell? ⟨(od.add (j * 3)).block, (od.add (j * 3)).off + 1, none⟩ = some (.int .u64 most) ∧ w'.cell? ⟨(od.add (j * 3)).block, (od.add (j * 3)).off + 2, none⟩ = some (.int .i64 size))
            (first | exact HF.out _ hS8.bel | exact HF.out _ hS7.bel | exact HF.out _ hS6.bel | exact ⟨f1, f2, f3, f4⟩)
            (first
              | (go_at_call 43; refine (one_any kind most size z0 z1 hSd).mono ?_; rintro e w6 ⟨rfl, p', b', lv', sz', ks', hS6⟩; have hp' : p' = 0 := (by have := hS6.rs.hp; omega); subst hp')
              | (go_at_call 47; refine (left_rs g2 A2 0 c2 [] 0 b' _ hS6.rs).mono ?_; rintro e w7 ⟨rfl, k7, hw7⟩; have hS7 : ST w0 w7 kb g2 h kb A2 none 0 c2 0 [] 0 b' 0 b' lv' sz' ks' := (by rw [hw7]; exact hS6.drewN k7); clear hw7)
              | (go_at_call 46; refine (at_any g2 A2 0 c2 [] 0 b' _ hS7.rs).mono ?_; rintro e w8 ⟨rfl, hw8⟩; have hS8 : ST w0 w8 kb g2 h kb A2 none 0 c2 0 [] 0 b' 0 b' lv' sz' ks' := (by rw [← hw8]; exact hS7); clear hw8))
          all_goals go_wp2_with fail
          go_roundw
          case rel => exact ⟨j + 1, 0, b', lv', sz', ks', rfl, by go_num, by omega, hS8⟩
          case measure => simp [intOf]; omega
        · have hpz : p = 0 := by have := hS.rs.hp; omega
          go_wp2_with fail
          go_roundw
          case rel => exact ⟨3, b1, b, by first | rfl | go_num, by omega, ⟨(hS.bel.block rb (lt_of_block hR.arr) hR.ne.2).trans hR.arr, hR.r1.frEmpty hS.bel (fun e => HNE.out.1 e), (hpz ▸ hS.rs)⟩, fun h => by omega, fun h => by omega, hS.bel.below hw (fun k e => by rw [e]; exact HNE.out.2.2)⟩
          case measure => simp [intOf]
    · go_wp2_with fail
      go_ret
      exact ⟨rfl, hw⟩
end Go.Proofs.Ythggicgbcgeggaa
