/- Walk: catalog.Write: a catalog's bytes as one plain function. -/
import Derived.Test.YthggicgbcgeggaaVB1
import Derived.Test.YthggicgbcgeggaaVL3
import Derived.Lib.SlBytesConst
set_option linter.unusedVariables false
set_option linter.unusedSimpArgs false
namespace Go.Proofs.Ythggicgbcgeggaa
open Go.RowKit
open K
/-- a segment's bytes -/
def segB (s : Sg) : List Int := vb s.num.toNat ++ vb s.base.toNat ++ fb s.seed 4 ++ vb s.end_.toNat ++ vb s.size.toNat
def headB (gen first : Int) (n : Nat) : List Int := [70, 67, 65, 84] ++ vb gen.toNat ++ vb first.toNat ++ vb n
def bodyB (gen first : Int) (ss : List Sg) : List Int := headB gen first ss.length ++ (ss.map segB).flatten
/-- a catalog's bytes, and the number of the error -/
def catI (gen first : Int) (ss : List Sg) : List Int × Int := if mayB gen first ss = true then (bodyB gen first ss ++ fb (iu (more 0#32 (bodyB gen first ss))) 4, 0) else ([], 4)
theorem vb_le (n : Nat) : (vb n).length ≤ 10 := (vb_len n).2
theorem bx_start (w : World) (B : Nat) (hB : B ≤ w.heap.size) (l : List Int) (hy : BY l) (hl : l.length ≤ 1000) (fr : Nat × Nat) :
    BX ((w.alloc (.cells (bys l).toArray 5 fr)).alloc (.cells #[.slice (some ⟨w.heap.size, 0, none⟩) l.length l.length] 25)) B (w.heap.size + 1) (.slice (some ⟨w.heap.size, 0, none⟩) l.length l.length) l l.length := by
  have h1 := heap_alloc_new (w.alloc (.cells (bys l).toArray 5 fr)) (.cells #[.slice (some ⟨w.heap.size, 0, none⟩) l.length l.length] 25)
  have hs : (w.alloc (.cells (bys l).toArray 5 fr)).heap.size = w.heap.size + 1 := by simp
  rw [hs] at h1
  refine ⟨h1, .inr ⟨w.heap.size, rfl, hB, ?_, ?_⟩, by simp [Value.ownBlock], hy, by omega, Nat.le_refl _⟩
  · have := lt_of_block h1
    omega
  · exact RB_lit (blk_old (heap_alloc_new w (.cells (bys l).toArray 5 fr)) _) hy (by omega)
theorem BX.below {w w' : World} {B g m : Nat} {v : Value} {l : List Int} (h : BX w B g v l m) (hb : Below w.heap.size w w') : BX w' B g v l m :=
  ⟨(hb.block g (lt_of_block h.box)).trans h.box, h.own.below hb, h.ne, h.by_, h.le, h.len⟩
theorem BX.app {w : World} {B g m m' : Nat} {v : Value} {l l' : List Int} (h : BX w B g v l m) (e : l = l') (hm : m ≤ m') : BX w B g v l' m' := by
  subst e; exact ⟨h.box, h.own, h.ne, h.by_, h.le, Nat.le_trans h.len hm⟩
/-- the first k segments' bytes behind the head -/
def preB (gen first : Int) (ss : List Sg) (k : Nat) : List Int := headB gen first ss.length ++ ((ss.take k).map segB).flatten
theorem preB_succ (gen first : Int) (ss : List Sg) (k : Nat) (h : k < ss.length) : preB gen first ss (k + 1) = preB gen first ss k ++ segB (sg ss k) := by
  unfold preB
  rw [List.take_succ_eq_append_getElem h, List.map_append, List.flatten_append, List.append_assoc]
  congr 2
  simp [sg, h]
theorem preB_all (gen first : Int) (ss : List Sg) : preB gen first ss ss.length = bodyB gen first ss := by
  unfold preB bodyB; rw [List.take_length]
theorem sg_pos {gen first : Int} {ss : List Sg} (h : mayB gen first ss = true) (i : Nat) (hi : i < ss.length) : 1 ≤ (sg ss i).num ∧ 1 ≤ (sg ss i).base ∧ 0 ≤ (sg ss i).end_ ∧ 0 ≤ (sg ss i).size := by
  have hm := may_out h
  by_cases e : i = ss.length - 1
  · have := hm.2.2.2.2.1
    rw [← e] at this
    simp only [opB, decide_eq_true_eq] at this
    omega
  · have := chk_out (hm.2.2.2.2.2.1 i (by omega))
    omega
theorem by_fcat : BY [70, 67, 65, 84] := by intro x hx; simp at hx; omega
set_option maxRecDepth 20000 in
set_option maxHeartbeats 4000000 in
theorem write_any (gen first : Int) (A : Option Addr) (n c : Nat) (ss : List Sg) (w : World) (hs : RSg w A n ss) (hc : n ≤ c) (hg : i64r gen) (hf : i64r first) :
    Calls Try.prog 55 #[.agg #[.int .i64 gen, .int .i64 first, .slice A n c]] w fun ex w' => ∃ v, ex = .returned (.tuple #[v, .int .i64 (catI gen first ss).2]) ∧ OB 5 w' w.heap.size v (catI gen first ss).1 ∧ Below w.heap.size w w' := by
  have hl := hs.len
  have HL := Lib.hid hl
  have hb1 := below_alloc1 w (.cells #[.int .i64 gen, .int .i64 first, .slice A n c] 78)
  have HTN := Lib.hid (heap_alloc_new w (.cells #[.int .i64 gen, .int .i64 first, .slice A n c] 78))
  have hs1 := hs.below hb1
  have hmf : ∀ (fn : Fn) (first cap : Array Value) (w : World), (Instr.makeFunc fn first cap).run Try.prog w = .ok (.func fn first cap) w := fun _ _ _ _ => rfl
  have kc := fun (w : World) (C : Array Value) (n c : Nat) => Lib.run_convert_bytes_const (P := Try.prog) w 25 5 C n c Try.underlying25 Try.underlying5
  clear hl
  cases hm : mayB gen first ss
  · have HM := Lib.hid hm
    have H := Lib.hid (show catI gen first ss = ([], 4) by unfold catI; rw [if_neg (by rw [hm]; simp)])
    clear hm
    rw [H.out]
    go_enter Try.func55, Try.ntmps55
    go_wp2_with (go_at_call 59; refine (may_any gen first A n c ss _ hs1 hc).mono ?_; rw [HM.out]; rintro e w2 ⟨rfl, hb2⟩; have hw2 := below_to hb1 hb1.size hb2)
    exact bodyPost_ret (v := .tuple #[.slice none 0 0, .int .i64 4]) (by simp [results, Try.results55, go_sem]) rfl ⟨_, rfl, OB.nil _ _ _, hw2⟩
  · have HM := Lib.hid hm
    have hmo := may_out hm
    have H := Lib.hid (show catI gen first ss = (bodyB gen first ss ++ fb (iu (more 0#32 (bodyB gen first ss))) 4, 0) by unfold catI; rw [if_pos hm])
    have g1 : 1 ≤ gen := hmo.1
    have f1 : 1 ≤ first := hmo.2.1
    have n1 : n ≤ 64 := by have := hmo.2.2.2.1; have := HL.out; omega
    have n0 : 1 ≤ n := by have := hmo.2.2.1; have := HL.out; omega
    clear hm hmo
    have g2 : gen < 9223372036854775808 := by have := hg.2; omega
    have f2 : first < 9223372036854775808 := by have := hf.2; omega
    clear hg hf
    rw [H.out]
    go_enter Try.func55, Try.ntmps55
    go_wp2_with (first
      | (go_at_call 59; refine (may_any gen first A n c ss _ hs1 hc).mono ?_; rw [HM.out]; rintro e w2 ⟨rfl, hb2⟩; have hw2 := below_to hb1 hb1.size hb2; have hX := bx_start w2 (w.heap.size + 1) (by simpa using hb2.size) [70, 67, 65, 84] by_fcat (by simp) (4, 5); have ht := blk_old (blk_old ((hb2.block _ (lt_of_block HTN.out)).trans HTN.out) (.cells (bys [70, 67, 65, 84]).toArray 5 (4, 5))) (.cells #[.slice (some ⟨w2.heap.size, 0, none⟩) 4 4] 25); have hw3 := (hw2.alloc hw2.size (.cells (bys [70, 67, 65, 84]).toArray 5 (4, 5))).alloc (by have := hw2.size; simp; omega) (.cells #[.slice (some ⟨w2.heap.size, 0, none⟩) 4 4] 25); have y0 := blk_cell ht 0 (v := some (.int .i64 gen)) rfl; have y0a : (w2.alloc (.cells #[.int .u8 70, .int .u8 67, .int .u8 65, .int .u8 84] 5 (4, 5))).cell? ⟨w.heap.size, 0, none⟩ = some (.int .i64 gen) := blk_cell (blk_old ((hb2.block _ (lt_of_block HTN.out)).trans HTN.out) _) 0 rfl; have hbg : w.heap.size < w2.heap.size + 1 := (by have := hw2.size; omega))
      | (go_at_call 103; refine (num103_any gen (by omega) (by omega) (w.heap.size + 1) (w2.heap.size + 1) _ _ _ _ hX (by simp)).mono ?_; rintro e w4 ⟨rfl, v4, hX4, hG4⟩; have hb4 := hG4.below hX; have ht4 := (hb4.block w.heap.size (by omega)).trans ht; have y1 := blk_cell ht4 1 (v := some (.int .i64 first)) rfl)
      | (go_at_call 103; refine (num103_any first (by omega) (by omega) (w.heap.size + 1) (w2.heap.size + 1) _ _ _ _ hX4 (by simp)).mono ?_; rintro e w5 ⟨rfl, v5, hX5, hG5⟩; have hb5 := hG5.below hX4; have ht5 := (hb5.block w.heap.size (by omega)).trans ht4; have y2 := blk_cell ht5 2 (v := some (.slice A n c)) rfl)
      | (go_at_call 103; refine (num103_any n (by omega) (by omega) (w.heap.size + 1) (w2.heap.size + 1) _ _ _ _ hX5 (by simp)).mono ?_; rintro e w6 ⟨rfl, v6, hX6, hG6⟩; have hb6 := hG6.below hX5; have ht6 := (hb6.block w.heap.size (by omega)).trans ht5; have y3 := blk_cell ht6 2 (v := some (.slice A n c)) rfl))
    have hX7 : BX w6 (w.heap.size + 1) (w2.heap.size + 1) v6 (preB gen first ss 0) (34 + 44 * 0) := hX6.app (by unfold preB headB; rw [HL.out]; simp) (by simp)
    have hB1 : Below w.heap.size w w6 := hw3.trans ((hb4.mono (by omega)).trans ((hb5.mono (by omega)).trans (hb6.mono (by omega))))
    have hg0 : w.heap.size < w2.heap.size + 1 := hbg
    clear hX hX4 hX5 hX6 hG4 hG5 hG6 hb4 hb5 hb6 ht4 ht5 y0 y0a y1 y2 y3 hw3 hw2 ht kc ht6 hb2
    generalize w2.heap.size + 1 = g at *
    go_loopw [30] (fun i wr => ∃ (k : Nat) (v : Value), i = .int .i64 k ∧ k ≤ n ∧ BX wr (w.heap.size + 1) g v (preB gen first ss k) (34 + 44 * k) ∧ Below w.heap.size w wr) (fun i _ => n - (intOf i).toNat)
    case atStart => exact ⟨0, v6, rfl, by omega, hX7, hB1⟩
    case round =>
      clear hX7 hB1
      obtain ⟨k, v, rfl, hk, hX, hB⟩ := hrel
      by_cases hlt : k < n
      · have hp := sg_pos (gen := gen) (first := first) (ss := ss) HM.out k (by have := HL.out; omega)
        have hr := hs.rng k
        obtain ⟨ad, rfl, p1, p2, p3, p4, p5⟩ := (hs.below (hB.mono (Nat.le_refl _))).cell k hlt
        rcases hsk : sg ss k with ⟨x, b0, s0, d0, f0⟩
        rw [hsk] at p1 p2 p3 p4 p5 hp hr
        have HSK := Lib.hid hsk
        clear hsk
        obtain ⟨⟨-, h1⟩, ⟨-, h2⟩, ⟨h3, h3'⟩, ⟨-, h4⟩, ⟨-, h5⟩⟩ := hr
        simp only at p1 p2 p3 p4 p5 hp h1 h2 h3 h3' h4 h5
        obtain ⟨q1, q2, q3, q4⟩ := hp
        have hXA := hX.below (below_alloc1 wr (.cells #[.int .i64 x, .int .i64 b0, .int .u32 s0, .int .i64 d0, .int .i64 f0] 96))
        have htA := heap_alloc_new wr (.cells #[.int .i64 x, .int .i64 b0, .int .u32 s0, .int .i64 d0, .int .i64 f0] 96)
        have hkg : wr.heap.size ≠ g := by have := lt_of_block hX.box; omega
        have hkv : v.ownBlock ≠ some wr.heap.size := fun e => by have := hX.own.blk _ e; omega
        have hks : wr.heap.size < (wr.alloc (.cells #[.int .i64 x, .int .i64 b0, .int .u32 s0, .int .i64 d0, .int .i64 f0] 96)).heap.size := by simp
        have hBA := hB.alloc hB.size (.cells #[.int .i64 x, .int .i64 b0, .int .u32 s0, .int .i64 d0, .int .i64 f0] 96)
        have hfb := fb_by 4 s0
        have hfl := fb_len 4 s0
        go_wp2_with (first
          | (go_at_call 103; refine (num103_any x (by omega) (by omega) (w.heap.size + 1) g _ _ _ _ hXA (by omega)).mono ?_; rintro e w7 ⟨rfl, v7, hX7, hG7⟩; have hT7 := hG7; have ht7 := (hT7.block wr.heap.size hks hkg hkv).trans htA; have z1 := blk_cell ht7 1 (v := some (.int .i64 b0)) rfl)
          | (go_at_call 103; refine (num103_any b0 (by omega) (by omega) (w.heap.size + 1) g _ _ _ _ hX7 (by omega)).mono ?_; rintro e w8 ⟨rfl, v8, hX8, hG8⟩; have hT8 := hT7.trans hG8; have ht8 := (hT8.block wr.heap.size hks hkg hkv).trans htA; have z2 := blk_cell ht8 2 (v := some (.int .u32 s0)) rfl; have z3 := blk_cell hX8.box 0 (v := some v8) rfl))
        go_region_law (first
          | (rw [if_pos (by kernel_rfl)]; go_simp; go_at_call 34; refine (fixed32_any s0 h3 h3' _).mono ?_; rintro e w9 ⟨v9, rfl, hown9, hB9⟩; have hb9 : Below w8.heap.size w8 w9 := Below.trans (Below.drew (Below.refl w8.heap.size w8)) hB9; have c9 := (cell_keep hb9 z3); obtain ⟨A9, n9, k9, rfl, hk9, hr9⟩ := OB.readN hown9 hfb (by omega); have hn9 := hr9.len)
          | (refine step_append_ab rfl (w.heap.size + 1) (.tmp 42) (.tmp 45) 25 rfl Try.underlying25 info5 v8 _ rfl (hX8.own.below hb9) A9 n9 k9 _ rfl hr9 (by omega) (by have := hX8.len; omega) (Nat.le_trans hX8.base hb9.size) ?_; intro v10 w10 ho10 hg10 ha10; obtain ⟨A10, n10, k10, rfl⟩ := OB.form ho10; obtain ⟨hX11, hG11⟩ := bx_put hX8 hb9 ho10 hfb (Nat.le_of_eq hfl) hg10 ha10; have cc0 := blk_cell (bx_mid hX8 hb9 hg10) 0 (v := some v8) rfl; have cc1 := blk_free (bx_mid hX8 hb9 hg10) 0; have hT11 := hT8.trans hG11; have ht11 := (hT11.block wr.heap.size hks hkg hkv).trans htA; have z4 := blk_cell ht11 3 (v := some (.int .i64 d0)) rfl))
        all_goals
          go_wp2_with (first
            | (go_at_call 103; refine (num103_any d0 (by omega) (by omega) (w.heap.size + 1) g _ _ _ _ hX11 (by omega)).mono ?_; rintro e w12 ⟨rfl, v12, hX12, hG12⟩; have hT12 := hT11.trans hG12; have ht12 := (hT12.block wr.heap.size hks hkg hkv).trans htA; have z5 := blk_cell ht12 4 (v := some (.int .i64 f0)) rfl)
            | (go_at_call 103; refine (num103_any f0 (by omega) (by omega) (w.heap.size + 1) g _ _ _ _ hX12 (by omega)).mono ?_; rintro e w13 ⟨rfl, v13, hX13, hG13⟩; have hT13 := hT12.trans hG13))
          go_roundw
          case rel => exact ⟨k + 1, v13, by simp, by omega, hX13.app (by rw [preB_succ gen first ss k (by have := HL.out; omega), HSK.out]; simp [segB, List.append_assoc]) (by omega), hBA.trans ((hT13.below hXA).mono (by omega))⟩
          case measure => simp [intOf]; omega
      · obtain rfl : k = n := by omega
        rw [show preB gen first ss k = bodyB gen first ss by rw [← HL.out]; exact preB_all gen first ss] at hX
        have hu0 := iu_lo (more 0#32 (bodyB gen first ss))
        have hu1 := iu_hi (more 0#32 (bodyB gen first ss))
        have hlen := hX.len
        obtain ⟨A1, n1, k1, rfl, hk1, hr1⟩ := hX.own.read hX.by_ (by omega)
        have z0 := blk_cell hX.box 0 (v := some (.slice A1 n1 k1)) rfl
        have hfb := fb_by 4 (iu (more 0#32 (bodyB gen first ss)))
        have hfl := fb_len 4 (iu (more 0#32 (bodyB gen first ss)))
        go_wp2_with fail
        go_region_held3 (fun w' => w'.cell? ⟨g, 0, none⟩ = some (.slice A1 n1 k1)) (first | exact z0 | exact cell_keep hb3 z0 | exact cell_keep hb5 z0 | exact z7) (first
          | (go_at_call 104; refine (sum_any A1 n1 k1 _ wr.drew (hr1.below (Below.drew (Below.refl _ _)))).mono ?_; rintro e w3 ⟨rfl, hb3'⟩; have hb3 : Below wr.heap.size wr w3 := Below.trans (Below.drew (Below.refl wr.heap.size wr)) hb3'; clear hb3')
          | (go_at_call 34; refine (fixed32_any _ hu0 hu1 _).mono ?_; rintro e w5 ⟨v5, rfl, hO5, hb5'⟩; have hb5 : Below wr.heap.size wr w5 := below_step hb3 hb5'; obtain ⟨A5, n5, k5, rfl, hk5, hr5⟩ := OB.readN hO5 hfb (by omega); have hn5 := hr5.len; clear hb5')
          | (refine step_append_ab rfl (w.heap.size + 1) (.tmp 56) (.tmp 59) 25 rfl Try.underlying25 info5 (.slice A1 n1 k1) _ rfl (hX.own.below hb5) A5 n5 k5 _ rfl hr5 (by omega) (by omega) (Nat.le_trans hX.base hb5.size) ?_; intro v7 w7 hO7 hg7 ha7; have z7 := blk_cell (bx_mid hX hb5 hg7) 0 (v := some (.slice A1 n1 k1)) rfl))
        all_goals
          go_wp2_with fail
          exact bodyPost_ret (v := .tuple #[v7, .int .i64 0]) (by simp [results, Try.results55, go_sem]) rfl ⟨_, rfl, hO7.lower (by omega), hB.trans (Below.mono (B := w.heap.size + 1) ((hb5.mono hX.base).grown hg7 (Nat.le_trans hX.base hb5.size) (fun q hq => (hX.own.blk q hq).1)) (by omega))⟩
end Go.Proofs.Ythggicgbcgeggaa
