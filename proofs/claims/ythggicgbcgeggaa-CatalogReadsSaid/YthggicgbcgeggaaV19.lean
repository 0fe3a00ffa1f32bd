/- Walk: flumelaw1.Bytes.Apart returns true. -/
import Derived.Test.YthggicgbcgeggaaV18
import Derived.Deep.RegionHeld3
set_option linter.unusedVariables false
set_option linter.unusedSimpArgs false
namespace Go.Proofs.Ythggicgbcgeggaa
open Go.RowKit
theorem Fr.mono {w w' : World} {P Q : Nat → Prop} (h : Fr w w' P) (hp : ∀ k, P k → Q k) : Fr w w' Q := ⟨h.os, h.tape, h.output, h.size, fun k hk hn => h.block k hk (fun hh => hn (hp k hh))⟩
theorem getD_set_eq (ks : List KL) (i : Nat) (k : KL) (h : i < ks.length) : (ks.set i k).getD i kd = k := by
  rw [List.getD_eq_getElem?_getD, List.getElem?_set_self h]; rfl
theorem getD_set_ne (ks : List KL) (i j : Nat) (k : KL) (h : i ≠ j) : (ks.set i k).getD j kd = ks.getD j kd := by
  rw [List.getD_eq_getElem?_getD, List.getD_eq_getElem?_getD, List.getElem?_set_ne h]
/-- one list is put in another's place -/
theorem KB.upd {w w' : World} {base kb : Nat} {lv : Value} {sz : Int} {T T' : Nat} {ks : List KL} (h : KB w base kb lv sz T ks) (i : Nat) (hi : i < ks.length) (k : KL) (hT : T ≤ T')
    (hf : Fr w w' (fun q => q = (ks.getD i kd).g ∨ lv.ownBlock = some q)) (row : w'.ownsRow base 25 1 lv ks.length ((ks.set i k).map KL.v)) (ho : OB 5 w' base k.v k.l) (ht : k.l.length ≤ T') (hg : k.g = (ks.getD i kd).g ∨ w.heap.size ≤ k.g) :
    KB w' base kb lv sz T' (ks.set i k) := by
  have hk5 := own_type (h.own i hi) (k := (ks.getD i kd).g) rfl
  obtain ⟨c5, hk5⟩ := hk5
  have hlen : (ks.set i k).length = ks.length := List.length_set
  have hne : ∀ j, j < ks.length → j ≠ i → (ks.getD j kd).g ≠ (ks.getD i kd).g := fun j hj e => by
    rcases Nat.lt_or_gt_of_ne e with e | e
    · exact h.apart j i e hi
    · exact fun e2 => h.apart i j e hj e2.symm
  have hlv : ∀ j, j < ks.length → lv.ownBlock ≠ some (ks.getD j kd).g := fun j hj e => h.ne5 (h.own j hj) rfl (.inr e)
  refine ⟨(hf.block kb (lt_of_block h.blk) ?_).trans h.blk, h.s0, h.s1, by rw [hlen]; exact h.cnt, h.hb, by rw [hlen]; exact row, fun j hj => ?_, fun j hj => ?_, fun a b hab hb => ?_⟩
  · rintro (e | e)
    · rw [← e] at hk5; exact absurd (blk_type h.blk hk5) (by decide)
    · exact h.lvne e
  · rw [hlen] at hj
    by_cases e : i = j
    · subst e; rw [getD_set_eq _ _ _ hj]; exact ho
    · rw [getD_set_ne _ _ _ _ e]
      refine (h.own j hj).fr hf fun q hq => ?_
      obtain rfl : (ks.getD j kd).g = q := by simpa [KL.v, Value.ownBlock] using hq
      rintro (e2 | e2)
      · exact hne j hj (fun e3 => e e3.symm) e2
      · exact hlv j hj e2
  · rw [hlen] at hj
    by_cases e : i = j
    · subst e; rw [getD_set_eq _ _ _ hj]; exact ht
    · rw [getD_set_ne _ _ _ _ e]; exact Nat.le_trans (h.top j hj) hT
  · rw [hlen] at hb
    by_cases e1 : i = a
    · subst e1
      rw [getD_set_eq _ _ _ hi, getD_set_ne _ _ _ _ (by omega)]
      rcases hg with e | e
      · rw [e]; exact h.apart i b hab hb
      · have := (h.glt b hb).2; omega
    · by_cases e2 : i = b
      · subst e2
        rw [getD_set_eq _ _ _ hi, getD_set_ne _ _ _ _ e1]
        rcases hg with e | e
        · rw [e]; exact h.apart a i hab hi
        · have := (h.glt a (by omega)).2; omega
      · rw [getD_set_ne _ _ _ _ e1, getD_set_ne _ _ _ _ e2]; exact h.apart a b hab hb
theorem KB.drew {w : World} {base kb : Nat} {lv : Value} {sz : Int} {T : Nat} {ks : List KL} (h : KB w base kb lv sz T ks) : KB w.drew base kb lv sz T ks := ⟨h.blk, h.s0, h.s1, h.cnt, h.hb, h.row, h.own, h.top, h.apart⟩
theorem Fr.drew {w w' : World} {P : Nat → Prop} (h : Fr w w' P) : Fr w w'.drew P := ⟨h.os, h.tape, h.output, h.size, h.block⟩
/-- what the list's row holds -/
theorem KB.row_at {w : World} {base kb gl cl : Nat} {sz : Int} {T N : Nat} {ks : List KL} (h : KB w base kb (.slice (some ⟨gl, 0, none⟩) N cl) sz T ks) (hN : ks.length = N) (i : Nat) (hi : i < N) : w.cell? ⟨gl, i, none⟩ = some (ks.getD i kd).v ∧ w.frozen? ⟨gl, i, none⟩ = false := by
  have hr := h.row
  rw [hN] at hr
  refine ⟨?_, hr.frozenAt i⟩
  rw [hr.cellAt i (by omega), List.getElem?_map, List.getD_eq_getElem?_getD, List.getElem?_eq_getElem (by omega)]
  rfl
/-- a list's mark -/
def mk (sc : Int) (i : Nat) : Int := (i : Int) / sc % 250
theorem mk_rng (sc : Int) (i : Nat) : 0 ≤ mk sc i ∧ mk sc i < 250 := by unfold mk; omega
/-- the first i lists bear their marks -/
def MK (sc : Int) (ks : List KL) (i : Nat) : Prop := ∀ j, j < i → ∀ x, x < (ks.getD j kd).l.length → nth (ks.getD j kd).l x = mk sc j
/-- how long the slice is that lies at a place -/
def lenAt (w : World) (a : Addr) : Nat := match w.cell? a with
  | some (.slice _ n _) => n
  | _ => 0
theorem lenAt_of {w : World} {a : Addr} {A : Option Addr} {n c : Nat} (h : w.cell? a = some (.slice A n c)) : lenAt w a = n := by unfold lenAt; rw [h]
/-- the empty byte is put behind list i, and the list's header stored -/
theorem fill_step {W X w1 : World} {o : Obj} {base kb gl cl g cap g' cap' : Nat} {sz : Int} {T N : Nat} {ks : List KL} {l l' : List Int} (hX : X.heap = (W.alloc o).heap ∧ X.os = W.os ∧ X.tape = W.tape ∧ X.output = W.output)
    (hK : KB W base kb (.slice (some ⟨gl, 0, none⟩) N cl) sz T ks) (hN : ks.length = N) (i : Nat) (hi : i < N) (hk : ks.getD i kd = ⟨g, cap, l⟩) (hg1 : X.grownBy w1 (some g)) (hO : OB 5 w1 base (.slice (some ⟨g', 0, none⟩) l'.length cap') l') (hat : g' = g ∨ g' = X.heap.size) (ht : l'.length ≤ T) :
    KB (w1.setCell ⟨gl, i, none⟩ (.slice (some ⟨g', 0, none⟩) l'.length cap')) base kb (.slice (some ⟨gl, 0, none⟩) N cl) sz T (ks.set i ⟨g', cap', l'⟩) ∧ Fr W (w1.setCell ⟨gl, i, none⟩ (.slice (some ⟨g', 0, none⟩) l'.length cap')) (fun q => base ≤ q) := by
  obtain ⟨h1, h2, h3, h4⟩ := hX
  have hs : X.heap.size = W.heap.size + 1 := by rw [h1]; show (W.heap.push o).size = _; simp
  have hbg := (hK.glt i (by omega)).1
  rw [hk] at hbg
  have hrow := hK.row
  rw [hN] at hrow
  have hbl := (own_blk_lt hrow gl rfl).1
  have hgl := (own_blk_lt hrow gl rfl).2
  have hne : g ≠ gl := by
    have h5 := hK.own i (by omega)
    rw [hk] at h5
    obtain ⟨c5, h5⟩ := own_type h5 (k := g) rfl
    obtain ⟨c6, h6⟩ := own_type hrow (k := gl) rfl
    rintro rfl
    exact absurd (blk_type h5 h6) (by decide)
  have hf1 : Fr W w1 (fun q => q = g) := ⟨hg1.os.trans h2, hg1.tape.trans h3, hg1.output.trans h4, by have := hg1.size; omega, fun k hk hn => by
    rw [hg1.block k (by omega) (fun e => hn (by injection e)), h1]
    exact Below.heap_alloc W o k hk⟩
  have hrow1 : w1.ownsRow base 25 1 (.slice (some ⟨gl, 0, none⟩) N cl) N (ks.map KL.v) := own_fr hrow fun k hk => by
    obtain rfl : gl = k := by simpa [Value.ownBlock] using hk
    exact hf1.block gl hgl (fun e => hne e.symm)
  have hst := hrow1.stored i (.slice (some ⟨g', 0, none⟩) l'.length cap')
  have hmap : (ks.map KL.v).set i (.slice (some ⟨g', 0, none⟩) l'.length cap') = (ks.set i ⟨g', cap', l'⟩).map KL.v := by rw [List.map_set]; rfl
  rw [hmap] at hst
  have hset : Fr w1 (w1.setCell ⟨gl, i, none⟩ (.slice (some ⟨g', 0, none⟩) l'.length cap')) (fun q => q = gl) := Fr.of_grown (grown_setCell i _) (fun k e => by injection e with e; exact e.symm)
  have hf2 : Fr W (w1.setCell ⟨gl, i, none⟩ (.slice (some ⟨g', 0, none⟩) l'.length cap')) (fun q => q = (ks.getD i kd).g ∨ (Value.slice (some ⟨gl, 0, none⟩) N cl).ownBlock = some q) :=
    (hf1.mono (fun k e => .inl (by rw [hk]; exact e))).trans hset (fun k _ e => .inr (by rw [e]; rfl))
  refine ⟨hK.upd i (by omega) ⟨g', cap', l'⟩ (Nat.le_refl _) hf2 (by rw [hN]; exact hst.1) (hO.fr hset (fun k hk2 e => ?_)) ht ?_, (hf1.mono (fun k e => by rw [e]; exact hbg)).trans hset (fun k _ e => by rw [e]; exact hbl)⟩
  · subst e
    obtain ⟨c5, h5⟩ := own_type hO hk2
    obtain ⟨c6, h6⟩ := own_type hrow1 (k := k) rfl
    exact absurd (blk_type h5 h6) (by decide)
  · rw [hk]
    rcases hat with e | e
    · exact .inl e
    · exact .inr (by simp only; omega)
/-- a byte of list i is written over -/
theorem mark_step {W : World} {base kb gl cl g cap : Nat} {sz : Int} {T N : Nat} {ks : List KL} {l : List Int} (hK : KB W base kb (.slice (some ⟨gl, 0, none⟩) N cl) sz T ks) (hN : ks.length = N) (i : Nat) (hi : i < N) (hk : ks.getD i kd = ⟨g, cap, l⟩) (x : Nat) (y : Int) :
    KB (W.setCell ⟨g, x, none⟩ (.int .u8 y)) base kb (.slice (some ⟨gl, 0, none⟩) N cl) sz T (ks.set i ⟨g, cap, l.set x y⟩) ∧ Fr W (W.setCell ⟨g, x, none⟩ (.int .u8 y)) (fun q => base ≤ q) := by
  have hbg := (hK.glt i (by omega)).1
  rw [hk] at hbg
  have hO := hK.own i (by omega)
  have hT := hK.top i (by omega)
  rw [hk] at hO hT
  have hst := World.ownsRow.stored hO x (.int .u8 y)
  have hset : Fr W (W.setCell ⟨g, x, none⟩ (.int .u8 y)) (fun q => q = g) := Fr.of_grown (grown_setCell x _) (fun k e => by injection e with e; exact e.symm)
  have hrow := hK.row
  rw [hN] at hrow
  have hne : g ≠ gl := by
    obtain ⟨c5, h5⟩ := own_type hO (k := g) rfl
    obtain ⟨c6, h6⟩ := own_type hrow (k := gl) rfl
    rintro rfl
    exact absurd (blk_type h5 h6) (by decide)
  have hmap : (ks.set i ⟨g, cap, l.set x y⟩).map KL.v = ks.map KL.v := by
    rw [List.map_set]
    apply List.ext_getElem?
    intro q
    by_cases e : i = q
    · subst e
      rw [List.getElem?_set_self (by simp; omega), List.getElem?_map]
      have : ks[i]? = some ⟨g, cap, l⟩ := by
        rw [List.getD_eq_getElem?_getD] at hk
        rw [List.getElem?_eq_getElem (by omega)] at hk ⊢
        exact congrArg some hk
      rw [this]
      simp [KL.v]
    · rw [List.getElem?_set_ne e]
  refine ⟨hK.upd i (by omega) ⟨g, cap, l.set x y⟩ (Nat.le_refl _) (hset.mono (fun k e => .inl (by rw [hk]; exact e))) ?_ ?_ (by simp only [List.length_set]; exact hT) (.inl (by rw [hk])), hset.mono (fun k e => by rw [e]; exact hbg)⟩
  · rw [hmap, hN]
    exact own_fr hrow fun k hk2 => by
      obtain rfl : gl = k := by simpa [Value.ownBlock] using hk2
      exact hset.block gl (own_blk_lt hrow gl rfl).2 (fun e => hne e.symm)
  · have h1 := hst.1
    rw [set_bys] at h1
    show World.ownsRow _ base 5 1 (.slice (some ⟨g, 0, none⟩) (l.set x y).length cap) (l.set x y).length (bys (l.set x y))
    rw [List.length_set]
    exact h1
theorem nth_mark (l : List Int) (x : Nat) (y : Int) (m : Int) (hx : x < l.length) (h : ∀ q, q < x → nth l q = m) (hy : y = m) : ∀ q, q < x + 1 → nth (l.set x y) q = m := fun q hq => by
  by_cases e : q = x
  · subst e; rw [nth_set_same _ _ _ hx]; exact hy
  · rw [nth_set_ne _ _ _ _ (by omega)]; exact h q (by omega)
theorem MK.next {sc : Int} {ks : List KL} {i : Nat} (h : MK sc ks i) (hi : i < ks.length) (k : KL) (hk : ∀ q, q < k.l.length → nth k.l q = mk sc i) : MK sc (ks.set i k) (i + 1) := fun j hj x hx => by
  by_cases e : i = j
  · subst e; rw [getD_set_eq _ _ _ hi] at hx ⊢; exact hk x hx
  · rw [getD_set_ne _ _ _ _ e] at hx ⊢; exact h j (by omega) x hx
theorem set_set (ks : List KL) (i : Nat) (a b : KL) : (ks.set i a).set i b = ks.set i b := List.set_set ..
set_option maxRecDepth 100000 in
set_option maxHeartbeats 4000000 in
theorem apart_any (base kb : Nat) (lv : Value) (sz : Int) (ks : List KL) (w : World) (hK : KB w base kb lv sz 4194304 ks) :
    Calls Try.prog 36 #[.pointer (some ⟨kb, 0, none⟩)] w fun e w' => e = .returned (.bool true) ∧ Fr w w' (fun q => base ≤ q) := by
  obtain ⟨N, hN⟩ : ∃ N, N = ks.length := ⟨_, rfl⟩
  have hN8 : (N : Int) ≤ 4194304 := by have := hK.cnt; have := hK.s1; omega
  obtain ⟨A, cl, rfl, hNc, hA⟩ : ∃ A cl, lv = .slice A N cl ∧ N ≤ cl ∧ (0 < N → ∃ gl, A = some ⟨gl, 0, none⟩) := by
    have hr := hK.row
    rw [← hN] at hr
    rcases hr.2 with ⟨rfl, h0⟩ | ⟨g, cap, cur, rfl, _, _, hc, _⟩
    · exact ⟨none, 0, by rw [h0], by omega, by omega⟩
    · exact ⟨_, cap, rfl, hc, fun _ => ⟨g, rfl⟩⟩
  have HA := Lib.hid hA
  have HN := Lib.hid hN
  clear hA hN
  go_enter Try.func36, Try.ntmps36
  go_wp2_with fail
  go_loopw [3] (fun s wr => ∃ (sc : Int) (T : Nat) (ks1 : List KL), s = .int .i64 sc ∧ 1 ≤ sc ∧ sc ≤ 62500 ∧ (T : Int) ≤ 4194304 + 5000 * sc ∧ Hid (ks1.length = N) ∧ KB wr base kb (.slice A N cl) sz T ks1 ∧ Fr w wr (fun q => base ≤ q)) (fun s _ => (62501 - intOf s).toNat)
  case atStart => exact ⟨1, 4194304, ks, rfl, by omega, by omega, by omega, HN.out.symm, hK, Fr.refl _ _⟩
  case round =>
    clear hK
    obtain ⟨sc, T, ks1, rfl, sc1, sc2, hT, HL1, hK1, hF1⟩ := hrel
    by_cases hsc : sc ≤ 250
    · go_wp2_with fail
      obtain ⟨w1, hw1⟩ : ∃ w1 : World, w1 = wr := ⟨_, rfl⟩
      subst hw1
      go_loopw [4] (fun s wr => ∃ (i : Nat) (ks2 : List KL), s = .int .i64 i ∧ i ≤ N ∧ Hid (ks2.length = N) ∧ KB wr base kb (.slice A N cl) sz (T + 5000) ks2 ∧ Hid (MK sc ks2 i) ∧ Hid (∀ j, i ≤ j → j < N → (ks2.getD j kd).l.length ≤ T) ∧ Fr w wr (fun q => base ≤ q)) (fun s _ => N - (intOf s).toNat)
      case atStart => exact ⟨0, ks1, rfl, by omega, HL1, ⟨hK1.blk, hK1.s0, hK1.s1, hK1.cnt, hK1.hb, hK1.row, hK1.own, fun q hq => Nat.le_trans (hK1.top q hq) (by omega), hK1.apart⟩, fun j hj => by omega, fun j _ hj => hK1.top j (by rw [HL1.out]; exact hj), hF1⟩
      case round =>
        clear hK1 hF1
        obtain ⟨i, ks2, rfl, hi, HL2, hK2, HM, HT2, hF2⟩ := hrel
        have cb0 := blk_cell hK2.blk 0 (v := some (.slice A N cl)) rfl
        by_cases hlt : i < N
        · obtain ⟨gl, rfl⟩ := HA.out (by omega)
          obtain ⟨hc1, hz1⟩ := hK2.row_at HL2.out i hlt
          obtain ⟨g, cap, l, hk⟩ : ∃ g cap l, ks2.getD i kd = ⟨g, cap, l⟩ := ⟨_, _, _, rfl⟩
          have hcap : l.length ≤ cap ∧ cap ≤ 9223372036854775807 := by
            have h := hK2.own i (by rw [HL2.out]; exact hlt)
            rw [hk] at h
            rcases h.2 with ⟨h, _⟩ | ⟨g', cap', cur, h, _, _, h1, h2, _⟩
            · cases h
            · have : cap = cap' := by injection h
              subst this; exact ⟨h1, h2⟩
          have htl := HT2.out i (Nat.le_refl _) hlt
          rw [hk] at hc1 htl
          simp only at htl
          obtain ⟨n, hn⟩ : ∃ n, n = l.length := ⟨_, rfl⟩
          have hc2 : wr.cell? ⟨gl, i, none⟩ = some (.slice (some ⟨g, 0, none⟩) n cap) := by rw [hc1, hn]; rfl
          rw [← hn] at hcap htl
          obtain ⟨hcap1, hcap2⟩ := hcap
          have HN2 := Lib.hid hn
          have HKI := Lib.hid hk
          clear hc1 hn hk
          obtain ⟨r0, r1, r2, r3⟩ := room_le (n : Int) (cap : Int) (by omega) (by omega)
          obtain ⟨r, hr⟩ : ∃ r, r = room (n : Int) (cap : Int) := ⟨_, rfl⟩
          rw [← hr] at r0 r1 r2
          have HR := Lib.hid hr
          clear hr r3
          have i0 : (0 : Int) ≤ (i : Int) := by omega
          have i1 : (i : Int) < (N : Int) := by omega
          go_wp2_with fail
          go_quiet ((go_at_call 86; exact Calls.quiet_of_same ((room_any n cap (by omega) (by omega) _).mono fun _ _ h => by rw [← HR.out] at h; exact ⟨h.1, h.2.symm⟩)))
          go_wp2_with fail
          clear cb0 hc2 hz1
          have hK3 := hK2.drewN nq
          have hF3 := hF2.drewN nq
          clear hK2 hF2
          generalize wr.drewN nq = w2 at hK3 hF3 ⊢
          obtain ⟨w3, hw3⟩ : ∃ w3 : World, w3 = w2 := ⟨_, rfl⟩
          subst hw3
          go_loopw [39] (fun _ wr => ∃ (k3 : KL), KB wr base kb (.slice (some ⟨gl, 0, none⟩) N cl) sz (T + 5000) (ks2.set i k3) ∧ Fr w wr (fun q => base ≤ q)) (fun _ wr => r.toNat - lenAt wr ⟨gl, i, none⟩)
          case atStart => exact ⟨ks2.getD i kd, by rw [show ks2.set i (ks2.getD i kd) = ks2 from (by apply List.ext_getElem? ; intro q; by_cases e : i = q; (subst e; rw [List.getElem?_set_self (by rw [HL2.out]; exact hlt), List.getD_eq_getElem?_getD, List.getElem?_eq_getElem (by rw [HL2.out]; exact hlt)]; rfl); rw [List.getElem?_set_ne e])]; exact hK3, hF3⟩
          case round =>
            clear hK3 hF3
            obtain ⟨k3, hK3, hF3⟩ := hrel
            obtain ⟨g3, cap3, l3⟩ := k3
            have cb0 := blk_cell hK3.blk 0 (v := some (.slice (some ⟨gl, 0, none⟩) N cl)) rfl
            have hls : (ks2.set i ⟨g3, cap3, l3⟩).length = N := by rw [List.length_set]; exact HL2.out
            obtain ⟨hc1, hz1⟩ := hK3.row_at hls i hlt
            have hgi : (ks2.set i (⟨g3, cap3, l3⟩ : KL)).getD i kd = ⟨g3, cap3, l3⟩ := getD_set_eq _ _ _ (by rw [HL2.out]; exact hlt)
            rw [hgi] at hc1
            have hO3 := hK3.own i (by rw [hls]; exact hlt)
            have hT3 := hK3.top i (by rw [hls]; exact hlt)
            rw [hgi] at hO3 hT3
            simp only at hT3
            have HG := Lib.hid hgi
            have HLS := Lib.hid hls
            have HO3 := Lib.hid hO3
            clear hgi hls hO3
            obtain ⟨n3, hn3⟩ : ∃ n3, n3 = l3.length := ⟨_, rfl⟩
            have hc2 : wr.cell? ⟨gl, i, none⟩ = some (.slice (some ⟨g3, 0, none⟩) n3 cap3) := by rw [hc1, hn3]; rfl
            rw [← hn3] at hT3
            have HN3 := Lib.hid hn3
            clear hc1 hn3
            by_cases hlt3 : (n3 : Int) < r
            · have hbk : base ≤ wr.heap.size := Nat.le_trans hK3.hb (Nat.le_of_lt (lt_of_block hK3.blk))
              have hrow := hK3.row
              rw [HLS.out] at hrow
              have hglt := (own_blk_lt hrow gl rfl).2
              have hne : g3 ≠ gl := by
                obtain ⟨c5, h5⟩ := own_type HO3.out (k := g3) rfl
                obtain ⟨c6, h6⟩ := own_type hrow (k := gl) rfl
                rintro rfl
                exact absurd (blk_type h5 h6) (by decide)
              have hne2 : g3 ≠ kb := by
                obtain ⟨c5, h5⟩ := own_type HO3.out (k := g3) rfl
                rintro rfl
                exact absurd (blk_type h5 hK3.blk) (by decide)
              have HNE := Lib.hid (And.intro hne (And.intro hne2 hglt))
              have cbA : (wr.alloc (.cells #[.int .u8 0] 5)).cell? ⟨kb, 0, none⟩ = some (.slice (some ⟨gl, 0, none⟩) N cl) := blk_cell (blk_old hK3.blk _) 0 rfl
              have ccA : (wr.alloc (.cells #[.int .u8 0] 5)).cell? ⟨gl, i, none⟩ = some (.slice (some ⟨g3, 0, none⟩) n3 cap3) := (World.cell?_of_block (Below.heap_alloc wr _ gl hglt)).trans hc2
              have HOW : Hid (wr.ownsRow base 5 1 (.slice (some ⟨g3, 0, none⟩) n3 cap3) n3 (bys l3)) := Lib.hid (by rw [HN3.out]; exact HO3.out)
              clear hne hne2 hglt hrow
              go_wp2_with fail
              go_region_law ((refine step_append_rv (by rfl) base (.tmp 60) (.tmp 61) 25 5 (.int .u8 0) 1 1 (by rfl) Try.underlying25 info5 rfl (by omega) (by omega) (.slice (some ⟨g3, 0, none⟩) n3 cap3) n3 (bys l3) (by rfl) (HOW.out.alloc _) (some ⟨wr.heap.size, 0, none⟩) 1 1 [.int .u8 0] (by rfl) (RV_one (heap_alloc_new wr _) rfl) (by omega) (by simp; omega) ?_; intro v1 w1 hr1 hg1 hat1; obtain ⟨g1, c1, rfl, hgb1, hgl1, hgc1⟩ := own_form hr1 (by omega); have hb1 : w1.heap[kb]? = wr.heap[kb]? := (hg1.block kb (by have := lt_of_block hK3.blk; simp; omega) (fun e => HNE.out.2.1 (by injection e with e; exact e.symm))).trans (Below.heap_alloc wr _ kb (lt_of_block hK3.blk)); have hb2 : w1.heap[gl]? = wr.heap[gl]? := (hg1.block gl (by have := HNE.out.2.2; simp; omega) (fun e => HNE.out.1 (by injection e with e; exact e.symm))).trans (Below.heap_alloc wr _ gl HNE.out.2.2); have e0 := (World.cell?_of_block (a := ⟨kb, 0, none⟩) hb1).trans cb0; have e1 := (World.cell?_of_block (a := ⟨gl, i, none⟩) hb2).trans hc2; have e2 := (World.frozen?_of_block (a := ⟨gl, i, none⟩) hb2).trans hz1))
              all_goals
                obtain ⟨hKn, hFn⟩ := fill_step (W := wr) (o := .cells #[.int .u8 0] 5) (l' := l3 ++ [0]) (g' := g1) (cap' := c1) (by exact ⟨rfl, rfl, rfl, rfl⟩) hK3 HLS.out i hlt HG.out hg1 (by have hl' : (l3 ++ [0]).length = n3 + 1 := (by rw [List.length_append, ← HN3.out]; rfl); unfold OB; rw [hl', bys_append]; exact hr1) (by rcases hat1 with e | e; (injection e with e; exact .inl e); (injection e with e; exact .inr e)) (by rw [List.length_append, ← HN3.out]; simp only [List.length_cons, List.length_nil]; omega)
                have hl' : (l3 ++ [0]).length = n3 + 1 := by rw [List.length_append, ← HN3.out]; rfl
                rw [hl', set_set] at hKn
                rw [hl'] at hFn
                have hFm := hF3.trans hFn (fun _ _ e => e)
                have hcn := (hKn.row_at (by rw [List.length_set]; exact HL2.out) i hlt).1
                rw [getD_set_eq _ _ _ (by rw [HL2.out]; exact hlt)] at hcn
                have hm2 := lenAt_of hcn
                rw [hl'] at hm2
                have hm1 := lenAt_of hc2
                have HM2 := Lib.hid (And.intro hm1 hm2)
                clear hm1 hm2 hcn hFn hr1 hg1 hat1 hb1 hb2 e0 e1 e2 cbA ccA cb0 hz1 hc2 hF3 hK3 HOW
                go_wp2_with fail
                go_roundw
                case rel => exact ⟨⟨g1, c1, l3 ++ [0]⟩, hKn, hFm⟩
                case measure => rw [HM2.out.1, HM2.out.2]; omega
            · go_wp2_with fail
              clear cb0 hz1 hc2
              obtain ⟨w4, hw4⟩ : ∃ w4 : World, w4 = wr := ⟨_, rfl⟩
              subst hw4
              go_loopw [6] (fun s wr => ∃ (x : Nat) (l4 : List Int), s = .int .i64 x ∧ x ≤ n3 ∧ Hid (l4.length = n3) ∧ KB wr base kb (.slice (some ⟨gl, 0, none⟩) N cl) sz (T + 5000) (ks2.set i ⟨g3, cap3, l4⟩) ∧ Hid (∀ q, q < x → nth l4 q = mk sc i) ∧ Fr w wr (fun q => base ≤ q)) (fun s _ => n3 - (intOf s).toNat)
              case atStart => exact ⟨0, l3, rfl, by omega, HN3.out.symm, hK3, fun q hq => by omega, hF3⟩
              case round =>
                clear hK3 hF3 HO3 HG HLS
                obtain ⟨x, l4, rfl, hx, HL4, hK4, HX, hF4⟩ := hrel
                have cb0 := blk_cell hK4.blk 0 (v := some (.slice (some ⟨gl, 0, none⟩) N cl)) rfl
                have hls : (ks2.set i ⟨g3, cap3, l4⟩).length = N := by rw [List.length_set]; exact HL2.out
                obtain ⟨hc1, hz1⟩ := hK4.row_at hls i hlt
                have hgi : (ks2.set i (⟨g3, cap3, l4⟩ : KL)).getD i kd = ⟨g3, cap3, l4⟩ := getD_set_eq _ _ _ (by rw [HL2.out]; exact hlt)
                rw [hgi] at hc1
                have hO4 := hK4.own i (by rw [hls]; exact hlt)
                rw [hgi] at hO4
                have hc2 : wr.cell? ⟨gl, i, none⟩ = some (.slice (some ⟨g3, 0, none⟩) n3 cap3) := by rw [hc1, ← HL4.out]; rfl
                have HG := Lib.hid hgi
                have HLS := Lib.hid hls
                have hcap3 : n3 ≤ cap3 := by
                  rcases hO4.2 with ⟨h, _⟩ | ⟨g', cap', cur, h, _, _, h1, h2, _⟩
                  · cases h
                  · have : cap3 = cap' := by injection h
                    subst this; rw [HL4.out] at h1; exact h1
                have HO4 := Lib.hid hO4
                clear hc1 hgi hls hO4
                by_cases hltx : x < n3
                · have hcx : wr.cell? ⟨g3, x, none⟩ = some (.int .u8 (nth l4 x)) := (World.ownsRow.cellAt HO4.out x (by rw [HL4.out]; omega)).trans (bys_at l4 x (by rw [HL4.out]; exact hltx))
                  have hzx : wr.frozen? ⟨g3, x, none⟩ = false := World.ownsRow.frozenAt HO4.out x
                  have x0 : (0 : Int) ≤ (x : Int) := by omega
                  have x1 : (x : Int) < (n3 : Int) := by omega
                  obtain ⟨hmk0, hmk1⟩ := mk_rng sc i
                  have hq0 : 0 ≤ (i : Int) / sc := Int.ediv_nonneg i0 (by omega)
                  have hq1 : (i : Int) / sc ≤ (i : Int) := Int.ediv_le_self _ i0
                  have ewq : IntKind.i64.wrap ((i : Int) / sc) = (i : Int) / sc := by rw [IntKind.wrap_i64]; omega
                  have et : ((i : Int) / sc).tmod 250 = mk sc i := Int.tmod_eq_emod_of_nonneg hq0
                  have ew : IntKind.u8.wrap (mk sc i) = mk sc i := by rw [IntKind.wrap_u8]; omega
                  have hs0 : (sc == 0) = false := by simp; omega
                  have hs1 : ¬ sc = 0 := by omega
                  obtain ⟨c5, h5⟩ := own_type HO4.out (k := g3) rfl
                  have hrow := hK4.row
                  obtain ⟨c6, h6⟩ := own_type hrow (k := gl) rfl
                  have hne : gl ≠ g3 := by
                    rintro rfl
                    exact absurd (blk_type h5 h6) (by decide)
                  have hne2 : kb ≠ g3 := by
                    rintro rfl
                    exact absurd (blk_type h5 hK4.blk) (by decide)
                  have HKA : Hid (∀ v, (wr.setCell ⟨g3, x, none⟩ v).cell? ⟨kb, 0, none⟩ = some (.slice (some ⟨gl, 0, none⟩) N cl) ∧ (wr.setCell ⟨g3, x, none⟩ v).cell? ⟨gl, i, none⟩ = some (.slice (some ⟨g3, 0, none⟩) n3 cap3)) :=
                    Lib.hid fun v => ⟨blk_cell (blk_set_ne hK4.blk _ _ hne2) 0 rfl, (World.cell?_of_block (heap_setCell_other wr _ gl v hne)).trans hc2⟩
                  clear hrow h5 h6 hne hne2
                  go_wp2_with fail
                  go_region_held3 (fun w' => w'.cell? ⟨kb, 0, none⟩ = some (.slice (some ⟨gl, 0, none⟩) N cl) ∧ w'.cell? ⟨gl, i, none⟩ = some (.slice (some ⟨g3, 0, none⟩) n3 cap3)) (first | exact ⟨cb0, hc2⟩ | exact HKA.out _) (fail)
                  obtain ⟨hKn, hFn⟩ := mark_step hK4 HLS.out i hlt HG.out x (mk sc i)
                  rw [set_set] at hKn
                  have hFm := (hF4.trans hFn (fun _ _ e => e)).drew
                  have hKm := hKn.drew
                  have hLn : (l4.set x (mk sc i)).length = n3 := by rw [List.length_set]; exact HL4.out
                  have hXn := nth_mark l4 x (mk sc i) (mk sc i) (by rw [HL4.out]; exact hltx) HX.out rfl
                  have HXN := Lib.hid (And.intro hLn hXn)
                  clear hLn hXn hFn hKn hF4 hK4 hcx hzx hc2 hz1 cb0
                  go_wp2_with fail
                  go_roundw
                  case rel => exact ⟨x + 1, l4.set x (mk sc i), by go_num, by omega, HXN.out.1, hKm, HXN.out.2, hFm⟩
                  case measure => simp [intOf]; omega
                · obtain rfl : x = n3 := by omega
                  have hMn := HM.out.next (by rw [HL2.out]; exact hlt) ⟨g3, cap3, l4⟩ (fun q hq => HX.out q (by simp only at hq; rw [HL4.out] at hq; exact hq))
                  have HMN := Lib.hid hMn
                  have HTN : Hid (∀ j, i + 1 ≤ j → j < N → ((ks2.set i ⟨g3, cap3, l4⟩).getD j kd).l.length ≤ T) := Lib.hid fun j hj hj2 => by rw [getD_set_ne _ _ _ _ (by omega)]; exact HT2.out j (by omega) hj2
                  clear hMn
                  go_wp2_with fail
                  go_roundw
                  case rel => exact ⟨i + 1, ks2.set i ⟨g3, cap3, l4⟩, by go_num, by omega, HLS.out, hK4, HMN.out, HTN.out, hF4⟩
                  case measure => simp [intOf]; omega
        · obtain rfl : i = N := by omega
          go_wp2_with fail
          clear cb0
          obtain ⟨w5, hw5⟩ : ∃ w5 : World, w5 = wr := ⟨_, rfl⟩
          subst hw5
          go_loopw [7] (fun s wr => ∃ (j : Nat), s = .int .i64 j ∧ j ≤ i ∧ KB wr base kb (.slice A i cl) sz (T + 5000) ks2 ∧ Fr w wr (fun q => base ≤ q)) (fun s _ => i - (intOf s).toNat)
          case atStart => exact ⟨0, rfl, by omega, hK2, hF2⟩
          case round =>
            clear hK2 hF2
            obtain ⟨j, rfl, hj, hK5, hF5⟩ := hrel
            have cb0 := blk_cell hK5.blk 0 (v := some (.slice A i cl)) rfl
            by_cases hltj : j < i
            · obtain ⟨gl, rfl⟩ := HA.out (by omega)
              go_wp2_with fail
              clear cb0
              obtain ⟨w6, hw6⟩ : ∃ w6 : World, w6 = wr := ⟨_, rfl⟩
              subst hw6
              go_loopw [8] (fun s wr => ∃ (x : Nat), s = .int .i64 x ∧ x ≤ (ks2.getD j kd).l.length ∧ KB wr base kb (.slice (some ⟨gl, 0, none⟩) i cl) sz (T + 5000) ks2 ∧ Fr w wr (fun q => base ≤ q)) (fun s _ => (ks2.getD j kd).l.length - (intOf s).toNat)
              case atStart => exact ⟨0, rfl, by omega, hK5, hF5⟩
              case round =>
                clear hK5 hF5
                obtain ⟨x, rfl, hx, hK6, hF6⟩ := hrel
                have cb0 := blk_cell hK6.blk 0 (v := some (.slice (some ⟨gl, 0, none⟩) i cl)) rfl
                obtain ⟨hc1, hz1⟩ := hK6.row_at HL2.out j hltj
                have hO := hK6.own j (by rw [HL2.out]; exact hltj)
                have hMj := HM.out j hltj
                have htj := hK6.top j (by rw [HL2.out]; exact hltj)
                obtain ⟨⟨g, cap, l⟩, hk⟩ : ∃ k, k = ks2.getD j kd := ⟨_, rfl⟩
                rw [← hk] at hc1 hO hMj hx htj
                simp only at hMj hx htj
                obtain ⟨n, hn⟩ : ∃ n, n = l.length := ⟨_, rfl⟩
                have hc2 : wr.cell? ⟨gl, j, none⟩ = some (.slice (some ⟨g, 0, none⟩) n cap) := by rw [hc1, hn]; rfl
                have hcap : n ≤ cap := by
                  rcases hO.2 with ⟨h, _⟩ | ⟨g', cap', cur, h, _, _, h1, h2, _⟩
                  · cases h
                  · have : cap = cap' := by injection h
                    subst this; rw [hn]; exact h1
                rw [← hn] at hx htj
                have HKJ := Lib.hid (And.intro hk (And.intro hO (And.intro hMj hn)))
                clear hc1 hz1 hk hO hMj hn
                by_cases hltx : x < n
                · have hcx : wr.cell? ⟨g, x, none⟩ = some (.int .u8 (mk sc j)) := (World.ownsRow.cellAt HKJ.out.2.1 x (by have := HKJ.out.2.2.2; simp only; omega)).trans ((bys_at l x (by have := HKJ.out.2.2.2; omega)).trans (by rw [HKJ.out.2.2.1 x (by have := HKJ.out.2.2.2; omega)]))
                  have x0 : (0 : Int) ≤ (x : Int) := by omega
                  have x1 : (x : Int) < (n : Int) := by omega
                  have j0 : (0 : Int) ≤ (j : Int) := by omega
                  have j1 : (j : Int) < (i : Int) := by omega
                  obtain ⟨hmk0, hmk1⟩ := mk_rng sc j
                  have hq0 : 0 ≤ (j : Int) / sc := Int.ediv_nonneg j0 (by omega)
                  have hq1 : (j : Int) / sc ≤ (j : Int) := Int.ediv_le_self _ j0
                  have ewq : IntKind.i64.wrap ((j : Int) / sc) = (j : Int) / sc := by rw [IntKind.wrap_i64]; omega
                  have et : ((j : Int) / sc).tmod 250 = mk sc j := Int.tmod_eq_emod_of_nonneg hq0
                  have ew : IntKind.u8.wrap (mk sc j) = mk sc j := by rw [IntKind.wrap_u8]; omega
                  have hs0 : (sc == 0) = false := by simp; omega
                  have hs1 : ¬ sc = 0 := by omega
                  have hbn : (mk sc j != mk sc j) = false := by simp
                  go_wp2_with fail
                  go_quiet (fail)
                  go_wp2_with fail
                  go_roundw
                  case rel => exact ⟨x + 1, by go_num, by rw [← HKJ.out.1]; simp only; have := HKJ.out.2.2.2; omega, hK6.drewN nq, hF6.drewN nq⟩
                  case measure => rw [← HKJ.out.1]; have := HKJ.out.2.2.2; simp [intOf]; omega
                · go_wp2_with fail
                  go_roundw
                  case rel => exact ⟨j + 1, by go_num, by omega, hK6, hF6⟩
                  case measure => simp [intOf]; omega
            · go_wp2_with fail
              go_roundw
              case rel => exact ⟨sc * 250, T + 5000, ks2, rfl, by omega, by omega, by omega, HL2.out, hK5, hF5⟩
              case measure => simp [intOf]; omega
    · go_wp2_with fail
      go_ret
      exact ⟨rfl, hF1⟩
end Go.Proofs.Ythggicgbcgeggaa
