/- Walks: the document's own reader: the same plain functions as the program's. -/
import Derived.Test.YthggicgbcgeggaaV15
import Derived.Deep.RegionHeld3
set_option linter.unusedVariables false
set_option linter.unusedSimpArgs false
namespace Go.Proofs.Ythggicgbcgeggaa
open Go.RowKit
/-- the document's reader: its three cells -/
def QD (w : World) (g : Nat) (s : Value) (p b : Int) : Prop := w.heap[g]? = some (.cells #[s, .int .i64 p, .int .i64 b] 56 (0, 0))
theorem QD.c0 {w : World} {g : Nat} {s : Value} {p b : Int} (h : QD w g s p b) : w.cell? ⟨g, 0, none⟩ = some s := blk_cell h 0 rfl
theorem QD.c1 {w : World} {g : Nat} {s : Value} {p b : Int} (h : QD w g s p b) : w.cell? ⟨g, 1, none⟩ = some (.int .i64 p) := blk_cell h 1 rfl
theorem QD.c2 {w : World} {g : Nat} {s : Value} {p b : Int} (h : QD w g s p b) : w.cell? ⟨g, 2, none⟩ = some (.int .i64 b) := blk_cell h 2 rfl
structure QS (w : World) (g : Nat) (A : Option Addr) (n c : Nat) (l : List Int) (p : Nat) (b : Int) : Prop where
  rd : QD w g (.slice A n c) p b
  rb : RB w A n l
  hc : n ≤ c
  hp : p ≤ n
theorem three_no {A : Option Addr} {n c : Nat} {p b : Int} : ∀ (i : Nat) (x : Int), (#[Value.slice A n c, .int .i64 p, .int .i64 b] : Array Value)[i]? ≠ some (Value.int .u8 x) := by
  intro i x h
  rcases i with _ | _ | _ | i <;> simp at h
theorem qs_of {w w' : World} {g : Nat} {A : Option Addr} {n c : Nat} {l : List Int} {p p' : Nat} {b b' : Int} (h : QS w g A n c l p b) (hp' : p' ≤ n) (hr : QD w' g (.slice A n c) p' b') (hg : w.grownBy w' (some g)) : QS w' g A n c l p' b' :=
  ⟨hr, h.rb.keepRow h.rd three_no hg, h.hc, hp'⟩
theorem QS.drewN {w : World} {g : Nat} {A : Option Addr} {n c : Nat} {l : List Int} {p : Nat} {b : Int} (h : QS w g A n c l p b) (k : Nat) : QS (w.drewN k) g A n c l p b := ⟨h.rd, h.rb.drewN k, h.hc, h.hp⟩
theorem QD.below {w w' : World} {g : Nat} {s : Value} {p b : Int} (h : QD w g s p b) (hb : Below w.heap.size w w') : QD w' g s p b := by
  unfold QD; rw [hb.block g (lt_of_block h)]; exact h
theorem QS.below {w w' : World} {g : Nat} {A : Option Addr} {n c : Nat} {l : List Int} {p : Nat} {b : Int} (h : QS w g A n c l p b) (hb : Below w.heap.size w w') : QS w' g A n c l p b := ⟨h.rd.below hb, h.rb.below hb, h.hc, h.hp⟩
theorem RB.drew {w : World} {A : Option Addr} {n : Nat} {l : List Int} (h : RB w A n l) : RB w.drew A n l := ⟨h.len, h.top, h.cell, h.rng⟩
theorem grown_refl (w : World) (r : Option Nat) : w.grownBy w r := ⟨rfl, rfl, rfl, Nat.le_refl _, fun _ _ _ => rfl⟩
theorem RB_end (W : World) (A : Option Addr) {n p : Nat} {l : List Int} (hl : l.length = n) (hp : p = n) : RB W A (n - p) (l.drop p) := by
  rw [hp, Nat.sub_self, List.drop_eq_nil_of_le (by rw [hl]; exact Nat.le_refl _)]
  exact ⟨rfl, by omega, fun j hj => by omega, BY.nth (fun x hx => by simp at hx)⟩
set_option maxHeartbeats 1000000 in
theorem qvarint_any (g : Nat) (A : Option Addr) (n c : Nat) (l : List Int) (p : Nat) (b most : Int) (w : World) (h : QS w g A n c l p b) :
    Calls Try.prog 88 #[.pointer (some ⟨g, 0, none⟩), .int .u64 most] w fun e w' => e = .returned (.int .u64 (rdN l p b most).1) ∧ QS w' g A n c l (rdN l p b most).2.1 (rdN l p b most).2.2 ∧ w.grownBy w' (some g) := by
  by_cases hb0 : b = 0
  · subst hb0
    have c0 := h.rd.c0
    have c1 := h.rd.c1
    have c2 := h.rd.c2
    have f1 := blk_free h.rd 1
    have f2 := blk_free h.rd 2
    have H := Lib.hid h
    have p0 : (0 : Int) ≤ (p : Int) := Int.natCast_nonneg _
    have p1 : (p : Int) ≤ (n : Int) := by have := h.hp; omega
    have p3 : (n : Int) ≤ (c : Int) := by have := h.hc; omega
    have p2 : (p : Int) ≤ (c : Int) := by omega
    have hll := h.rb.len
    have HL := Lib.hid hll
    have ht := h.rb.top
    obtain ⟨x, j, e, hv, hxj⟩ : ∃ x j e, rvI (l.drop p) = (x, j, e) ∧ (e = 0 → 0 ≤ j ∧ (p : Int) + j ≤ n) := by
      rcases rvI_cases (l.drop p) (by_drop h.rb.by_ p) with h' | ⟨x, j, h', _, _, _, _, h''⟩
      · rcases h' with h' | h' <;> exact ⟨_, _, _, h', by omega⟩
      · rw [List.length_drop] at h''; exact ⟨_, _, _, h', by omega⟩
    have HJ := Lib.hid hxj
    have HV := Lib.hid hv
    have HC : Hid (∀ W A' c', RB W A' (n - p) (l.drop p) → Calls Try.prog 23 #[.slice A' (n - p) c'] W fun e' w' => e' = .returned (.tuple #[.int .u64 x, .int .i64 j, .int .i64 e]) ∧ w' = W) := by
      refine Lib.hid ?_
      intro W A' c' hr
      refine (rread_any A' _ c' _ W hr).mono ?_
      rw [hv]
      rintro e' w' ⟨rfl, rfl⟩
      exact ⟨rfl, rfl⟩
    have HG : Hid (∀ k i v, w.grownBy ((w.drewN k).setCell ⟨g, i, none⟩ v) (some g)) := Lib.hid fun k i v => (grown_drewN (grown_refl _ _) k).trans (grown_setCell i v)
    have HRB : Hid (∀ k, (p = n → ∀ A', RB (w.drewN k) A' (n - p) (l.drop p)) ∧ (p < n → ∃ ad, A = some ad ∧ RB (w.drewN k) (some (ad.add p)) (n - p) (l.drop p))) := by
      refine Lib.hid ?_
      intro k
      refine ⟨fun e A' => RB_end _ _ HL.out e, fun hlt => ?_⟩
      obtain ⟨ad, rfl, -⟩ := h.rb.cell p hlt
      have hs := h.rb.sub p (n - p) (by omega)
      rw [List.take_of_length_le (by rw [List.length_drop, h.rb.len]; omega)] at hs
      exact ⟨ad, rfl, hs.drewN k⟩
    have HE := Lib.hid (show rdN l p 0 most = if e ≠ 0 then (0, p, e) else if most < x then (0, p, 3) else (x, p + j.toNat, 0) by simp only [rdN, HV.out]; simp)
    clear hll hxj hv h
    by_cases hd : e = 0
    · subst hd
      obtain ⟨j0, j1⟩ := HJ.out rfl
      by_cases hm : most < x
      · have hr := Lib.hid (show rdN l p 0 most = (0, p, 3) by rw [HE.out]; simp [hm])
        by_cases hcp : c = p
        · have h1 := H.out.hc
          have h2 := H.out.hp
          obtain rfl : n = c := by omega
          obtain rfl : p = n := by omega
          have hc0 := HC.out
          have hrb0 : ∀ k A', RB (w.drewN k) A' (p - p) (l.drop p) := fun k A' => (HRB.out k).1 rfl A'
          rw [Nat.sub_self] at hc0 hrb0
          have HC0 := Lib.hid hc0
          have HRB0 := Lib.hid hrb0
          clear hcp h1 h2 hc0 hrb0
          go_enter Try.func88, Try.ntmps88
          go_wp2_with fail
          go_quiet ((go_at_call 23; exact Calls.quiet_of_same (HC0.out _ _ _ (HRB0.out _ _))))
          go_wp2_with fail
          go_ret
          refine ⟨by rw [hr.out]; rfl, ?_, HG.out _ _ _⟩
          rw [hr.out]
          exact qs_of H.out H.out.hp (blk_set H.out.rd 2 _) (HG.out _ _ _)
        · by_cases hpn : p = n
          · have HN := Lib.hid hpn
            clear hpn
            go_enter Try.func88, Try.ntmps88
            go_wp2_with fail
            go_quiet ((go_at_call 23; exact Calls.quiet_of_same (HC.out _ _ _ ((HRB.out _).1 HN.out _))))
            go_wp2_with fail
            go_ret
            refine ⟨by rw [hr.out]; rfl, ?_, HG.out _ _ _⟩
            rw [hr.out]
            exact qs_of H.out H.out.hp (blk_set H.out.rd 2 _) (HG.out _ _ _)
          · have hlt := H.out.hp
            obtain ⟨ad, rfl, -⟩ := (HRB.out 0).2 (by omega)
            have HS : Hid (∀ k, RB (w.drewN k) (some (ad.add p)) (n - p) (l.drop p)) := by
              refine Lib.hid fun k => ?_
              obtain ⟨ad', h1, h2⟩ := (HRB.out k).2 (by omega)
              injection h1 with h1
              subst h1
              exact h2
            clear hpn
            go_enter Try.func88, Try.ntmps88
            go_wp2_with fail
            go_quiet ((go_at_call 23; exact Calls.quiet_of_same (HC.out _ _ _ (HS.out _))))
            go_wp2_with fail
            go_ret
            refine ⟨by rw [hr.out]; rfl, ?_, HG.out _ _ _⟩
            rw [hr.out]
            exact qs_of H.out H.out.hp (blk_set H.out.rd 2 _) (HG.out _ _ _)
      · have hr := Lib.hid (show rdN l p 0 most = (x, p + j.toNat, 0) by rw [HE.out]; simp [hm])
        by_cases hcp : c = p
        · have h1 := H.out.hc
          have h2 := H.out.hp
          obtain rfl : n = c := by omega
          obtain rfl : p = n := by omega
          have hc0 := HC.out
          have hrb0 : ∀ k A', RB (w.drewN k) A' (p - p) (l.drop p) := fun k A' => (HRB.out k).1 rfl A'
          rw [Nat.sub_self] at hc0 hrb0
          have HC0 := Lib.hid hc0
          have HRB0 := Lib.hid hrb0
          clear hcp h1 h2 hc0 hrb0
          go_enter Try.func88, Try.ntmps88
          go_wp2_with fail
          go_quiet ((go_at_call 23; exact Calls.quiet_of_same (HC0.out _ _ _ (HRB0.out _ _))))
          go_wp2_with fail
          go_ret
          refine ⟨by rw [hr.out]; rfl, ?_, HG.out _ _ _⟩
          rw [hr.out]
          have hq := blk_set H.out.rd 1 (.int .i64 ((p : Int) + j))
          exact qs_of H.out (by simp only; omega) (by rw [show ((p + j.toNat : Nat) : Int) = (p : Int) + j by omega]; exact hq) (HG.out _ _ _)
        · by_cases hpn : p = n
          · have HN := Lib.hid hpn
            clear hpn
            go_enter Try.func88, Try.ntmps88
            go_wp2_with fail
            go_quiet ((go_at_call 23; exact Calls.quiet_of_same (HC.out _ _ _ ((HRB.out _).1 HN.out _))))
            go_wp2_with fail
            go_ret
            refine ⟨by rw [hr.out]; rfl, ?_, HG.out _ _ _⟩
            rw [hr.out]
            have hq := blk_set H.out.rd 1 (.int .i64 ((p : Int) + j))
            exact qs_of H.out (by simp only; omega) (by rw [show ((p + j.toNat : Nat) : Int) = (p : Int) + j by omega]; exact hq) (HG.out _ _ _)
          · have hlt := H.out.hp
            obtain ⟨ad, rfl, -⟩ := (HRB.out 0).2 (by omega)
            have HS : Hid (∀ k, RB (w.drewN k) (some (ad.add p)) (n - p) (l.drop p)) := by
              refine Lib.hid fun k => ?_
              obtain ⟨ad', h1, h2⟩ := (HRB.out k).2 (by omega)
              injection h1 with h1
              subst h1
              exact h2
            clear hpn
            go_enter Try.func88, Try.ntmps88
            go_wp2_with fail
            go_quiet ((go_at_call 23; exact Calls.quiet_of_same (HC.out _ _ _ (HS.out _))))
            go_wp2_with fail
            go_ret
            refine ⟨by rw [hr.out]; rfl, ?_, HG.out _ _ _⟩
            rw [hr.out]
            have hq := blk_set H.out.rd 1 (.int .i64 ((p : Int) + j))
            exact qs_of H.out (by simp only; omega) (by rw [show ((p + j.toNat : Nat) : Int) = (p : Int) + j by omega]; exact hq) (HG.out _ _ _)
    · have hr := Lib.hid (show rdN l p 0 most = (0, p, e) by rw [HE.out]; simp [hd])
      have d1 : (e == 0) = false := by simpa using hd
      have d2 : (e != 0) = true := by simpa using hd
      clear hd
      by_cases hcp : c = p
      · have h1 := H.out.hc
        have h2 := H.out.hp
        obtain rfl : n = c := by omega
        obtain rfl : p = n := by omega
        have hc0 := HC.out
        have hrb0 : ∀ k A', RB (w.drewN k) A' (p - p) (l.drop p) := fun k A' => (HRB.out k).1 rfl A'
        rw [Nat.sub_self] at hc0 hrb0
        have HC0 := Lib.hid hc0
        have HRB0 := Lib.hid hrb0
        clear hcp h1 h2 hc0 hrb0
        go_enter Try.func88, Try.ntmps88
        go_wp2_with fail
        go_quiet ((go_at_call 23; exact Calls.quiet_of_same (HC0.out _ _ _ (HRB0.out _ _))))
        go_wp2_with fail
        go_ret
        refine ⟨by rw [hr.out]; rfl, ?_, HG.out _ _ _⟩
        rw [hr.out]
        exact qs_of H.out H.out.hp (blk_set H.out.rd 2 _) (HG.out _ _ _)
      · by_cases hpn : p = n
        · have HN := Lib.hid hpn
          clear hpn
          go_enter Try.func88, Try.ntmps88
          go_wp2_with fail
          go_quiet ((go_at_call 23; exact Calls.quiet_of_same (HC.out _ _ _ ((HRB.out _).1 HN.out _))))
          go_wp2_with fail
          go_ret
          refine ⟨by rw [hr.out]; rfl, ?_, HG.out _ _ _⟩
          rw [hr.out]
          exact qs_of H.out H.out.hp (blk_set H.out.rd 2 _) (HG.out _ _ _)
        · have hlt := H.out.hp
          obtain ⟨ad, rfl, -⟩ := (HRB.out 0).2 (by omega)
          have HS : Hid (∀ k, RB (w.drewN k) (some (ad.add p)) (n - p) (l.drop p)) := by
            refine Lib.hid fun k => ?_
            obtain ⟨ad', h1, h2⟩ := (HRB.out k).2 (by omega)
            injection h1 with h1
            subst h1
            exact h2
          clear hpn
          go_enter Try.func88, Try.ntmps88
          go_wp2_with fail
          go_quiet ((go_at_call 23; exact Calls.quiet_of_same (HC.out _ _ _ (HS.out _))))
          go_wp2_with fail
          go_ret
          refine ⟨by rw [hr.out]; rfl, ?_, HG.out _ _ _⟩
          rw [hr.out]
          exact qs_of H.out H.out.hp (blk_set H.out.rd 2 _) (HG.out _ _ _)
  · have hr : rdN l p b most = (0, p, b) := by simp [rdN, hb0]
    have hd : (b != 0) = true := by simpa using hb0
    have c2 := h.rd.c2
    rw [hr]
    clear hb0
    go_enter Try.func88, Try.ntmps88
    go_wp2_with fail
    go_ret
    exact ⟨rfl, h, grown_refl _ _⟩
theorem lo_cons (l : List Int) : ∀ k, lo l (k + 1) = nth l 0 + 256 * lo (l.drop 1) k
  | 0 => by simp [lo]
  | k + 1 => by
    have ih := lo_cons l k
    have e : (2 : Int) ^ (8 * (k + 1)) = 256 * 2 ^ (8 * k) := by rw [Nat.mul_add, Int.pow_add, Int.mul_comm]; rfl
    have e2 : nth (l.drop 1) k = nth l (k + 1) := by
      unfold nth; rw [List.getD_eq_getElem?_getD, List.getD_eq_getElem?_getD, List.getElem?_drop, Nat.add_comm]
    show lo l (k + 1) + nth l (k + 1) * 2 ^ (8 * (k + 1)) = nth l 0 + 256 * (lo (l.drop 1) k + nth (l.drop 1) k * 2 ^ (8 * k))
    rw [ih, e, e2, Int.mul_add, ← Int.mul_assoc, ← Int.mul_assoc, Int.mul_comm (nth l (k + 1)) 256, Int.add_assoc]
theorem lo_take (l : List Int) (m : Nat) : ∀ k, k ≤ m → lo (l.take m) k = lo l k
  | 0, _ => rfl
  | k + 1, h => by
    have : nth (l.take m) k = nth l k := by unfold nth; rw [List.getD_eq_getElem?_getD, List.getD_eq_getElem?_getD, List.getElem?_take_of_lt h]
    simp only [lo]; rw [lo_take l m k (by omega), this]
theorem nth_drop0 (l : List Int) (t : Nat) : nth (l.drop t) 0 = nth l t := by
  unfold nth; rw [List.getD_eq_getElem?_getD, List.getD_eq_getElem?_getD, List.getElem?_drop, Nat.add_zero]
set_option maxHeartbeats 1000000 in
theorem number_all (A : Option Addr) (m c : Nat) (l : List Int) (w : World) (hl : RB w A m l) (hm : m ≤ 8) :
    Calls Try.prog 113 #[.slice A m c] w fun e w' => e = .returned (.int .u64 (lo l m)) ∧ w' = w := by
  have hb := hl.by_
  have HB := Lib.hid hb
  clear hb
  go_enter Try.func113, Try.ntmps113
  go_wp2_with fail
  go_loopw [3, 4] (fun s i wr => ∃ (t : Nat) (z iv : Int), i = .int .i64 iv ∧ Hid (iv = (t : Int) - 1) ∧ t ≤ m ∧ s = .int .u64 z ∧ Hid (z = lo (l.drop t) (m - t)) ∧ w = wr) (fun _ i _ => (intOf i + 1).toNat)
  case atStart => exact ⟨m, 0, _, rfl, by first | rfl | simp, Nat.le_refl _, rfl, by rw [Nat.sub_self]; rfl, rfl⟩
  case round =>
    obtain ⟨t, z, iv, rfl, HI, ht, rfl, HZ, rfl⟩ := hrel
    by_cases h0 : t = 0
    · have hlt : iv < 0 := by have := HI.out; omega
      have hr := Lib.hid (show z = lo l m by rw [HZ.out, h0]; rfl)
      clear h0
      go_wp2_with fail
      go_ret
      exact ⟨by rw [hr.out]; rfl, rfl⟩
    · obtain ⟨s, rfl⟩ : ∃ s, t = s + 1 := ⟨t - 1, by omega⟩
      obtain rfl : iv = (s : Int) := by have := HI.out; omega
      obtain ⟨ad, rfl, hc⟩ := hl.cell s (by omega)
      obtain ⟨x0, x1⟩ := hl.rng s
      have i0 : (0 : Int) ≤ (s : Int) := by omega
      have i1 : (s : Int) < (m : Int) := by omega
      have hstep : lo (l.drop s) (m - s) = nth l s + 256 * z := by
        rw [HZ.out, show m - s = (m - (s + 1)) + 1 by omega, lo_cons, nth_drop0, List.drop_drop]
      obtain ⟨g0, g1⟩ := lo_top (by_drop HB.out s) (m - s) (by omega)
      obtain ⟨y0, y1⟩ := lo_top (by_drop HB.out (s + 1)) (m - (s + 1)) (by omega)
      rw [← HZ.out] at y0 y1
      rw [hstep] at g0 g1
      have e1 : IntKind.u64.wrap (z * 256) = z * 256 := wrap_u64 _ (by omega) (by omega)
      have e3 : IntKind.u64.wrap (nth l s) = nth l s := wrap_u64 _ (by omega) (by omega)
      have e2 : IntKind.u64.wrap (z * 256 + nth l s) = z * 256 + nth l s := wrap_u64 _ (by omega) (by omega)
      have HS := Lib.hid hstep
      have HE2 := Lib.hid e2
      clear hstep h0 g0 g1
      go_wp2_with fail
      go_roundw
      case rel => exact ⟨s, _, _, rfl, rfl, by omega, rfl, Lib.hid (by rw [HS.out]; first | omega | (rw [HE2.out]; omega)), trivial⟩
      case measure => first | (simp [intOf]; done) | (simp [intOf]; omega)
set_option maxHeartbeats 1000000 in
theorem place_any (g : Nat) (A : Option Addr) (n c : Nat) (l : List Int) (p : Nat) (b : Int) (w : World) (h : QS w g A n c l p b) :
    Calls Try.prog 45 #[.pointer (some ⟨g, 0, none⟩)] w fun e w' => e = .returned (.tuple #[.int .i64 (erI p b).1, .int .i64 (erI p b).2]) ∧ ∃ k, w' = w.drewN k := by
  have c1 := h.rd.c1
  have c2 := h.rd.c2
  by_cases hb : b = 0
  · subst hb
    have he : erI p 0 = (0, 0) := by simp [erI]
    rw [he]
    go_enter Try.func45, Try.ntmps45
    go_wp2_with fail
    go_ret2
    exact ⟨rfl, 0, rfl⟩
  · have he : erI p b = ((p : Int), b) := by simp [erI, hb]
    rw [he]
    have hd : (b == 0) = false := by simpa using hb
    clear hb
    go_enter Try.func45, Try.ntmps45
    go_wp2_with fail
    go_quiet (fail)
    go_wp2_with fail
    go_ret2
    exact ⟨rfl, nq, rfl⟩
set_option maxHeartbeats 400000 in
theorem qsigned_any (g : Nat) (A : Option Addr) (n c : Nat) (l : List Int) (p : Nat) (b : Int) (w : World) (h : QS w g A n c l p b) :
    Calls Try.prog 89 #[.pointer (some ⟨g, 0, none⟩)] w fun e w' => e = .returned (.int .i64 (zagI (rdN l p b 18446744073709551615).1)) ∧ QS w' g A n c l (rdN l p b 18446744073709551615).2.1 (rdN l p b 18446744073709551615).2.2 ∧ w.grownBy w' (some g) := by
  have hr : 0 ≤ (rdN l p b 18446744073709551615).1 ∧ (rdN l p b 18446744073709551615).1 < 18446744073709551616 := by
    rcases rdN_cases l h.rb.by_ p (by rw [h.rb.len]; exact h.hp) b 18446744073709551615 with ⟨y, j, _, _, _, _, h5, h6, h1⟩ | ⟨e, he, h1, _⟩
    · rw [h1]; exact ⟨h5, h6⟩
    · rw [h1]; simp
  obtain ⟨r, hrr⟩ : ∃ r, r = rdN l p b 18446744073709551615 := ⟨_, rfl⟩
  rw [← hrr] at hr ⊢
  have HR := Lib.hid hrr
  have HB := Lib.hid hr
  clear hrr hr
  go_enter Try.func89, Try.ntmps89
  go_wp2_with (first
    | (go_at_call 88; refine (qvarint_any g A n c l p b 18446744073709551615 _ h).mono ?_; rw [← HR.out]; rintro e w1 ⟨rfl, hs1, hg1⟩)
    | (go_at_call 38; refine (rzag_any r.1 HB.out.1 HB.out.2 _).mono ?_; rintro e w2 ⟨rfl, rfl⟩))
  go_ret
  exact ⟨rfl, hs1, hg1⟩
set_option maxHeartbeats 1000000 in
theorem take_stop (g : Nat) (A : Option Addr) (n c : Nat) (l : List Int) (p : Nat) (b x : Int) (sz : Nat) (w : World) (h : QS w g A n c l p b) (hx : x ≠ 0) (hd : rdL l p b sz = (0, p, x)) :
    Calls Try.prog 118 #[.pointer (some ⟨g, 0, none⟩), .int .i64 sz] w fun e w' => e = .returned (.tuple #[.slice none 0 0, .bool false]) ∧ QS w' g A n c l p x ∧ w.grownBy w' (some g) := by
  have c0 := h.rd.c0
  have c1 := h.rd.c1
  have c2 := h.rd.c2
  have f2 := blk_free h.rd 2
  have H := Lib.hid h
  rcases rdL_cases l p b sz with ⟨_, _, h1⟩ | ⟨e, he, h1, h2⟩
  · rw [hd] at h1
    injection h1 with _ h1
    injection h1 with _ h1
    exact absurd h1 hx
  · rw [hd] at h1
    injection h1 with _ h1
    injection h1 with _ h1
    subst h1
    clear hd he
    rcases h2 with rfl | ⟨rfl, rfl, h2⟩
    · have hd : (b != 0) = true := by simpa using hx
      clear hx
      go_enter Try.func118, Try.ntmps118
      go_wp2_with fail
      go_ret2
      exact ⟨rfl, h, grown_refl _ _⟩
    · rw [h.rb.len] at h2
      have hp := h.hp
      have ht := h.rb.top
      have hw : IntKind.i64.wrap ((n : Int) - p) = (n : Int) - p := by rw [IntKind.wrap_i64]; omega
      have hlt : (n : Int) - p < (sz : Int) := by omega
      go_enter Try.func118, Try.ntmps118
      go_wp2_with fail
      go_quiet (fail)
      go_wp2_with fail
      go_ret2
      have hg := (grown_drewN (grown_refl w (some g)) nq).trans (grown_setCell (g := g) 2 (.int .i64 2))
      exact ⟨rfl, qs_of H.out H.out.hp (blk_set H.out.rd 2 _) hg, hg⟩
set_option maxHeartbeats 1000000 in
theorem take_ok (g : Nat) (A : Option Addr) (n c : Nat) (l : List Int) (p : Nat) (sz : Nat) (w : World) (h : QS w g A n c l p 0) (h0 : 0 < sz) (hs : sz ≤ n - p) :
    Calls Try.prog 118 #[.pointer (some ⟨g, 0, none⟩), .int .i64 sz] w fun e w' => ∃ A' c', e = .returned (.tuple #[.slice A' sz c', .bool true]) ∧ RB w' A' sz ((l.drop p).take sz) ∧ QS w' g A n c l (p + sz) 0 ∧ w.grownBy w' (some g) := by
  have c0 := h.rd.c0
  have c1 := h.rd.c1
  have c2 := h.rd.c2
  have f1 := blk_free h.rd 1
  have hp := h.hp
  have hc := h.hc
  have ht := h.rb.top
  obtain ⟨ad, rfl, -⟩ := h.rb.cell p (by omega)
  have hsub := h.rb.sub p sz (by omega)
  have H := Lib.hid (And.intro h hsub)
  have hw : IntKind.i64.wrap ((n : Int) - p) = (n : Int) - p := by rw [IntKind.wrap_i64]; omega
  have hw2 : IntKind.i64.wrap ((p : Int) + sz) = (p : Int) + sz := by rw [IntKind.wrap_i64]; omega
  have hge : ¬ (n : Int) - p < (sz : Int) := by omega
  have p0 : (0 : Int) ≤ (p : Int) := Int.natCast_nonneg _
  have p1 : (p : Int) ≤ (p : Int) + sz := by omega
  have p2 : (p : Int) + sz ≤ (c : Int) := by omega
  have p3 : (0 : Int) ≤ (p : Int) + sz := by omega
  have p4 : (p : Int) ≤ (c : Int) := by omega
  have hcp : ¬ c = p := by omega
  have hns : ((p : Int) + sz).toNat - p = sz := by omega
  clear h hsub
  go_enter Try.func118, Try.ntmps118
  go_wp2_with fail
  go_quiet (fail)
  go_wp2_with fail
  go_quiet (fail)
  go_wp2_with fail
  go_ret2
  first
    | exact ⟨_, _, rfl, ⟨H.out.2.len, H.out.2.top, ((H.out.2.drewN _).keepRow (H.out.1.drewN _).rd three_no (grown_setCell 1 _)).cell, H.out.2.rng⟩, qs_of H.out.1 (by omega) (by have hq := blk_set H.out.1.rd 1 (.int .i64 ((p : Int) + sz)); rw [show ((p + sz : Nat) : Int) = (p : Int) + sz by omega]; exact hq) ((grown_drewN (grown_refl _ _) _).trans (grown_setCell 1 _)), (grown_drewN (grown_refl _ _) _).trans (grown_setCell 1 _)⟩
    | exact ⟨_, _, rfl, ⟨H.out.2.len, H.out.2.top, (((H.out.2.drewN _).drewN _).keepRow ((H.out.1.drewN _).drewN _).rd three_no (grown_setCell 1 _)).cell, H.out.2.rng⟩, qs_of H.out.1 (by omega) (by have hq := blk_set H.out.1.rd 1 (.int .i64 ((p : Int) + sz)); rw [show ((p + sz : Nat) : Int) = (p : Int) + sz by omega]; exact hq) ((grown_drewN (grown_drewN (grown_refl _ _) _) _).trans (grown_setCell 1 _)), (grown_drewN (grown_drewN (grown_refl _ _) _) _).trans (grown_setCell 1 _)⟩
theorem lo_drop_take (l : List Int) (p sz : Nat) : lo ((l.drop p).take sz) sz = lo (l.drop p) sz := lo_take _ _ _ (Nat.le_refl _)
set_option maxHeartbeats 400000 in
theorem qfixed_any (g : Nat) (A : Option Addr) (n c : Nat) (l : List Int) (p : Nat) (b : Int) (sz : Nat) (w : World) (h : QS w g A n c l p b) (h0 : 0 < sz) (h8 : sz ≤ 8) :
    Calls Try.prog 90 #[.pointer (some ⟨g, 0, none⟩), .int .i64 sz] w fun e w' => e = .returned (.int .u64 (rdL l p b sz).1) ∧ QS w' g A n c l (rdL l p b sz).2.1 (rdL l p b sz).2.2 ∧ w.grownBy w' (some g) := by
  rcases rdL_cases l p b sz with ⟨rfl, h2, h1⟩ | ⟨e, he, h1, _⟩
  · rw [h.rb.len] at h2
    rw [h1]
    have HE := Lib.hid (lo_drop_take l p sz)
    go_enter Try.func90, Try.ntmps90
    go_wp2_with (first
      | (go_at_call 118; refine (take_ok g A n c l p sz _ h h0 h2).mono ?_; rintro e w1 ⟨A', c', rfl, hb1, hs1, hg1⟩)
      | (go_at_call 113; refine (number_all A' sz c' _ _ hb1 h8).mono ?_; rw [HE.out]; rintro e w2 ⟨rfl, rfl⟩))
    go_ret
    exact ⟨rfl, hs1, hg1⟩
  · have HD := Lib.hid h1
    rw [h1]
    clear h1
    go_enter Try.func90, Try.ntmps90
    go_wp2_with (go_at_call 118; refine (take_stop g A n c l p b e sz _ h he HD.out).mono ?_; rintro e w1 ⟨rfl, hs1, hg1⟩)
    go_ret
    exact ⟨rfl, hs1, hg1⟩
end Go.Proofs.Ythggicgbcgeggaa
