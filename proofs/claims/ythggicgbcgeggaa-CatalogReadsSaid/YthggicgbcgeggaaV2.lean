/- Walks: wire.Varint and its document's twin write vb; ReadString and its twin read rsI. -/
import Derived.Test.YthggicgbcgeggaaV1
set_option linter.unusedVariables false
set_option linter.unusedSimpArgs false
namespace Go.Proofs.Ythggicgbcgeggaa
open Go.RowKit
theorem info5 : (Try.prog.info? 5).map (fun i => (i.zero, i.size, i.bytes)) = some (some (.int .u8 0), 1, 1) := by kernel_rfl
theorem below_alloc1 (w : World) (o : Obj) : Below w.heap.size w (w.alloc o) := (Below.refl _ _).alloc (Nat.le_refl _) _
theorem below_step {w a b : World} (h : Below w.heap.size w a) (k : Below a.heap.size a b) : Below w.heap.size w b := h.trans (k.mono h.size)
/-- the form of a number, at most f bytes ahead of the last one -/
def vbf : Nat → Nat → List Int
  | 0, n => [(n : Int)]
  | f + 1, n => if n < 128 then [(n : Int)] else ((n % 128 + 128 : Nat) : Int) :: vbf f (n / 128)
def vb (n : Nat) : List Int := vbf 9 n
theorem vbf_len : ∀ f n, 1 ≤ (vbf f n).length ∧ (vbf f n).length ≤ f + 1
  | 0, n => by simp [vbf]
  | f + 1, n => by
    unfold vbf
    split
    · simp
    · have := vbf_len f (n / 128); simp; omega
theorem vbf_by : ∀ f n, n * 128 ^ (9 - f) < 2 ^ 64 → f ≤ 9 → BY (vbf f n)
  | 0, n, h, _ => by
    intro x hx
    simp [vbf] at hx h
    omega
  | f + 1, n, h, hf => by
    unfold vbf
    split
    · intro x hx; simp at hx; omega
    · have h2 : n / 128 * 128 ^ (9 - f) < 2 ^ 64 := by
        have e : 9 - f = (9 - (f + 1)) + 1 := by omega
        rw [e, Nat.pow_succ, Nat.mul_comm (128 ^ _), ← Nat.mul_assoc]
        exact Nat.lt_of_le_of_lt (Nat.mul_le_mul_right _ (Nat.div_mul_le_self n 128)) h
      intro x hx
      rcases List.mem_cons.1 hx with rfl | hx
      · omega
      · exact vbf_by f _ h2 (by omega) x hx
theorem vb_by (n : Nat) (h : n < 2 ^ 64) : BY (vb n) := vbf_by 9 n (by simpa using h) (by omega)
theorem vb_len (n : Nat) : 1 ≤ (vb n).length ∧ (vb n).length ≤ 10 := vbf_len 9 n
theorem vb_step {m f : Nat} (hf : f ≤ 9) (h : m * 128 ^ (9 - f) < 2 ^ 64) (h2 : 128 ≤ m) : ∃ f', f = f' + 1 ∧ vbf f m = ((m % 128 + 128 : Nat) : Int) :: vbf f' (m / 128) ∧ m / 128 * 128 ^ (9 - f') < 2 ^ 64 := by
  cases f with
  | zero => simp at h; omega
  | succ f =>
    refine ⟨f, rfl, by rw [vbf, if_neg (by omega)], ?_⟩
    have e : 9 - f = (9 - (f + 1)) + 1 := by omega
    rw [e, Nat.pow_succ, Nat.mul_comm (128 ^ _), ← Nat.mul_assoc]
    exact Nat.lt_of_le_of_lt (Nat.mul_le_mul_right _ (Nat.div_mul_le_self m 128)) h
theorem vb_last {m f : Nat} (h : m < 128) : vbf f m = [(m : Int)] := by
  cases f with
  | zero => rfl
  | succ f => rw [vbf, if_pos h]
theorem or128 (x : Int) (h0 : 0 ≤ x) : bits .or .u8 (x % 256) 128 = x % 128 + 128 := by
  have : ∀ a : Fin 256, bits .or .u8 (a.val : Int) 128 = (a.val : Int) % 128 + 128 := by decide +kernel
  have h := this ⟨(x % 256).toNat, by omega⟩
  have e : (((x % 256).toNat : Nat) : Int) = x % 256 := by omega
  simp only [e] at h
  rw [h]
  omega
theorem by_one (x : Int) (h0 : 0 ≤ x) (h : x ≤ 255) : BY [x] := by intro y hy; simp at hy; omega
set_option maxHeartbeats 1000000 in
theorem varint_any (n : Int) (n0 : 0 ≤ n) (hn : n < 18446744073709551616) (w : World) :
    Calls Try.prog 28 #[.int .u64 n] w fun e w' => ∃ v, e = .returned v ∧ OB 5 w' w.heap.size v (vb n.toNat) ∧ Below w.heap.size w w' := by
  have HN := Lib.hid (And.intro n0 hn)
  clear n0 hn
  go_enter Try.func28, Try.ntmps28
  go_wp2_with fail
  go_loopw [0, 3] (fun x b wr => ∃ (z : Int) (m f : Nat) (pre : List Int) (bv : Value), bv = b ∧ x = .int .u64 z ∧ Hid (z = m ∧ pre.length + f = 9 ∧ m * 128 ^ (9 - f) < 2 ^ 64) ∧ Hid (vb n.toNat = pre ++ vbf f m) ∧ OB 5 wr w.heap.size b pre ∧ Below w.heap.size w wr) (fun x _ _ => (intOf x).toNat)
  case atStart => exact ⟨n, n.toNat, 9, [], _, rfl, rfl, ⟨by have := HN.out; omega, rfl, by have := HN.out; simp; omega⟩, rfl, OB.nil _ _ _, Below.refl _ _⟩
  case round =>
    obtain ⟨z, m, f, pre, b, rfl, rfl, HM, HV, hown, hw⟩ := hrel
    have hz : 0 ≤ z := by have := HM.out; omega
    by_cases hlt : 128 ≤ z
    · have HO := or128 z hz
      have hb1 := by_one (z % 128 + 128) (by omega) (by omega)
      go_wp2_with (at_builtin; (refine wpList_append_by (w0 := w) rfl w.heap.size (.tmp 6) (.tmp 10) 25 5 rfl Try.underlying25 info5 b pre rfl (hown.below (below_alloc1 _ _)) (some ⟨wr.heap.size, 0, none⟩) 1 1 [z % 128 + 128] rfl (RB_lit (heap_alloc_new wr _) hb1 (by simp)) (hw.alloc hw.size _) ?_ ?_ ?_; (have := hw.size; simp; omega); (have := HM.out.2.1; simp; omega); intro v1 w1 hown1 hB1 hg1 hat1))
      obtain ⟨e1, e2, e3⟩ := HM.out
      obtain ⟨f', rfl, e4, e5⟩ := vb_step (by omega) e3 (show 128 ≤ m by omega)
      exact ⟨⟨_, m / 128, f', _, _, rfl, rfl, ⟨by omega, by simp; omega, e5⟩, by rw [HV.out, e4, List.append_assoc]; congr 2; simp; omega, hown1, hB1⟩, by simp [intOf]; omega⟩
    · have hb1 := by_one z hz (by omega)
      go_wp2_with (at_builtin; refine wpList_append_by (w0 := w) rfl w.heap.size (.tmp 14) (.tmp 17) 25 5 rfl Try.underlying25 info5 b pre rfl (hown.below (below_alloc1 _ _)) (some ⟨wr.heap.size, 0, none⟩) 1 1 [z] rfl (RB_lit (heap_alloc_new wr _) hb1 (by simp)) (hw.alloc hw.size _) ?_ ?_ ?_; (have := hw.size; simp; omega); (have := HM.out.2.1; simp; omega); intro v1 w1 hown1 hB1 hg1 hat1)
      obtain ⟨e1, e2, e3⟩ := HM.out
      go_ret
      refine ⟨v1, rfl, ?_, hB1⟩
      rw [HV.out, vb_last (show m < 128 by omega), ← e1]
      exact hown1
set_option maxHeartbeats 1000000 in
theorem rvarint_any (n : Int) (n0 : 0 ≤ n) (hn : n < 18446744073709551616) (w : World) :
    Calls Try.prog 37 #[.int .u64 n] w fun e w' => ∃ v, e = .returned v ∧ OB 5 w' w.heap.size v (vb n.toNat) ∧ Below w.heap.size w w' := by
  have HN := Lib.hid (And.intro n0 hn)
  clear n0 hn
  go_enter Try.func37, Try.ntmps37
  go_wp2_with fail
  go_loopw [0, 3] (fun x b wr => ∃ (z : Int) (m f : Nat) (pre : List Int) (bv : Value), bv = b ∧ x = .int .u64 z ∧ Hid (z = m ∧ pre.length + f = 9 ∧ m * 128 ^ (9 - f) < 2 ^ 64) ∧ Hid (vb n.toNat = pre ++ vbf f m) ∧ OB 5 wr w.heap.size b pre ∧ Below w.heap.size w wr) (fun x _ _ => (intOf x).toNat)
  case atStart => exact ⟨n, n.toNat, 9, [], _, rfl, rfl, ⟨by have := HN.out; omega, rfl, by have := HN.out; simp; omega⟩, rfl, OB.nil _ _ _, Below.refl _ _⟩
  case round =>
    obtain ⟨z, m, f, pre, b, rfl, rfl, HM, HV, hown, hw⟩ := hrel
    have hz : 0 ≤ z := by have := HM.out; omega
    by_cases hlt : 128 ≤ z
    · have hz1 : z < 18446744073709551616 := by
        obtain ⟨e1, e2, e3⟩ := HM.out
        have := Nat.le_mul_of_pos_right m (show 0 < 128 ^ (9 - f) from Nat.pow_pos (by omega))
        omega
      have hq4 := wrap_u64 (z / 128) (by omega) (by omega)
      have hq3 : z.tdiv 128 = z / 128 := Int.tdiv_eq_ediv_of_nonneg hz
      clear hz1
      have hq1 : z % 128 % 256 = z % 128 := by omega
      have hq2 : (z % 128 + 128) % 256 = z % 128 + 128 := by omega
      have hb1 := by_one (z % 128 + 128) (by omega) (by omega)
      go_wp2_with (at_builtin; (refine wpList_append_by (w0 := w) rfl w.heap.size (.tmp 6) (.tmp 11) 25 5 rfl Try.underlying25 info5 b pre rfl (hown.below (below_alloc1 _ _)) (some ⟨wr.heap.size, 0, none⟩) 1 1 [z % 128 + 128] rfl (RB_lit (heap_alloc_new wr _) hb1 (by simp)) (hw.alloc hw.size _) ?_ ?_ ?_; (have := hw.size; simp; omega); (have := HM.out.2.1; simp; omega); intro v1 w1 hown1 hB1 hg1 hat1))
      obtain ⟨e1, e2, e3⟩ := HM.out
      obtain ⟨f', rfl, e4, e5⟩ := vb_step (by omega) e3 (show 128 ≤ m by omega)
      exact ⟨⟨_, m / 128, f', _, _, rfl, rfl, ⟨by omega, by simp; omega, e5⟩, by rw [HV.out, e4, List.append_assoc]; congr 2; simp; omega, hown1, hB1⟩, by simp [intOf]; omega⟩
    · have hb1 := by_one z hz (by omega)
      go_wp2_with (at_builtin; refine wpList_append_by (w0 := w) rfl w.heap.size (.tmp 15) (.tmp 18) 25 5 rfl Try.underlying25 info5 b pre rfl (hown.below (below_alloc1 _ _)) (some ⟨wr.heap.size, 0, none⟩) 1 1 [z] rfl (RB_lit (heap_alloc_new wr _) hb1 (by simp)) (hw.alloc hw.size _) ?_ ?_ ?_; (have := hw.size; simp; omega); (have := HM.out.2.1; simp; omega); intro v1 w1 hown1 hB1 hg1 hat1)
      obtain ⟨e1, e2, e3⟩ := HM.out
      go_ret
      refine ⟨v1, rfl, ?_, hB1⟩
      rw [HV.out, vb_last (show m < 128 by omega), ← e1]
      exact hown1
/-- what a string's reading gives: the bytes, how many were read, the error -/
def rsI (l : List Int) (most : Int) : List Int × Int × Int :=
  if most < 0 then ([], 0, 1) else if (rvI l).2.2 ≠ 0 then ([], 0, (rvI l).2.2) else if most < (rvI l).1 then ([], 0, 3)
  else if (l.length : Int) - (rvI l).2.1 < (rvI l).1 then ([], 0, 2)
  else ((l.drop (rvI l).2.1.toNat).take (rvI l).1.toNat, (rvI l).2.1 + (rvI l).1, 0)
theorem rvAt_cases (l : List Int) (hb : BY l) : ∀ f k, k + f = 10 → (rvAt l k f = (0, 0, 2) ∨ rvAt l k f = (0, 0, 4)) ∨ ∃ (x : Int) (j : Nat), rvAt l k f = (x, (j : Int), 0) ∧ 0 ≤ x ∧ x < 18446744073709551616 ∧ 1 ≤ j ∧ j ≤ 10 ∧ j ≤ l.length
  | 0, k, h => .inl (.inr rfl)
  | f + 1, k, h => by
    rw [rvAt]
    split
    · exact .inl (.inl rfl)
    · split
      · exact .inl (.inr rfl)
      · split
        · split
          · exact .inl (.inr rfl)
          · rename_i h1 h2 h3 h4
            obtain ⟨x0, x1⟩ := hb.nth k
            obtain ⟨_, h5, h6⟩ := acc_or l k x0 x1 (by omega)
            exact .inr ⟨_, k + 1, by simp, h5, h6, by omega, by omega, by omega⟩
        · exact rvAt_cases l hb f (k + 1) (by omega)
theorem rvI_cases (l : List Int) (hb : BY l) : (rvI l = (0, 0, 2) ∨ rvI l = (0, 0, 4)) ∨ ∃ (x : Int) (j : Nat), rvI l = (x, (j : Int), 0) ∧ 0 ≤ x ∧ x < 18446744073709551616 ∧ 1 ≤ j ∧ j ≤ 10 ∧ j ≤ l.length :=
  rvAt_cases l hb 10 0 rfl
theorem add_add (ad : Addr) (i j : Nat) : (ad.add i).add j = ad.add (i + j) := by
  unfold Addr.add
  by_cases h1 : i = 0 <;> by_cases h2 : j = 0 <;> simp [h1, h2]
  omega
theorem nth_sub (l : List Int) (k m j : Nat) (hj : j < m) : nth ((l.drop k).take m) j = nth l (k + j) := by
  unfold nth
  rw [List.getD_eq_getElem?_getD, List.getD_eq_getElem?_getD, List.getElem?_take_of_lt hj, List.getElem?_drop]
theorem RB.sub {w : World} {ad : Addr} {n : Nat} {l : List Int} (h : RB w (some ad) n l) (k m : Nat) (hk : k + m ≤ n) : RB w (some (ad.add k)) m ((l.drop k).take m) := by
  refine ⟨by rw [List.length_take, List.length_drop, h.len]; omega, by have := h.top; omega, fun j hj => ⟨_, rfl, ?_⟩, ?_⟩
  · obtain ⟨a, e, hc⟩ := h.cell (k + j) (by omega)
    injection e with e
    subst e
    rw [add_add, hc, nth_sub l k m j hj]
  · exact BY.nth (fun x hx => h.by_ x (List.mem_of_mem_drop (List.mem_of_mem_take hx)))
theorem RB.subC {w : World} {ad : Addr} {n : Nat} {l : List Int} (h : RB w (some ad) n l) (c k m : Nat) (hk : k + m ≤ n) (hc : n ≤ c) : RB w (if c = k then some ad else some (ad.add k)) m ((l.drop k).take m) := by
  by_cases e : c = k
  · have hm : m = 0 := by omega
    subst hm
    exact ⟨by simp, by omega, fun j hj => by omega, BY.nth (fun x hx => by simp at hx)⟩
  · rw [if_neg e]; exact h.sub k m hk
set_option maxHeartbeats 1000000 in
theorem rstr_any (A : Option Addr) (n c : Nat) (l : List Int) (most : Int) (w : World) (hl : RB w A n l) (hc : n ≤ c) (m0 : -9223372036854775808 ≤ most) (m1 : most ≤ 9223372036854775807) :
    Calls Try.prog 24 #[.slice A n c, .int .i64 most] w fun e w' => ∃ v, e = .returned (.tuple #[v, .int .i64 (rsI l most).2.1, .int .i64 (rsI l most).2.2]) ∧ OB 5 w' w.heap.size v (rsI l most).1 ∧ Below w.heap.size w w' := by
  have HLL := Lib.hid hl.len
  have ht := hl.top
  by_cases hm : most < 0
  · have hr : rsI l most = ([], 0, 1) := by unfold rsI; rw [if_pos hm]
    rw [hr]
    go_enter Try.func24, Try.ntmps24
    go_wp2_with fail
    go_ret3
    exact ⟨_, rfl, OB.nil _ _ _, Below.refl _ _⟩
  · have HR := Lib.hid (show rsI l most = if (rvI l).2.2 ≠ 0 then ([], 0, (rvI l).2.2) else if most < (rvI l).1 then ([], 0, 3) else if (l.length : Int) - (rvI l).2.1 < (rvI l).1 then ([], 0, 2) else ((l.drop (rvI l).2.1.toNat).take (rvI l).1.toNat, (rvI l).2.1 + (rvI l).1, 0) by unfold rsI; rw [if_neg hm])
    rcases rvI_cases l hl.by_ with (h | h) | ⟨x, j, h, x0, x1, j0, j1, j2⟩
    · have hr : rsI l most = ([], 0, 2) := by rw [HR.out, h]; rfl
      rw [hr]
      go_enter Try.func24, Try.ntmps24
      go_wp2_with (go_at_call 22; refine (read_any A n c l _ hl).mono ?_; rw [h]; rintro e w1 ⟨rfl, rfl⟩)
      go_ret3
      exact ⟨_, rfl, OB.nil _ _ _, Below.refl _ _⟩
    · have hr : rsI l most = ([], 0, 4) := by rw [HR.out, h]; rfl
      rw [hr]
      go_enter Try.func24, Try.ntmps24
      go_wp2_with (go_at_call 22; refine (read_any A n c l _ hl).mono ?_; rw [h]; rintro e w1 ⟨rfl, rfl⟩)
      go_ret3
      exact ⟨_, rfl, OB.nil _ _ _, Below.refl _ _⟩
    · have hwm := wrap_u64 most (by omega) (by omega)
      have hwj := wrap_u64 ((n : Int) - j) (by have := HLL.out; omega) (by omega)
      by_cases h3 : most < x
      · have hr : rsI l most = ([], 0, 3) := by rw [HR.out, h, if_neg (by simp), if_pos h3]
        rw [hr]
        go_enter Try.func24, Try.ntmps24
        go_wp2_with (go_at_call 22; refine (read_any A n c l _ hl).mono ?_; rw [h]; rintro e w1 ⟨rfl, rfl⟩)
        go_ret3
        exact ⟨_, rfl, OB.nil _ _ _, Below.refl _ _⟩
      · by_cases h4 : (n : Int) - j < x
        · have hr : rsI l most = ([], 0, 2) := by rw [HR.out, h, if_neg (by simp), if_neg h3, if_pos (by rw [HLL.out]; exact h4)]
          rw [hr]
          go_enter Try.func24, Try.ntmps24
          go_wp2_with (go_at_call 22; refine (read_any A n c l _ hl).mono ?_; rw [h]; rintro e w1 ⟨rfl, rfl⟩)
          go_ret3
          exact ⟨_, rfl, OB.nil _ _ _, Below.refl _ _⟩
        · have hr := Lib.hid (show rsI l most = ((l.drop j).take x.toNat, (j : Int) + x, 0) by
            rw [HR.out, h, if_neg (by simp), if_neg h3, if_neg (by rw [HLL.out]; exact h4)]
            simp)
          obtain ⟨ad, rfl, -⟩ := hl.cell 0 (by have := HLL.out; omega)
          have hs := hl.subC c j x.toNat (by omega) hc
          have hi1 : IntKind.i64.wrap x = x := by rw [IntKind.wrap_i64]; have := HLL.out; omega
          have hi2 : IntKind.i64.wrap ((j : Int) + x) = (j : Int) + x := by rw [IntKind.wrap_i64]; have := HLL.out; omega
          have hi3 : (j : Int) ≤ (j : Int) + x := by omega
          have hi4 : (j : Int) + x ≤ (c : Int) := by omega
          have hi5 : ((j : Int) + x).toNat - j = x.toNat := by omega
          go_enter Try.func24, Try.ntmps24
          go_wp2_with (first
            | (go_at_call 22; refine (read_any _ n c l _ hl).mono ?_; rw [h]; rintro e w1 ⟨rfl, rfl⟩)
            | (at_builtin; (refine wpList_append_by (w0 := w) rfl w.heap.size (.const (.slice none 0 0)) (.tmp 43) 25 5 rfl Try.underlying25 info5 (.slice none 0 0) [] rfl (OB.nil _ _ _) (if c = j then some ad else some (ad.add j)) x.toNat (c - j) ((l.drop j).take x.toNat) rfl hs (Below.refl _ _) (Nat.le_refl _) ?_ ?_; (simp; omega); intro v1 w1 hown1 hB1 hg1 hat1; rw [List.nil_append] at hown1)))
          all_goals (go_ret3; exact ⟨v1, by rw [hr.out]; rfl, by rw [hr.out]; exact hown1, hB1⟩)
set_option maxHeartbeats 1000000 in
theorem rrstr_any (A : Option Addr) (n c : Nat) (l : List Int) (most : Int) (w : World) (hl : RB w A n l) (hc : n ≤ c) (m0 : -9223372036854775808 ≤ most) (m1 : most ≤ 9223372036854775807) :
    Calls Try.prog 25 #[.slice A n c, .int .i64 most] w fun e w' => ∃ v, e = .returned (.tuple #[v, .int .i64 (rsI l most).2.1, .int .i64 (rsI l most).2.2]) ∧ OB 5 w' w.heap.size v (rsI l most).1 ∧ Below w.heap.size w w' := by
  have HLL := Lib.hid hl.len
  have ht := hl.top
  by_cases hm : most < 0
  · have hr : rsI l most = ([], 0, 1) := by unfold rsI; rw [if_pos hm]
    rw [hr]
    go_enter Try.func25, Try.ntmps25
    go_wp2_with fail
    go_ret3
    exact ⟨_, rfl, OB.nil _ _ _, Below.refl _ _⟩
  · have HR := Lib.hid (show rsI l most = if (rvI l).2.2 ≠ 0 then ([], 0, (rvI l).2.2) else if most < (rvI l).1 then ([], 0, 3) else if (l.length : Int) - (rvI l).2.1 < (rvI l).1 then ([], 0, 2) else ((l.drop (rvI l).2.1.toNat).take (rvI l).1.toNat, (rvI l).2.1 + (rvI l).1, 0) by unfold rsI; rw [if_neg hm])
    rcases rvI_cases l hl.by_ with (h | h) | ⟨x, j, h, x0, x1, j0, j1, j2⟩
    · have hr : rsI l most = ([], 0, 2) := by rw [HR.out, h]; rfl
      rw [hr]
      go_enter Try.func25, Try.ntmps25
      go_wp2_with (go_at_call 23; refine (rread_any A n c l _ hl).mono ?_; rw [h]; rintro e w1 ⟨rfl, rfl⟩)
      go_ret3
      exact ⟨_, rfl, OB.nil _ _ _, Below.refl _ _⟩
    · have hr : rsI l most = ([], 0, 4) := by rw [HR.out, h]; rfl
      rw [hr]
      go_enter Try.func25, Try.ntmps25
      go_wp2_with (go_at_call 23; refine (rread_any A n c l _ hl).mono ?_; rw [h]; rintro e w1 ⟨rfl, rfl⟩)
      go_ret3
      exact ⟨_, rfl, OB.nil _ _ _, Below.refl _ _⟩
    · have hwm := wrap_u64 most (by omega) (by omega)
      have hwj := wrap_u64 ((n : Int) - j) (by have := HLL.out; omega) (by omega)
      by_cases h3 : most < x
      · have hr : rsI l most = ([], 0, 3) := by rw [HR.out, h, if_neg (by simp), if_pos h3]
        rw [hr]
        go_enter Try.func25, Try.ntmps25
        go_wp2_with (go_at_call 23; refine (rread_any A n c l _ hl).mono ?_; rw [h]; rintro e w1 ⟨rfl, rfl⟩)
        go_ret3
        exact ⟨_, rfl, OB.nil _ _ _, Below.refl _ _⟩
      · by_cases h4 : (n : Int) - j < x
        · have hr : rsI l most = ([], 0, 2) := by rw [HR.out, h, if_neg (by simp), if_neg h3, if_pos (by rw [HLL.out]; exact h4)]
          rw [hr]
          go_enter Try.func25, Try.ntmps25
          go_wp2_with (go_at_call 23; refine (rread_any A n c l _ hl).mono ?_; rw [h]; rintro e w1 ⟨rfl, rfl⟩)
          go_ret3
          exact ⟨_, rfl, OB.nil _ _ _, Below.refl _ _⟩
        · have hr := Lib.hid (show rsI l most = ((l.drop j).take x.toNat, (j : Int) + x, 0) by
            rw [HR.out, h, if_neg (by simp), if_neg h3, if_neg (by rw [HLL.out]; exact h4)]
            simp)
          obtain ⟨ad, rfl, -⟩ := hl.cell 0 (by have := HLL.out; omega)
          have hs := hl.subC c j x.toNat (by omega) hc
          have hi1 : IntKind.i64.wrap x = x := by rw [IntKind.wrap_i64]; have := HLL.out; omega
          have hi2 : IntKind.i64.wrap ((j : Int) + x) = (j : Int) + x := by rw [IntKind.wrap_i64]; have := HLL.out; omega
          have hi3 : (j : Int) ≤ (j : Int) + x := by omega
          have hi4 : (j : Int) + x ≤ (c : Int) := by omega
          have hi5 : ((j : Int) + x).toNat - j = x.toNat := by omega
          go_enter Try.func25, Try.ntmps25
          go_wp2_with (first
            | (go_at_call 23; refine (rread_any _ n c l _ hl).mono ?_; rw [h]; rintro e w1 ⟨rfl, rfl⟩)
            | (at_builtin; (refine wpList_append_by (w0 := w) rfl w.heap.size (.const (.slice none 0 0)) (.tmp 38) 25 5 rfl Try.underlying25 info5 (.slice none 0 0) [] rfl (OB.nil _ _ _) (if c = j then some ad else some (ad.add j)) x.toNat (c - j) ((l.drop j).take x.toNat) rfl hs (Below.refl _ _) (Nat.le_refl _) ?_ ?_; (simp; omega); intro v1 w1 hown1 hB1 hg1 hat1; rw [List.nil_append] at hown1)))
          all_goals (go_ret3; exact ⟨v1, by rw [hr.out]; rfl, by rw [hr.out]; exact hown1, hB1⟩)
end Go.Proofs.Ythggicgbcgeggaa
