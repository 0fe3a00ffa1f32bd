/- Walks: Zig and Zag and their document's twins; front; WireUnlike. -/
import Derived.Test.YthggicgbcgeggaaVM
import Derived.Deep.RegionHeld3
set_option linter.unusedVariables false
set_option linter.unusedSimpArgs false
namespace Go.Proofs.Ythggicgbcgeggaa
open Go.RowKit
def zigI (n : Int) : Int := if n < 0 then -2 * n - 1 else 2 * n
def zagI (u : Int) : Int := if u % 2 = 1 then -(u / 2) - 1 else u / 2
theorem RB.take {w : World} {A : Option Addr} {n : Nat} {l : List Int} (h : RB w A n l) (k : Nat) (hk : k ≤ n) : RB w A k (l.take k) := by
  refine ⟨by rw [List.length_take, h.len]; omega, by have := h.top; omega, fun j hj => ?_, BY.nth (fun x hx => h.by_ x (List.mem_of_mem_take hx))⟩
  obtain ⟨ad, e, hc⟩ := h.cell j (by omega)
  refine ⟨ad, e, ?_⟩
  rw [hc]
  unfold nth
  rw [List.getD_eq_getElem?_getD, List.getD_eq_getElem?_getD, List.getElem?_take_of_lt hj]
theorem xor_zero64 (x : Int) (h0 : 0 ≤ x) (h1 : x < 18446744073709551616) : bits .xor .u64 x 0 = x := by
  show IntKind.u64.wrap (((BitVec.ofInt 64 x ^^^ BitVec.ofInt 64 0 : BitVec 64).toNat : Nat) : Int) = _
  have e : BitVec.ofInt 64 0 = 0#64 := by decide
  rw [e, BitVec.xor_zero, BitVec.toNat_ofInt, wrap_u64] <;> omega
theorem xor_ones64 (x : Int) (h0 : 0 ≤ x) (h1 : x < 18446744073709551616) : bits .xor .u64 x 18446744073709551615 = 18446744073709551615 - x := by
  show IntKind.u64.wrap (((BitVec.ofInt 64 x ^^^ BitVec.ofInt 64 18446744073709551615 : BitVec 64).toNat : Nat) : Int) = _
  have e : BitVec.ofInt 64 18446744073709551615 = BitVec.allOnes 64 := by decide
  rw [e, BitVec.xor_allOnes, BitVec.toNat_not, BitVec.toNat_ofInt, wrap_u64] <;> omega
theorem and_one64 (x : Int) (h0 : 0 ≤ x) (h1 : x < 18446744073709551616) : bits .and .u64 x 1 = x % 2 := by
  show IntKind.u64.wrap (((BitVec.ofInt 64 x &&& BitVec.ofInt 64 1 : BitVec 64).toNat : Nat) : Int) = _
  have e : BitVec.ofInt 64 1 = 1#64 := by decide
  rw [e, BitVec.toNat_and, BitVec.toNat_ofInt]
  have e2 : (1#64).toNat = 1 := by decide
  rw [e2, Nat.and_one_is_mod, wrap_u64] <;> omega
theorem xor_zero63 (x : Int) (h0 : 0 ≤ x) (h1 : x < 9223372036854775808) : bits .xor .i64 x 0 = x := by
  show IntKind.i64.wrap (((BitVec.ofInt 64 x ^^^ BitVec.ofInt 64 0 : BitVec 64).toNat : Nat) : Int) = _
  have e : BitVec.ofInt 64 0 = 0#64 := by decide
  rw [e, BitVec.xor_zero, BitVec.toNat_ofInt, IntKind.wrap_i64]; omega
theorem xor_ones63 (x : Int) (h0 : 0 ≤ x) (h1 : x < 9223372036854775808) : bits .xor .i64 x (-1) = -x - 1 := by
  show IntKind.i64.wrap (((BitVec.ofInt 64 x ^^^ BitVec.ofInt 64 (-1) : BitVec 64).toNat : Nat) : Int) = _
  have e : BitVec.ofInt 64 (-1) = BitVec.allOnes 64 := by decide
  rw [e, BitVec.xor_allOnes, BitVec.toNat_not, BitVec.toNat_ofInt, IntKind.wrap_i64]; omega
theorem zig_any (n : Int) (h0 : -9223372036854775808 ≤ n) (h1 : n ≤ 9223372036854775807) (w : World) :
    Calls Try.prog 32 #[.int .i64 n] w fun e w' => e = .returned (.int .u64 (zigI n)) ∧ w = w' := by
  by_cases hn : n < 0
  · have e1 : IntKind.u64.wrap n = n + 18446744073709551616 := by rw [IntKind.wrap_u64]; omega
    have e2 : IntKind.u64.wrap ((n + 18446744073709551616) * 2) = 2 * n + 18446744073709551616 := by rw [IntKind.wrap_u64]; omega
    have e4 : IntKind.u64.wrap (n / 9223372036854775808) = 18446744073709551615 := by rw [IntKind.wrap_u64]; omega
    have e3 := xor_ones64 (2 * n + 18446744073709551616) (by omega) (by omega)
    go_enter Try.func32, Try.ntmps32
    go_wp2_with fail
    go_ret
    refine ⟨?_, rfl⟩
    have : zigI n = 18446744073709551615 - (2 * n + 18446744073709551616) := by unfold zigI; rw [if_pos hn]; omega
    rw [this]; simp [e4, e3]
  · have e1 : IntKind.u64.wrap n = n := wrap_u64 n (by omega) (by omega)
    have e2 : IntKind.u64.wrap (n * 2) = 2 * n := by rw [IntKind.wrap_u64]; omega
    have e4 : IntKind.u64.wrap (n / 9223372036854775808) = 0 := by rw [IntKind.wrap_u64]; omega
    have e3 := xor_zero64 (2 * n) (by omega) (by omega)
    go_enter Try.func32, Try.ntmps32
    go_wp2_with fail
    go_ret
    refine ⟨?_, rfl⟩
    have : zigI n = 2 * n := by unfold zigI; rw [if_neg (by omega)]
    rw [this]; simp [e1, e2, e4, e3]
theorem zag_any (u : Int) (h0 : 0 ≤ u) (h1 : u < 18446744073709551616) (w : World) :
    Calls Try.prog 31 #[.int .u64 u] w fun e w' => e = .returned (.int .i64 (zagI u)) ∧ w = w' := by
  have e1 := and_one64 u h0 h1
  go_enter Try.func31, Try.ntmps31
  go_wp2_with fail
  go_ret
  refine ⟨?_, rfl⟩
  by_cases hu : u % 2 = 1
  · have e3 := xor_ones63 (u / 2) (by omega) (by omega)
    have : zagI u = -(u / 2) - 1 := by unfold zagI; rw [if_pos hu]
    rw [this]; simp [hu, e3]
  · have hu0 : u % 2 = 0 := by omega
    have e3 := xor_zero63 (u / 2) (by omega) (by omega)
    have : zagI u = u / 2 := by unfold zagI; rw [if_neg hu]
    rw [this]; simp [hu0, e3]
theorem zag_zig (n : Int) : zagI (zigI n) = n := by
  unfold zagI zigI
  by_cases hn : n < 0
  · rw [if_pos hn, if_pos (by omega)]; omega
  · rw [if_neg hn, if_neg (by omega)]; omega
theorem zigI_rng (n : Int) (h0 : -9223372036854775808 ≤ n) (h1 : n ≤ 9223372036854775807) : 0 ≤ zigI n ∧ zigI n < 18446744073709551616 := by
  unfold zigI
  split <;> omega
set_option maxHeartbeats 1000000 in
theorem front_any (A B : Option Addr) (n m c d : Nat) (l q : List Int) (w : World) (hl : RB w A n l) (hq : RB w B m q) (hc : n ≤ c) (hd : m ≤ d) :
    Calls Try.prog 30 #[.slice A n c, .slice B m d] w fun e w' => e = .returned (.bool (eqI (l.take (min n m)) (q.take (min n m)))) ∧ Below w.heap.size w w' := by
  obtain ⟨k, hk⟩ : ∃ k, k = min n m := ⟨_, rfl⟩
  rw [← hk]
  have hk1 : k ≤ n := by omega
  have hk2 : k ≤ m := by omega
  have hmin : min (n : Int) (m : Int) = (k : Int) := by omega
  have q0 : (0 : Int) ≤ (k : Int) := Int.natCast_nonneg _
  have q1 : (k : Int) ≤ (c : Int) := by omega
  have q2 : (k : Int) ≤ (d : Int) := by omega
  have hA := hl.take k hk1
  have hB := hq.take k hk2
  have HK := Lib.hid hk
  clear hk hmin
  go_enter Try.func30, Try.ntmps30
  go_wp2_with fail
  · obtain rfl : k = m := by have := HK.out; omega
    go_region_held3 (fun w' => RB w' A k (l.take k) ∧ RB w' B k (q.take k) ∧ Below w.heap.size w w')
      (first
        | exact ⟨hA.drewN 1, hB.drewN 1, (Below.refl _ w).drew⟩
        | exact ⟨hh.1.below hwn, hh.2.1.below hwn, below_step hh.2.2 hwn⟩)
      (first | (go_at_call 26; have hh : RB _ A k (l.take k) ∧ RB _ B k (q.take k) ∧ Below w.heap.size w _ := (by assumption); refine (eq_any A B k k c d _ _ _ hh.1 hh.2.1).mono ?_; rintro e w1 ⟨rfl, hwn⟩))
    go_wp2_with fail
    go_ret
    exact ⟨rfl, below_step hh.2.2 hwn⟩
  · obtain rfl : k = n := by have := HK.out; omega
    go_region_held3 (fun w' => RB w' A k (l.take k) ∧ RB w' B k (q.take k) ∧ Below w.heap.size w w')
      (first
        | exact ⟨hA.drewN 1, hB.drewN 1, (Below.refl _ w).drew⟩
        | exact ⟨hh.1.below hwn, hh.2.1.below hwn, below_step hh.2.2 hwn⟩)
      (first | (go_at_call 26; have hh : RB _ A k (l.take k) ∧ RB _ B k (q.take k) ∧ Below w.heap.size w _ := (by assumption); refine (eq_any A B k k c d _ _ _ hh.1 hh.2.1).mono ?_; rintro e w1 ⟨rfl, hwn⟩))
    go_wp2_with fail
    go_ret
    exact ⟨rfl, below_step hh.2.2 hwn⟩
theorem front_vb (a b : Nat) (ha : a < 2 ^ 64) (hb : b < 2 ^ 64) : eqI ((vb a).take (min (vb a).length (vb b).length)) ((vb b).take (min (vb a).length (vb b).length)) = decide (a = b) := by
  unfold eqI
  congr 1
  apply propext
  constructor
  · intro h
    rcases Nat.le_total (vb a).length (vb b).length with hle | hle
    · rw [Nat.min_eq_left hle, List.take_length] at h
      have e : vb b ++ [] = vb a ++ (vb b).drop (vb a).length := by rw [List.append_nil]; conv => lhs; rw [← List.take_append_drop (vb a).length (vb b), ← h]
      have h1 := rv_vb b hb []
      rw [e, rv_vb a ha] at h1
      have := (Prod.mk.inj h1).1
      omega
    · rw [Nat.min_eq_right hle, List.take_length] at h
      have e : vb a ++ [] = vb b ++ (vb a).drop (vb b).length := by rw [List.append_nil]; conv => lhs; rw [← List.take_append_drop (vb b).length (vb a), h]
      have h1 := rv_vb a ha []
      rw [e, rv_vb b hb] at h1
      have := (Prod.mk.inj h1).1
      omega
  · rintro rfl; rfl
theorem sb_pre (s t r : List Int) (hs : s.length < 2 ^ 64) (ht : t.length < 2 ^ 64) (h : sb t = sb s ++ r) : s = t := by
  unfold sb at h
  rw [List.append_assoc] at h
  have h1 := rv_vb t.length ht t
  rw [h, rv_vb s.length hs] at h1
  have hl : s.length = t.length := by have := (Prod.mk.inj h1).1; omega
  rw [hl] at h
  have h2 := List.append_cancel_left h
  have h3 : r = [] := by
    have := congrArg List.length h2
    rw [List.length_append] at this
    exact List.length_eq_zero_iff.1 (by omega)
  rw [h3, List.append_nil] at h2
  exact h2.symm
theorem front_sb (s t : List Int) (hs : s.length < 2 ^ 64) (ht : t.length < 2 ^ 64) : eqI ((sb s).take (min (sb s).length (sb t).length)) ((sb t).take (min (sb s).length (sb t).length)) = eqI s t := by
  unfold eqI
  congr 1
  apply propext
  constructor
  · intro h
    rcases Nat.le_total (sb s).length (sb t).length with hle | hle
    · rw [Nat.min_eq_left hle, List.take_length] at h
      refine sb_pre s t ((sb t).drop (sb s).length) hs ht ?_
      conv => lhs; rw [← List.take_append_drop (sb s).length (sb t), ← h]
    · rw [Nat.min_eq_right hle, List.take_length] at h
      refine (sb_pre t s ((sb s).drop (sb t).length) ht hs ?_).symm
      conv => lhs; rw [← List.take_append_drop (sb t).length (sb s), h]
  · rintro rfl; rfl
set_option maxRecDepth 20000 in
set_option maxHeartbeats 4000000 in
theorem unlike_law (a b : Int) (A1 : Option Addr) (n1 c1 : Nat) (s : List Int) (A2 : Option Addr) (n2 c2 : Nat) (t : List Int) (w : World) (a0 : 0 ≤ a) (a64 : a < 18446744073709551616) (b0 : 0 ≤ b) (b64 : b < 18446744073709551616)
    (hs : RB w A1 n1 s) (hc1 : n1 ≤ c1) (ht1 : n1 ≤ 140737488351232) (ht : RB w A2 n2 t) (hc2 : n2 ≤ c2) (ht2 : n2 ≤ 140737488351232) :
    Calls Try.prog 5 #[.int .u64 a, .int .u64 b, .slice A1 n1 c1, .slice A2 n2 c2] w fun e w' => e = .returned (.bool true) ∧ Below w.heap.size w w' := by
  have HS := Lib.hid hs.len
  have HT := Lib.hid ht.len
  have hf1 := front_vb a.toNat b.toNat (by omega) (by omega)
  have hd : decide (a.toNat = b.toNat) = (a == b) := by
    by_cases h : a = b
    · subst h; simp
    · have : ¬ a.toNat = b.toNat := by omega
      simp [h, this]
  rw [hd] at hf1
  have HF1 := Lib.hid hf1
  have HF2 := Lib.hid (front_sb s t (by rw [hs.len]; omega) (by rw [ht.len]; omega))
  have hya := vb_by a.toNat (by omega)
  have hyb := vb_by b.toNat (by omega)
  have hys := sb_by hs.by_ (by rw [hs.len]; omega)
  have hyt := sb_by ht.by_ (by rw [ht.len]; omega)
  have hla := vb_len a.toNat
  have hlb := vb_len b.toNat
  have hls : (sb s).length ≤ n1 + 10 := by unfold sb; rw [List.length_append, hs.len]; have := (vb_len n1).2; omega
  have hlt : (sb t).length ≤ n2 + 10 := by unfold sb; rw [List.length_append, ht.len]; have := (vb_len n2).2; omega
  have HL := Lib.hid (And.intro hla (And.intro hlb (And.intro hls hlt)))
  obtain ⟨ia, hia⟩ : ∃ ia, ia = IntKind.i64.wrap a := ⟨_, rfl⟩
  have hib : -9223372036854775808 ≤ ia ∧ ia ≤ 9223372036854775807 := by rw [hia, IntKind.wrap_i64]; omega
  have hz := zag_zig ia
  have hzr := zigI_rng ia hib.1 hib.2
  have HZ := Lib.hid hzr
  have hia2 := hia.symm
  clear hf1 hd hla hlb hls hlt hzr hia
  go_enter Try.func5, Try.ntmps5
  go_wp2_with (first
    | (go_at_call 20; refine (begun_any _).mono ?_; rintro e w1 ⟨rfl, hw⟩)
    | (go_at_call 28; with_reducible refine (varint_any a a0 a64 w1).mono ?_; rintro e w2 ⟨v1, rfl, hO1, hw2⟩; have hw3 := below_step hw hw2; obtain ⟨A3, n3, c3, rfl, hc3, hb3⟩ := hO1.readN hya (by have := HL.out.1; omega); have HN3 := Lib.hid hb3.len; have e2 : decide ((1 : Int) ≤ (n3 : Int)) = true := (by have := HL.out.1; have := HN3.out; simp; omega); have e3 : decide ((n3 : Int) ≤ 10) = true := (by have := HL.out.1; have := HN3.out; simp; omega))
    | (go_at_call 28; refine (varint_any b b0 b64 _).mono ?_; rintro e w4 ⟨v2, rfl, hO2, hw4⟩; have hw5 := below_step hw3 hw4; have hb5 := hb3.below hw4; obtain ⟨A4, n4, c4, rfl, hc4, hb4⟩ := hO2.readN hyb (by have := HL.out.2.1; omega); have HN4 := Lib.hid hb4.len)
    | (go_at_call 29; with_reducible refine (string_any A1 n1 c1 s ht1 w4 (hs.below hw5)).mono ?_; rintro e w6 ⟨v3, rfl, hO3, hw6⟩; have hw7 := below_step hw5 hw6; obtain ⟨A5, n5, c5, rfl, hc5, hb6⟩ := hO3.readN hys (by have := HL.out.2.2.1; omega); have HN5 := Lib.hid hb6.len)
    | (go_at_call 29; refine (string_any A2 n2 c2 t ht2 _ (ht.below hw7)).mono ?_; rintro e w8 ⟨v4, rfl, hO4, hw8⟩; have hw9 := below_step hw7 hw8; obtain ⟨A6, n6, c6, rfl, hc6, hb7⟩ := hO4.readN hyt (by have := HL.out.2.2.2; omega); have HN6 := Lib.hid hb7.len)
    | (go_at_call 30; with_reducible refine (front_any A3 A4 n3 n4 c3 c4 _ _ w8 ((hb5.below hw6).below hw8) ((hb4.below hw6).below hw8) hc3 hc4).mono ?_; rw [show eqI (List.take (min n3 n4) (vb a.toNat)) (List.take (min n3 n4) (vb b.toNat)) = (a == b) from (by rw [← HN3.out, ← HN4.out]; exact HF1.out)]; rintro e w10 ⟨rfl, hw10⟩; have hw11 := below_step hw9 hw10)
    | (go_at_call 30; refine (front_any A5 A6 n5 n6 c5 c6 _ _ _ ((hb6.below hw8).below hw10) (hb7.below hw10) hc5 hc6).mono ?_; rw [show eqI (List.take (min n5 n6) (sb s)) (List.take (min n5 n6) (sb t)) = eqI s t from (by rw [← HN5.out, ← HN6.out]; exact HF2.out)]; rintro e w12 ⟨rfl, hw12⟩; have hw13 := below_step hw11 hw12)
    | (go_at_call 26; refine (eq_any A1 A2 n1 n2 c1 c2 s t _ (hs.below hw13) (ht.below hw13)).mono ?_; rintro e w14 ⟨rfl, hw14⟩; have hw15 := below_step hw13 hw14)
    | (go_at_call 32; refine (zig_any ia hib.1 hib.2 _).mono ?_; rintro e w16 ⟨rfl, rfl⟩)
    | (go_at_call 31; refine (zag_any (zigI ia) HZ.out.1 HZ.out.2 _).mono ?_; rw [hz]; rintro e w17 ⟨rfl, rfl⟩))
  all_goals (go_ret; exact ⟨rfl, hw15⟩)
end Go.Proofs.Ythggicgbcgeggaa
