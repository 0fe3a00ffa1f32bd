/- The plain arithmetic of CRC-32C: one bit's step is linear and loses nothing; no Go and no memory here. -/
import Derived.WalkKit
set_option linter.unusedVariables false
set_option linter.unusedSimpArgs false
namespace Go.Proofs.Ythggicgbcgeggaa.K

/-- an Int as 32 bits, and back -/
def u (x : Int) : BitVec 32 := BitVec.ofInt 32 x
def iu (b : BitVec 32) : Int := b.toNat

theorem iu_lo (b : BitVec 32) : 0 ≤ iu b := by unfold iu; omega
theorem iu_hi (b : BitVec 32) : iu b < 4294967296 := by unfold iu; have := b.isLt; omega
theorem u_iu (b : BitVec 32) : u (iu b) = b := by unfold u iu; simp
theorem iu_u (x : Int) (h0 : 0 ≤ x) (h1 : x < 4294967296) : iu (u x) = x := by
  unfold u iu; rw [BitVec.toNat_ofInt]; simp; omega
theorem iu_inj {a b : BitVec 32} (h : iu a = iu b) : a = b := by
  have := congrArg u h; rwa [u_iu, u_iu] at this
theorem u_inj {x y : Int} (hx0 : 0 ≤ x) (hx : x < 4294967296) (hy0 : 0 ≤ y) (hy : y < 4294967296) (h : u x = u y) : x = y := by
  have := congrArg iu h; rwa [iu_u _ hx0 hx, iu_u _ hy0 hy] at this
theorem wrap_nat (b : BitVec 32) : IntKind.u32.wrap (b.toNat : Int) = iu b := by
  rw [IntKind.wrap_u32]; unfold iu; have := b.isLt; omega
theorem bits_xor (x y : Int) : bits .xor .u32 x y = iu (u x ^^^ u y) := wrap_nat _
theorem bits_and (x y : Int) : bits .and .u32 x y = iu (u x &&& u y) := wrap_nat _
theorem bits_or (x y : Int) : bits .or .u32 x y = iu (u x ||| u y) := wrap_nat _
theorem u_half (x : Int) (h0 : 0 ≤ x) (h1 : x < 4294967296) (k : Nat) : u (x / 2 ^ k) = u x >>> k := by
  obtain ⟨n, rfl⟩ := Int.eq_ofNat_of_zero_le h0
  apply BitVec.eq_of_toNat_eq
  unfold u
  have : ((n : Int) / 2 ^ k) = ((n / 2 ^ k : Nat) : Int) := by simp
  rw [this, BitVec.toNat_ushiftRight, BitVec.ofInt_natCast, BitVec.ofInt_natCast, BitVec.toNat_ofNat, BitVec.toNat_ofNat,
    Nat.shiftRight_eq_div_pow]
  have hn : n < 4294967296 := by omega
  have h2 : n / 2 ^ k ≤ n := Nat.div_le_self _ _
  rw [Nat.mod_eq_of_lt (by omega), Nat.mod_eq_of_lt (by omega)]

/-- one bit's step -/
def sb (c : BitVec 32) : BitVec 32 := (c >>> 1) ^^^ (if c.getLsbD 0 = true then 0x82f63b78#32 else 0#32)
def sn : Nat → BitVec 32 → BitVec 32
  | 0, c => c
  | n + 1, c => sb (sn n c)

theorem sb_zero : sb 0#32 = 0#32 := by decide
theorem sb_xor (a b : BitVec 32) : sb (a ^^^ b) = sb a ^^^ sb b := by
  unfold sb
  rw [BitVec.getLsbD_xor, BitVec.ushiftRight_xor_distrib]
  generalize a >>> 1 = x
  generalize b >>> 1 = y
  generalize 0x82f63b78#32 = p
  cases a.getLsbD 0 <;> cases b.getLsbD 0 <;> simp only [Bool.xor_self, Bool.xor_false, Bool.false_xor, if_true, if_false, Bool.false_eq_true, BitVec.xor_zero]
  · ac_rfl
  · ac_rfl
  · have : x ^^^ p ^^^ (y ^^^ p) = x ^^^ y ^^^ (p ^^^ p) := by ac_rfl
    rw [this, BitVec.xor_self, BitVec.xor_zero]
theorem sn_zero (n : Nat) : sn n 0#32 = 0#32 := by
  induction n with
  | zero => rfl
  | succ n ih => rw [sn, ih, sb_zero]
theorem sn_xor (n : Nat) (a b : BitVec 32) : sn n (a ^^^ b) = sn n a ^^^ sn n b := by
  induction n with
  | zero => rfl
  | succ n ih => simp only [sn, ih, sb_xor]
theorem sn_add (n m : Nat) (c : BitVec 32) : sn (n + m) c = sn n (sn m c) := by
  induction n with
  | zero => simp [sn]
  | succ n ih => rw [Nat.succ_add, sn, sn, ih]
theorem sb_ne (c : BitVec 32) (h : c ≠ 0#32) : sb c ≠ 0#32 := by
  intro hz
  apply h
  unfold sb at hz
  cases hb : c.getLsbD 0 with
  | true =>
    rw [hb, if_pos rfl] at hz
    have := congrArg (fun x => BitVec.getLsbD x 31) hz
    simp at this
  | false =>
    rw [hb, if_neg (by simp)] at hz
    simp at hz
    apply BitVec.eq_of_getLsbD_eq
    intro i hi
    rcases Nat.eq_zero_or_pos i with rfl | hp
    · rw [hb]; simp
    · have := congrArg (fun x => BitVec.getLsbD x (i - 1)) hz
      simp [BitVec.getLsbD_ushiftRight] at this
      rw [show 1 + (i - 1) = i by omega] at this
      simp [this]
theorem sn_ne (n : Nat) (c : BitVec 32) (h : c ≠ 0#32) : sn n c ≠ 0#32 := by
  induction n with
  | zero => exact h
  | succ n ih => exact sb_ne _ ih
theorem sn_inj (n : Nat) (a b : BitVec 32) (h : sn n a = sn n b) : a = b := by
  have h2 : sn n (a ^^^ b) = 0#32 := by rw [sn_xor, h, BitVec.xor_self]
  have h3 : a ^^^ b = 0#32 := Classical.byContradiction fun hn => sn_ne n _ hn h2
  have := congrArg (· ^^^ b) h3
  simpa [BitVec.xor_assoc] using this

/-- where the low k bits are 0, k steps are a shift -/
theorem sn_shift (k : Nat) : ∀ c : BitVec 32, (∀ i, i < k → c.getLsbD i = false) → sn k c = c >>> k := by
  induction k with
  | zero => intro c _; simp [sn]
  | succ k ih =>
    intro c h
    rw [sn, ih c (fun i hi => h i (by omega))]
    unfold sb
    rw [if_neg]
    · simp [BitVec.shiftRight_add]
    · simp [h k (by omega)]

/-- a byte's step, and a run over bytes -/
def stp (c : BitVec 32) : BitVec 32 := sn 8 c
def run (c : BitVec 32) (l : List Int) : BitVec 32 := l.foldl (fun c x => stp (c ^^^ u x)) c
def more (s : BitVec 32) (l : List Int) : BitVec 32 := run (s ^^^ 0xffffffff#32) l ^^^ 0xffffffff#32

theorem run_append (c : BitVec 32) (a b : List Int) : run c (a ++ b) = run (run c a) b := by simp [run, List.foldl_append]
theorem run_snoc (c : BitVec 32) (a : List Int) (x : Int) : run c (a ++ [x]) = stp (run c a ^^^ u x) := by simp [run, List.foldl_append]
theorem run_xor (c d : BitVec 32) (l : List Int) : run (c ^^^ d) l = run c l ^^^ sn (8 * l.length) d := by
  induction l generalizing c d with
  | nil => simp [run, sn]
  | cons x l ih =>
    have h1 : ∀ c, run c (x :: l) = run (stp (c ^^^ u x)) l := fun c => rfl
    rw [h1, h1]
    have h2 : stp (c ^^^ d ^^^ u x) = stp (c ^^^ u x) ^^^ stp d := by
      unfold stp
      rw [← sn_xor]
      congr 1
      ac_rfl
    rw [h2, ih]
    congr 1
    unfold stp
    rw [← sn_add]
    congr 1
theorem run_zeros (c : BitVec 32) (n : Nat) : run c (List.replicate n 0) = sn (8 * n) c := by
  induction n generalizing c with
  | zero => simp [run, sn]
  | succ n ih =>
    rw [List.replicate_succ']
    rw [run_snoc, ih]
    unfold stp
    have : u 0 = 0#32 := by decide
    rw [this, BitVec.xor_zero, ← sn_add]
    congr 1
    omega
theorem more_append (s : BitVec 32) (a b : List Int) : more s (a ++ b) = more (more s a) b := by
  unfold more
  rw [run_append]
  congr 2
  simp [BitVec.xor_assoc]
/-- P2.2: the sum of two behind one another -/
theorem more_join (a b : List Int) : more 0#32 (a ++ b) = sn (8 * b.length) (more 0#32 a) ^^^ more 0#32 b := by
  unfold more
  rw [run_append]
  have h : run (0#32 ^^^ 0xffffffff#32) a = (0#32 ^^^ 0xffffffff#32) ^^^ (run (0#32 ^^^ 0xffffffff#32) a ^^^ 0xffffffff#32) := by
    generalize run _ a = x
    have : (0#32 ^^^ 0xffffffff#32 : BitVec 32) = 0xffffffff#32 := by decide
    rw [this]
    have h2 : 0xffffffff#32 ^^^ (x ^^^ 0xffffffff#32) = x ^^^ (0xffffffff#32 ^^^ 0xffffffff#32) := by ac_rfl
    rw [h2, BitVec.xor_self, BitVec.xor_zero]
  rw [h, run_xor, ← h]
  ac_rfl

/-- the table's way: t[byte(c) ^ x] ^ c >> 8 -/
theorem and_split (c m n : BitVec 32) (h : m ^^^ n = BitVec.allOnes 32) : (c &&& m) ^^^ (c &&& n) = c := by
  apply BitVec.eq_of_getLsbD_eq
  intro i hi
  have := congrArg (fun x => BitVec.getLsbD x i) h
  simp only [BitVec.getLsbD_xor, BitVec.getLsbD_allOnes, hi, decide_true] at this
  simp only [BitVec.getLsbD_xor, BitVec.getLsbD_and]
  cases c.getLsbD i <;> simp [this]
theorem hi_shift (c : BitVec 32) : stp (c &&& 0xffffff00#32) = c >>> 8 := by
  unfold stp
  rw [sn_shift 8]
  · apply BitVec.eq_of_getLsbD_eq
    intro i hi
    rw [BitVec.getLsbD_ushiftRight, BitVec.getLsbD_ushiftRight, BitVec.getLsbD_and]
    have : ∀ i, i < 32 → (0xffffff00#32).getLsbD (8 + i) = decide (8 + i < 32) := by decide
    rw [this i hi]
    by_cases hh : 8 + i < 32
    · simp [hh]
    · rw [BitVec.getLsbD_of_ge c _ (by omega)]
      simp
  · intro i hi
    rw [BitVec.getLsbD_and]
    have : ∀ i, i < 8 → (0xffffff00#32).getLsbD i = false := by decide
    rw [this i hi, Bool.and_false]
theorem table_way (c x : BitVec 32) : stp ((c &&& 0xff#32) ^^^ x) ^^^ c >>> 8 = stp (c ^^^ x) := by
  rw [← hi_shift]
  have h : c ^^^ x = ((c &&& 0xff#32) ^^^ x) ^^^ (c &&& 0xffffff00#32) := by
    conv => lhs; rw [← and_split c 0xff#32 0xffffff00#32 (by decide)]
    ac_rfl
  rw [h]
  exact (sn_xor 8 _ _).symm

/-! the lowest bit of a register -/
theorem least_bit (c : BitVec 32) (h : c ≠ 0#32) : ∃ k, k < 32 ∧ c.getLsbD k = true ∧ ∀ j, j < k → c.getLsbD j = false := by
  have h1 : ∃ k, c.getLsbD k = true := by
    apply Classical.byContradiction
    intro hn
    apply h
    apply BitVec.eq_of_getLsbD_eq
    intro i _
    have : ¬ c.getLsbD i = true := fun hi => hn ⟨i, hi⟩
    simpa using this
  obtain ⟨k, hk⟩ := h1
  have key : ∀ n, ∀ k, k ≤ n → c.getLsbD k = true → ∃ k, c.getLsbD k = true ∧ ∀ j, j < k → c.getLsbD j = false := by
    intro n
    induction n with
    | zero =>
      intro k hkn hk
      exact ⟨k, hk, fun j hj => by omega⟩
    | succ n ih =>
      intro k hkn hk
      by_cases hj : ∃ j, j < k ∧ c.getLsbD j = true
      · obtain ⟨j, hjk, hj⟩ := hj
        exact ih j (by omega) hj
      · refine ⟨k, hk, fun j hjk => ?_⟩
        have : ¬ c.getLsbD j = true := fun hb => hj ⟨j, hjk, hb⟩
        simpa using this
  obtain ⟨m, hm, hl⟩ := key k k (Nat.le_refl _) hk
  refine ⟨m, ?_, hm, hl⟩
  rcases Nat.lt_or_ge m 32 with hlt | hge
  · exact hlt
  · rw [BitVec.getLsbD_of_ge _ _ hge] at hm
    exact absurd hm (by decide)
theorem one_bit (k i : Nat) (hi : i < 32) : (1#32 <<< k).getLsbD i = decide (i = k) := by
  rw [BitVec.getLsbD_shiftLeft]
  by_cases h : i = k
  · subst h; simp [hi]
  · by_cases h2 : i < k
    · simp [h2, h]
    · simp [h, h2, hi]
      omega
theorem low_bit (c : BitVec 32) (h : c ≠ 0#32) : ∃ k, k < 32 ∧ c &&& -c = 1#32 <<< k ∧ (c &&& (c - 1#32)) ^^^ (1#32 <<< k) = c ∧ (c &&& (c - 1#32)).toNat < c.toNat := by
  obtain ⟨k, hk, hb, hl⟩ := least_bit c h
  have hE : ∀ i, (∃ j, j < i ∧ c.getLsbD j = true) ↔ k < i := by
    intro i
    constructor
    · rintro ⟨j, hj, hc⟩
      rcases Nat.lt_or_ge j k with h1 | h1
      · rw [hl j h1] at hc
        exact absurd hc (by decide)
      · omega
    · exact fun hi => ⟨k, hi, hb⟩
  have h2 : c &&& (c - 1#32) = c &&& ~~~(-c) := by rw [BitVec.not_neg]
  have e1 : c &&& -c = 1#32 <<< k := by
    apply BitVec.eq_of_getLsbD_eq
    intro i hi
    rw [one_bit k i hi, BitVec.getLsbD_and, BitVec.getLsbD_neg]
    simp only [hE i]
    rcases Nat.lt_trichotomy i k with h1 | h1 | h1
    · rw [hl i h1]; simp; omega
    · subst h1; simp [hb, hi]
    · have : i ≠ k := by omega
      simp [h1, this, hi]
  have e2 : (c &&& (c - 1#32)) ^^^ (1#32 <<< k) = c := by
    rw [h2]
    apply BitVec.eq_of_getLsbD_eq
    intro i hi
    rw [BitVec.getLsbD_xor, one_bit k i hi, BitVec.getLsbD_and, BitVec.getLsbD_not, BitVec.getLsbD_neg]
    simp only [hE i]
    rcases Nat.lt_trichotomy i k with h1 | h1 | h1
    · have : i ≠ k := by omega
      rw [hl i h1]; simp [this]
    · subst h1; simp [hb, hi]
    · have : i ≠ k := by omega
      simp [h1, this, hi]
  refine ⟨k, hk, e1, e2, ?_⟩
  have hle : (c &&& (c - 1#32)).toNat ≤ c.toNat := by rw [BitVec.toNat_and]; exact Nat.and_le_left
  rcases Nat.lt_or_ge (c &&& (c - 1#32)).toNat c.toNat with h3 | h3
  · exact h3
  · exfalso
    have h4 : c &&& (c - 1#32) = c := BitVec.eq_of_toNat_eq (by omega)
    rw [h4] at e2
    have := congrArg (fun x => c ^^^ x) e2
    simp only [← BitVec.xor_assoc, BitVec.xor_self, BitVec.zero_xor] at this
    have h5 := congrArg (fun x => BitVec.getLsbD x k) this
    simp [hk] at h5

/-! a power of the byte's map, by what it makes of each bit -/
theorem sn_bit (k : Nat) (hk : k < 32) : sn k (1#32 <<< k) = 1#32 := by
  rw [sn_shift k]
  · apply BitVec.eq_of_getLsbD_eq
    intro i hi
    rw [BitVec.getLsbD_ushiftRight]
    rcases Nat.lt_or_ge (k + i) 32 with h | h
    · rw [one_bit k _ h]
      have : (1#32) = 1#32 <<< 0 := by simp
      rw [this, one_bit 0 i hi]
      congr 1
      apply propext
      omega
    · rw [BitVec.getLsbD_of_ge _ _ h]
      have : (1#32) = 1#32 <<< 0 := by simp
      rw [this, one_bit 0 i hi]
      have : i ≠ 0 := by omega
      simp [this]
  · intro i hi
    rw [one_bit k i (by omega)]
    simp
    omega

/-! bytes that are turned in some neighbouring bits -/
theorem run_set (c : BitVec 32) (l : List Int) (q : Nat) (hq : q < l.length) (y : Int) (e : BitVec 32) (hy : u y = u (l.getD q 0) ^^^ e) :
    run c (l.set q y) = run c l ^^^ sn (8 * (l.length - q)) e := by
  induction l generalizing c q with
  | nil => exact absurd hq (by simp)
  | cons x l ih =>
    have h1 : ∀ c x l, run c (x :: l) = run (stp (c ^^^ u x)) l := fun c x l => rfl
    cases q with
    | zero =>
      rw [List.set_cons_zero, h1, h1]
      have hy' : u y = u x ^^^ e := hy
      have : stp (c ^^^ u y) = stp (c ^^^ u x) ^^^ stp e := by
        unfold stp
        rw [hy', ← sn_xor]
        congr 1
        ac_rfl
      rw [this, run_xor]
      congr 1
      unfold stp
      rw [← sn_add]
      congr 1
    | succ q =>
      rw [List.set_cons_succ, h1, h1]
      have := ih (stp (c ^^^ u x)) q (by simpa using hq) (by simpa using hy)
      rw [this]
      congr 2
      rw [List.length_cons]
      omega
theorem sn_flip (n frm i : Nat) (hi : i < 32) (hf : frm + 32 ≤ 8 * n) :
    sn (8 * (n - (frm + i) / 8)) (1#32 <<< ((frm + i) % 8)) = sn (8 * n - frm) (1#32 <<< i) := by
  have h1 : 8 * (n - (frm + i) / 8) = (8 * n - frm - i) + (frm + i) % 8 := by omega
  have h2 : 8 * n - frm = (8 * n - frm - i) + i := by omega
  rw [h1, sn_add, sn_bit _ (by omega)]
  conv => rhs; rw [h2]
  rw [sn_add, sn_bit _ hi]

/-- the low i bits of a number -/
def lowb (t : BitVec 32) (i : Nat) : BitVec 32 := t &&& BitVec.ofNat 32 (2 ^ i - 1)
theorem lowb_bit (t : BitVec 32) (i j : Nat) (hi : i ≤ 32) (hj : j < 32) : (lowb t i).getLsbD j = (t.getLsbD j && decide (j < i)) := by
  unfold lowb
  rw [BitVec.getLsbD_and, BitVec.getLsbD_ofNat]
  simp [hj, Nat.testBit_two_pow_sub_one]
theorem lowb_zero (t : BitVec 32) : lowb t 0 = 0#32 := by simp [lowb]
theorem lowb_all (t : BitVec 32) : lowb t 32 = t := by
  apply BitVec.eq_of_getLsbD_eq
  intro j hj
  rw [lowb_bit t 32 j (by omega) hj]
  simp [hj]
theorem lowb_yes (t : BitVec 32) (i : Nat) (hi : i < 32) (h : t.getLsbD i = true) : lowb t (i + 1) = lowb t i ^^^ (1#32 <<< i) := by
  apply BitVec.eq_of_getLsbD_eq
  intro j hj
  rw [BitVec.getLsbD_xor, lowb_bit t _ j (by omega) hj, lowb_bit t _ j (by omega) hj, one_bit i j hj]
  rcases Nat.lt_trichotomy j i with h1 | h1 | h1
  · have a1 : j < i + 1 := by omega
    have a2 : j ≠ i := by omega
    simp [a1, a2, h1]
  · subst h1; simp [h]
  · have a1 : ¬ j < i + 1 := by omega
    have a2 : j ≠ i := by omega
    have a3 : ¬ j < i := by omega
    simp [a1, a2, a3]
theorem lowb_no (t : BitVec 32) (i : Nat) (_hi : i < 32) (h : t.getLsbD i = false) : lowb t (i + 1) = lowb t i := by
  apply BitVec.eq_of_getLsbD_eq
  intro j hj
  rw [lowb_bit t _ j (by omega) hj, lowb_bit t _ j (by omega) hj]
  rcases Nat.lt_trichotomy j i with h1 | h1 | h1
  · have a1 : j < i + 1 := by omega
    simp [a1, h1]
  · subst h1; simp [h]
  · have a1 : ¬ j < i + 1 := by omega
    have a3 : ¬ j < i := by omega
    simp [a1, a3]
theorem near_ne (b c : List Int) (M : Nat) (t : BitVec 32) (ht : t ≠ 0#32) (h : run 0xffffffff#32 c = run 0xffffffff#32 b ^^^ sn M t) : more 0#32 b ≠ more 0#32 c := by
  intro he
  unfold more at he
  have z : (0#32 ^^^ 0xffffffff#32 : BitVec 32) = 0xffffffff#32 := by decide
  rw [z, h] at he
  have h1 := congrArg (fun x => x ^^^ 0xffffffff#32 ^^^ run 0xffffffff#32 b) he
  generalize run 0xffffffff#32 b = x at h1
  have h2 : x ^^^ 0xffffffff#32 ^^^ 0xffffffff#32 ^^^ x = 0#32 := by
    rw [BitVec.xor_assoc x, BitVec.xor_self, BitVec.xor_zero, BitVec.xor_self]
  have h3 : x ^^^ sn M t ^^^ 0xffffffff#32 ^^^ 0xffffffff#32 ^^^ x = sn M t := by
    rw [BitVec.xor_assoc (x ^^^ sn M t), BitVec.xor_self, BitVec.xor_zero]
    have : x ^^^ sn M t ^^^ x = sn M t ^^^ (x ^^^ x) := by ac_rfl
    rw [this, BitVec.xor_self, BitVec.xor_zero]
  rw [h2, h3] at h1
  exact sn_ne M t ht h1.symm
end Go.Proofs.Ythggicgbcgeggaa.K
