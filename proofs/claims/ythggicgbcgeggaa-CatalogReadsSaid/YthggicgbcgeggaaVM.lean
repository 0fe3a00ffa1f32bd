/- Plain laws of varints: what is written is read back; what is read, written, is what was read; no form is the front of another. -/
import Derived.Test.YthggicgbcgeggaaVA
set_option linter.unusedVariables false
set_option linter.unusedSimpArgs false
namespace Go.Proofs.Ythggicgbcgeggaa
open Go.RowKit
theorem wf_u64 {x : Int} (h : (Lit.int .u64 x).wf = true) : 0 ≤ x ∧ x < 18446744073709551616 := by
  simp [Lit.wf, IntKind.min, IntKind.max, IntKind.signed, IntKind.bits] at h; omega
theorem nth_pre (a b : List Int) (x : Int) : nth (a ++ x :: b) a.length = x := by
  have := nth_app2 a (x :: b) 0
  rw [Nat.add_zero] at this
  rw [this]; rfl
theorem pow_step (k : Nat) : (128 : Int) ^ (k + 1) = 128 ^ k * 128 := Int.pow_succ _ _
theorem rv_pre : ∀ (f k m : Nat) (pre rest : List Int), pre.length = k → k + f = 9 → m * 128 ^ k < 2 ^ 64 → (0 < k → m ≠ 0) →
    rvAt (pre ++ (vbf f m ++ rest)) k (f + 1) = (acc (pre ++ (vbf f m ++ rest)) k + (m : Int) * 128 ^ k, ((k + (vbf f m).length : Nat) : Int), 0)
  | f, k, m, pre, rest, hp, hk, hm, h0 => by
    by_cases hlt : m < 128
    · have hv : vbf f m = [(m : Int)] := vb_last hlt
      rw [hv]
      have hn : nth (pre ++ ([(m : Int)] ++ rest)) k = m := by
        rw [← hp]; exact nth_pre pre rest m
      have h9 : k = 9 → m ≤ 1 := by
        intro e; subst e
        have : (128 : Nat) ^ 9 = 9223372036854775808 := by decide
        rw [this] at hm
        omega
      rw [rvAt, if_neg (by simp; omega), hn, if_neg (by omega), if_pos (by omega), if_neg (by omega)]
      simp only [acc, hn]
      have e1 : ((m : Int) % 128) = m := by omega
      rw [e1]
      simp
    · have hlt2 : 128 ≤ m := by omega
      cases f with
      | zero =>
        have hk9 : k = 9 := by omega
        subst hk9
        have : (128 : Nat) ^ 9 = 9223372036854775808 := by decide
        rw [this] at hm
        omega
      | succ f =>
        have hv : vbf (f + 1) m = ((m % 128 + 128 : Nat) : Int) :: vbf f (m / 128) := by rw [vbf, if_neg hlt]
        have hl : pre ++ (vbf (f + 1) m ++ rest) = (pre ++ [((m % 128 + 128 : Nat) : Int)]) ++ (vbf f (m / 128) ++ rest) := by rw [hv]; simp
        have hn : nth (pre ++ (vbf (f + 1) m ++ rest)) k = ((m % 128 + 128 : Nat) : Int) := by
          rw [hv, ← hp, List.cons_append]; exact nth_pre pre _ _
        have hm2 : m / 128 * 128 ^ (k + 1) < 2 ^ 64 := by
          rw [Nat.pow_succ, Nat.mul_comm (128 ^ k), ← Nat.mul_assoc]
          exact Nat.lt_of_le_of_lt (Nat.mul_le_mul_right _ (Nat.div_mul_le_self m 128)) hm
        have ih := rv_pre f (k + 1) (m / 128) (pre ++ [((m % 128 + 128 : Nat) : Int)]) rest (by simp [hp]) (by omega) hm2 (fun _ => by omega)
        rw [← hl] at ih
        rw [rvAt, if_neg (by rw [hv]; simp; omega), hn, if_neg (by omega), if_neg (by omega), ih]
        have ea : acc (pre ++ (vbf (f + 1) m ++ rest)) (k + 1) = acc (pre ++ (vbf (f + 1) m ++ rest)) k + ((m % 128 : Nat) : Int) * 128 ^ k := by
          simp only [acc, hn]
          congr 2
          omega
        have el : (vbf (f + 1) m).length = (vbf f (m / 128)).length + 1 := by rw [hv]; rfl
        rw [ea, el]
        have em : (m : Int) = ((m % 128 : Nat) : Int) + ((m / 128 : Nat) : Int) * 128 := by omega
        have e3 : (m : Int) * 128 ^ k = ((m % 128 : Nat) : Int) * 128 ^ k + ((m / 128 : Nat) : Int) * 128 ^ (k + 1) := by
          conv => lhs; rw [em]
          rw [Int.add_mul, pow_step, Int.mul_assoc, Int.mul_comm 128]
        rw [e3]
        refine Prod.ext ?_ (Prod.ext ?_ rfl)
        · simp only; omega
        · simp only; omega
/-- what is written is read back, whatever stands behind -/
theorem rv_vb (n : Nat) (hn : n < 2 ^ 64) (rest : List Int) : rvI (vb n ++ rest) = ((n : Int), ((vb n).length : Int), 0) := by
  have := rv_pre 9 0 n [] rest rfl rfl (by simpa using hn) (by omega)
  simp only [List.nil_append] at this
  unfold rvI vb
  rw [this]
  simp [acc]
theorem drop_take_cons (l : List Int) (k j : Nat) (hk : k < l.length) (hj : k < j) : (l.drop k).take (j - k) = nth l k :: (l.drop (k + 1)).take (j - (k + 1)) := by
  have e : j - k = (j - (k + 1)) + 1 := by omega
  rw [e, List.drop_eq_getElem_cons hk, List.take_succ_cons, nth_at l k hk]
theorem rv_back (l : List Int) (hb : BY l) : ∀ (f k : Nat) (x j : Int), k + f = 10 → rvAt l k f = (x, j, 0) →
    ∃ m : Nat, x = acc l k + (m : Int) * 128 ^ k ∧ m * 128 ^ k < 2 ^ 64 ∧ (0 < k → m ≠ 0) ∧ ∃ j' : Nat, j = j' ∧ k < j' ∧ vbf (9 - k) m = (l.drop k).take (j' - k)
  | 0, k, x, j, h, he => by simp [rvAt] at he
  | f + 1, k, x, j, h, he => by
    obtain ⟨b0, b1⟩ := hb.nth k
    rw [rvAt] at he
    split at he
    · simp at he
    · rename_i hkl
      split at he
      · simp at he
      · rename_i h9
        split at he
        · rename_i hlt
          split at he
          · simp at he
          · rename_i hz
            simp only [Prod.mk.injEq] at he
            obtain ⟨rfl, rfl, _⟩ := he
            obtain ⟨m, hm⟩ := Int.eq_ofNat_of_zero_le b0
            have hmm : m < 128 := by omega
            refine ⟨m, ?_, ?_, fun hk => by omega, k + 1, by omega, by omega, ?_⟩
            · simp only [acc]; rw [hm]; congr 2; omega
            · by_cases hk9 : k = 9
              · have h1 : m ≤ 1 := by omega
                subst hk9
                have : (128 : Nat) ^ 9 = 9223372036854775808 := by decide
                rw [this]; omega
              · have hp := pow128_le (show k ≤ 8 by omega)
                have := Nat.mul_le_mul (show m ≤ 127 by omega) hp
                omega
            · rw [vb_last hmm, drop_take_cons l k (k + 1) (by omega) (by omega), hm]; simp
        · rename_i hge
          obtain ⟨m1, e1, e2, e3, j', rfl, hj, e4⟩ := rv_back l hb f (k + 1) x j (by omega) he
          obtain ⟨b, hbb⟩ := Int.eq_ofNat_of_zero_le b0
          have hb128 : 128 ≤ b ∧ b ≤ 255 := by omega
          have hk9 : k < 9 := by
            rcases Nat.lt_or_ge k 9 with h | h
            · exact h
            · exfalso; omega
          have hm1 : m1 ≠ 0 := e3 (by omega)
          refine ⟨(b - 128) + 128 * m1, ?_, ?_, fun _ => by omega, j', rfl, by omega, ?_⟩
          · rw [e1]
            simp only [acc]
            rw [hbb]
            have : ((b - 128 + 128 * m1 : Nat) : Int) = ((b : Int) % 128) + 128 * m1 := by omega
            rw [this, Int.add_mul, pow_step]
            have e5 : (128 : Int) * (m1 : Int) * 128 ^ k = (m1 : Int) * (128 ^ k * 128) := by
              rw [Int.mul_comm 128 (m1 : Int), Int.mul_assoc, Int.mul_comm 128]
            rw [e5]
            have e6 : ((Int.ofNat b) % 128) = ((b : Int) % 128) := rfl
            omega
          · have hpw : 0 < 128 ^ k := Nat.pow_pos (by omega)
            have : m1 * 128 ^ (k + 1) + 128 ^ (k + 1) ≤ 2 ^ 64 := by
              have hd : 128 ^ (k + 1) ∣ 2 ^ 64 := by
                rw [← pow7]; exact Nat.pow_dvd_pow 2 (by omega)
              obtain ⟨q, hq⟩ := hd
              rw [hq] at e2 ⊢
              rw [Nat.mul_comm m1] at e2 ⊢
              have := Nat.lt_of_mul_lt_mul_left e2
              calc 128 ^ (k + 1) * m1 + 128 ^ (k + 1) = 128 ^ (k + 1) * (m1 + 1) := by rw [Nat.mul_add, Nat.mul_one]
                _ ≤ _ := Nat.mul_le_mul_left _ (by omega)
            rw [Nat.pow_succ] at this
            have e7 : (b - 128 + 128 * m1) * 128 ^ k = (b - 128) * 128 ^ k + m1 * (128 ^ k * 128) := by
              rw [Nat.add_mul, Nat.mul_comm 128 m1, Nat.mul_assoc, Nat.mul_comm 128]
            have e8 : (b - 128) * 128 ^ k ≤ 127 * 128 ^ k := Nat.mul_le_mul_right _ (by omega)
            omega
          · have e9 : 9 - k = (9 - (k + 1)) + 1 := by omega
            rw [e9, vbf, if_neg (by omega), drop_take_cons l k j' (by omega) (by omega), hbb]
            have e10 : (b - 128 + 128 * m1) / 128 = m1 := by omega
            rw [e10, e4]
            congr 1
            have : (b - 128 + 128 * m1) % 128 + 128 = b := by omega
            rw [this]
/-- what is read, written, is what was read -/
theorem vb_rv (l : List Int) (hb : BY l) (x : Int) (j : Nat) (h : rvI l = (x, (j : Int), 0)) : vb x.toNat = l.take j := by
  obtain ⟨m, e1, _, _, j', e2, _, e3⟩ := rv_back l hb 10 0 x j rfl h
  have e4 : j = j' := by omega
  subst e4
  have e5 : x.toNat = m := by rw [e1]; simp [acc]
  rw [e5]
  simpa [vb] using e3
/-- a string's form is read back, whatever stands behind -/
theorem rs_sb (s bh : List Int) (hs : s.length ≤ 140737488351232) : rsI (sb s ++ bh) s.length = (s, ((sb s).length : Int), 0) := by
  have h := rv_vb s.length (by omega) (s ++ bh)
  have e : sb s ++ bh = vb s.length ++ (s ++ bh) := by simp [sb]
  unfold rsI
  rw [e, h, if_neg (by simp), if_neg (by simp), if_neg (by simp), if_neg (by simp; omega)]
  refine Prod.ext ?_ (Prod.ext ?_ rfl)
  · simp
  · simp [sb]
end Go.Proofs.Ythggicgbcgeggaa
