/- Rounding to the nearest double, plain: it is the rounding of a quotient of whole numbers; it rises; what is a double stays. Conditions: each theorem's own. -/
import Derived.Test.YtlifioeeooclfaaP6
namespace Dbl
open Ieee Go
set_option linter.unusedSimpArgs false
set_option linter.unusedVariables false
/-- N/M to the nearest whole number, between two to the even one -/
def rne (N M : Nat) : Nat := N / M + (decide (M < 2 * (N % M)) || (M == 2 * (N % M) && N / M % 2 == 1)).toNat
theorem rne_le (N M : Nat) : N / M ≤ rne N M ∧ rne N M ≤ N / M + 1 := by
  unfold rne
  have := Bool.toNat_le (decide (M < 2 * (N % M)) || (M == 2 * (N % M) && N / M % 2 == 1))
  omega
theorem div_le {N M N' M' : Nat} (hM : 0 < M) (hM' : 0 < M') (h : N * M' ≤ N' * M) : N / M ≤ N' / M' := by
  rw [Nat.le_div_iff_mul_le hM']
  have h1 : N / M * M ≤ N := Nat.div_mul_le_self N M
  have h2 : N / M * M * M' ≤ N' * M := Nat.le_trans (Nat.mul_le_mul_right M' h1) h
  rw [Nat.mul_right_comm] at h2
  exact Nat.le_of_mul_le_mul_right h2 hM
theorem rest_le {N M N' M' : Nat} (h : N * M' ≤ N' * M) (e : N / M = N' / M') : N % M * M' ≤ N' % M' * M := by
  have h1 := Nat.div_add_mod N M
  have h2 := Nat.div_add_mod N' M'
  rw [← h1, ← h2, e, Nat.add_mul, Nat.add_mul] at h
  have : M * (N' / M') * M' = M' * (N' / M') * M := by rw [Nat.mul_right_comm, Nat.mul_comm M M', Nat.mul_right_comm]
  rw [this] at h
  rw [← e] at h
  exact Nat.le_of_add_le_add_left h
theorem rne_mono {N M N' M' : Nat} (hM : 0 < M) (hM' : 0 < M') (h : N * M' ≤ N' * M) : rne N M ≤ rne N' M' := by
  have hl := div_le hM hM' h
  have r1 := rne_le N M
  have r2 := rne_le N' M'
  rcases Nat.lt_or_ge (N / M) (N' / M') with hlt | hge
  · omega
  · have e : N / M = N' / M' := by omega
    have hr := rest_le h e
    unfold rne
    rw [← e]
    generalize N % M = x at *
    generalize N' % M' = y at *
    -- the rest of the one is no greater a part
    have k1 : M < 2 * x → M' < 2 * y := by
      intro hx
      have : M * M' < 2 * y * M := by
        have := Nat.mul_lt_mul_of_pos_right hx hM'
        rw [Nat.mul_assoc] at this ⊢
        omega
      rw [Nat.mul_comm] at this
      exact Nat.lt_of_mul_lt_mul_right this
    have k2 : M = 2 * x → M' ≤ 2 * y := by
      intro hx
      have : M * M' ≤ 2 * y * M := by
        rw [hx, Nat.mul_assoc, Nat.mul_assoc, ← hx]
        exact Nat.mul_le_mul_left 2 hr
      rw [Nat.mul_comm] at this
      exact Nat.le_of_mul_le_mul_right this hM
    generalize N / M % 2 = p at *
    by_cases c1 : M < 2 * x
    · have := k1 c1
      simp [c1, this]
    · by_cases c2 : M = 2 * x
      · have := k2 c2
        by_cases hp : p = 1
        · by_cases c3 : M' < 2 * y
          · simp [c1, c2, c3]
            exact Bool.toNat_le _
          · have c4 : M' = 2 * y := by omega
            simp [c1, c2, c3, c4, hp]
        · have : (p == 1) = false := beq_eq_false_iff_ne.2 hp
          simp only [decide_eq_false c1, this, Bool.and_false, Bool.or_false, Bool.toNat_false]
          omega
      · have : (M == 2 * x) = false := beq_eq_false_iff_ne.2 c2
        simp only [decide_eq_false c1, this, Bool.false_and, Bool.or_false, Bool.toNat_false]
        omega
theorem rne_exact (n : Nat) {M : Nat} (hM : 0 < M) : rne (n * M) M = n := by
  unfold rne
  rw [Nat.mul_div_cancel _ hM, Nat.mul_mod_left]
  have : (M == 2 * 0) = false := beq_eq_false_iff_ne.2 (by omega)
  simp only [Nat.mul_zero, Nat.not_lt_zero, decide_false, Bool.false_or] at this ⊢
  rw [this]
  simp
/-- how many digits are dropped -/
def drop (N M : Nat) : Nat := (N / M).log2 - 52
/-- the rung nearest to N/M least units -/
def near (N M : Nat) : Nat := drop N M * bin + rne N (M * 2 ^ drop N M)
theorem log2_mono {a b : Nat} (h : a ≤ b) : a.log2 ≤ b.log2 := by
  rcases Nat.eq_zero_or_pos a with rfl | ha
  · rw [Nat.log2_zero]; exact Nat.zero_le _
  · rw [Nat.le_log2 (by omega)]
    exact Nat.le_trans (Nat.log2_self_le (by omega)) h
theorem near_upper {N M : Nat} (hM : 0 < M) : rne N (M * 2 ^ drop N M) ≤ 2 * bin := by
  have h := (rne_le N (M * 2 ^ drop N M)).2
  rw [← Nat.div_div_eq_div_mul] at h
  have : N / M / 2 ^ drop N M < 2 * bin := by
    rw [Nat.div_lt_iff_lt_mul (Nat.two_pow_pos _)]
    have h1 := @Nat.lt_log2_self (N / M)
    have h2 : 2 ^ ((N / M).log2 + 1) ≤ 2 * bin * 2 ^ drop N M := by
      have : 2 * bin = 2 ^ 53 := rfl
      rw [this, ← Nat.pow_add]
      exact Nat.pow_le_pow_right (by decide) (by unfold drop; omega)
    omega
  omega
theorem near_lower {N M : Nat} (hd : 0 < drop N M) : bin ≤ rne N (M * 2 ^ drop N M) := by
  have h := (rne_le N (M * 2 ^ drop N M)).1
  rw [← Nat.div_div_eq_div_mul] at h
  refine Nat.le_trans ?_ h
  rw [Nat.le_div_iff_mul_le (Nat.two_pow_pos _)]
  have hl : (N / M).log2 = drop N M + 52 := by unfold drop at *; omega
  have hne : N / M ≠ 0 := by
    intro e; unfold drop at hd; rw [e, Nat.log2_zero] at hd; omega
  have h1 := Nat.log2_self_le hne
  rw [hl, Nat.pow_add, Nat.mul_comm] at h1
  exact h1
theorem near_mono {N M N' M' : Nat} (hM : 0 < M) (hM' : 0 < M') (h : N * M' ≤ N' * M) : near N M ≤ near N' M' := by
  have hk : drop N M ≤ drop N' M' := Nat.sub_le_sub_right (log2_mono (div_le hM hM' h)) 52
  unfold near
  rcases Nat.lt_or_ge (drop N M) (drop N' M') with hlt | hge
  · have h1 := near_upper (N := N) hM
    have h2 := near_lower (N := N') (M := M') (by omega)
    have h3 : (drop N M + 1) * bin ≤ drop N' M' * bin := Nat.mul_le_mul_right bin hlt
    rw [Nat.add_mul, Nat.one_mul] at h3
    omega
  · have e : drop N M = drop N' M' := by omega
    rw [e]
    refine Nat.add_le_add_left (rne_mono (Nat.mul_pos hM (Nat.two_pow_pos _)) (Nat.mul_pos hM' (Nat.two_pow_pos _)) ?_) _
    rw [← Nat.mul_assoc, ← Nat.mul_assoc]
    exact Nat.mul_le_mul_right _ h
theorem near_eq {N M N' M' : Nat} (hM : 0 < M) (hM' : 0 < M') (h : N * M' = N' * M) : near N M = near N' M' :=
  Nat.le_antisymm (near_mono hM hM' (Nat.le_of_eq h)) (near_mono hM' hM (Nat.le_of_eq h.symm))
theorem near_one (r : Nat) : near (size r) 1 = r := by
  by_cases h1 : r < bin
  · have hs := size_le_of_lt r h1
    have hd : drop r 1 = 0 := by
      unfold drop
      rw [Nat.div_one]
      have : r.log2 ≤ 51 ∨ r = 0 := by
        rcases Nat.eq_zero_or_pos r with h0 | h0
        · exact .inr h0
        · left
          have := (Nat.log2_lt (by omega : r ≠ 0) (k := 52)).2 h1
          omega
      rcases this with h | rfl
      · omega
      · rw [Nat.log2_zero]
    rw [hs]
    unfold near
    rw [hd, Nat.pow_zero, Nat.one_mul, Nat.zero_mul, Nat.zero_add]
    have := rne_exact r (M := 1) (by decide)
    rwa [Nat.mul_one] at this
  · have hs : size r = (bin + r % bin) * 2 ^ (r / bin - 1) := if_neg h1
    have hlt := Nat.mod_lt r (show 0 < bin by decide)
    have hq : 1 ≤ r / bin := by rw [Nat.le_div_iff_mul_le (by decide)]; omega
    have hd : drop (size r) 1 = r / bin - 1 := by
      unfold drop
      rw [Nat.div_one, hs]
      have : ((bin + r % bin) * 2 ^ (r / bin - 1)).log2 = 52 + (r / bin - 1) := by
        rw [Nat.log2_eq_iff (by have := Nat.two_pow_pos (r / bin - 1); exact Nat.ne_of_gt (Nat.mul_pos (by omega) this))]
        constructor
        · rw [Nat.pow_add]
          exact Nat.mul_le_mul_right _ (Nat.le_add_right _ _)
        · rw [show 52 + (r / bin - 1) + 1 = 53 + (r / bin - 1) by omega, Nat.pow_add]
          exact Nat.mul_lt_mul_of_pos_right (by have : (2 : Nat) ^ 53 = 2 * bin := rfl; omega) (Nat.two_pow_pos _)
      rw [this]; omega
    unfold near
    rw [hd, Nat.one_mul, hs, rne_exact _ (Nat.two_pow_pos _)]
    have h3 := Nat.div_add_mod r bin
    have h4 : (r / bin - 1) * bin + bin = r / bin * bin := by
      rw [← Nat.succ_mul]; congr 1; omega
    rw [Nat.mul_comm bin] at h3
    omega
/-- what is a double stays -/
theorem near_exact (r : Nat) {M : Nat} (hM : 0 < M) : near (size r * M) M = r := by
  rw [near_eq hM (show 0 < 1 by decide) (N' := size r) (by rw [Nat.mul_one])]
  exact near_one r
theorem near_zero (M : Nat) (hM : 0 < M) : near 0 M = 0 := by
  have := near_exact 0 hM
  rwa [size_zero, Nat.zero_mul] at this
end Dbl
