/- Whole numbers as doubles, sums of doubles that are not negative, a number by one and by itself. Conditions: each theorem's own. -/
import Derived.Test.YtlifioeeooclfaaP8
namespace Dbl
open Ieee Go
set_option linter.unusedSimpArgs false
set_option linter.unusedVariables false
/-- the double of a small whole number -/
def wi (n : Nat) : Nat := near (n * unit) 1
theorem rep (n : Nat) (h : n < 9007199254740992) : ∃ r, size r = n * unit ∧ r < inf := by
  rcases Nat.eq_zero_or_pos n with rfl | hn
  · exact ⟨0, by rw [size_zero, Nat.zero_mul], by decide⟩
  · have hl : n.log2 ≤ 52 := by
      have := (Nat.log2_lt (by omega : n ≠ 0) (k := 53)).2 h
      omega
    have h1 := Nat.log2_self_le (n := n) (by omega)
    have h2 := @Nat.lt_log2_self n
    obtain ⟨kept, hk⟩ : ∃ kept, kept = n * 2 ^ (52 - n.log2) := ⟨_, rfl⟩
    have hk1 : bin ≤ kept := by
      have : 2 ^ n.log2 * 2 ^ (52 - n.log2) ≤ n * 2 ^ (52 - n.log2) := Nat.mul_le_mul_right _ h1
      rw [← Nat.pow_add, show n.log2 + (52 - n.log2) = 52 by omega] at this
      rw [hk]; exact this
    have hk2 : kept < 2 * bin := by
      have : n * 2 ^ (52 - n.log2) < 2 ^ (n.log2 + 1) * 2 ^ (52 - n.log2) := Nat.mul_lt_mul_of_pos_right h2 (Nat.two_pow_pos _)
      rw [← Nat.pow_add, show n.log2 + 1 + (52 - n.log2) = 53 by omega] at this
      rw [hk]; exact this
    obtain ⟨k, hkk⟩ : ∃ k, k = big + n.log2 - 52 := ⟨_, rfl⟩
    have hb : 0 < bin := by decide
    have e1 : ((k + 1) * bin + (kept - bin)) / bin = k + 1 := by
      rw [Nat.add_comm, Nat.add_mul_div_right _ _ hb, Nat.div_eq_of_lt (by omega), Nat.zero_add]
    have e2 : ((k + 1) * bin + (kept - bin)) % bin = kept - bin := by
      rw [Nat.add_comm, Nat.add_mul_mod_self_right, Nat.mod_eq_of_lt (by omega)]
    refine ⟨(k + 1) * bin + (kept - bin), ?_, ?_⟩
    · unfold size
      have : ¬ (k + 1) * bin + (kept - bin) < bin := by rw [Nat.add_mul, Nat.one_mul]; omega
      rw [if_neg this, e1, e2, show bin + (kept - bin) = kept by omega, hk, show k + 1 - 1 = k by omega, Nat.mul_assoc, ← Nat.pow_add]
      show n * _ = n * 2 ^ big
      rw [show 52 - n.log2 + k = big by rw [hkk]; have := big_eq; omega]
    · have : (k + 1) * bin ≤ 1075 * bin := Nat.mul_le_mul_right bin (by rw [hkk]; have := big_eq; omega)
      have : inf = 2047 * bin := by decide
      omega
theorem wi_size {n : Nat} (h : n < 9007199254740992) : size (wi n) = n * unit ∧ wi n < inf := by
  obtain ⟨r, hr, hi⟩ := rep n h
  have : wi n = r := by unfold wi; rw [← hr]; exact near_one r
  rw [this]; exact ⟨hr, hi⟩
theorem inf_lt_top : inf < top := by decide
theorem wi_rung {n : Nat} (h : n < 9007199254740992) : rung (wi n) = wi n ∧ neg (wi n) = false ∧ wi n < full := by
  have h1 := (wi_size h).2
  have := inf_lt_top
  have e : wi n % top = wi n := Nat.mod_eq_of_lt (by omega)
  refine ⟨e, ?_, by unfold full top at *; omega⟩
  have := neg_rung (wi n)
  rwa [show rung (wi n) = wi n from e] at this
theorem wi_mono {m n : Nat} (h : m ≤ n) : wi m ≤ wi n := near_mono (by decide) (by decide) (by rw [Nat.mul_one, Nat.mul_one]; exact Nat.mul_le_mul_right _ h)
theorem wi_pos {n : Nat} (h : n < 9007199254740992) (h0 : 0 < n) : wi n ≠ 0 := by
  intro e
  have := (wi_size h).1
  rw [e, size_zero] at this
  have := Nat.mul_pos h0 unit_pos
  omega
theorem wi_zero : wi 0 = 0 := by unfold wi; rw [Nat.zero_mul]; exact near_zero 1 (by decide)
theorem word_pos (r : Nat) : double.word false r = r := rfl
theorem nearest_zero (s : Bool) (m : Nat) : double.nearest s m 0 = double.word s (min (near (m * unit) 1) inf) := by
  have := nearest_eq s m 0
  rw [show ((0 : Int) + 1074).toNat = big from rfl, show (-((0 : Int) + 1074)).toNat = 0 from rfl, Nat.pow_zero] at this
  exact this
/-- 'float64(n)' -/
theorem ofInt_eq {n : Nat} (h : n < 9007199254740992) : floatOfInt .f64 (n : Int) = wi n := by
  show double.nearest (decide ((n : Int) < 0)) (n : Int).natAbs 0 = wi n
  rw [nearest_zero, decide_eq_false (by omega), Int.natAbs_natCast, word_pos]
  exact Nat.min_eq_left (Nat.le_of_lt (wi_size h).2)
theorem word_self {a : Nat} (h : a < full) : double.word (neg a) (rung a) = a := by
  unfold Format.word
  rw [double_sign, neg_lt h]
  unfold rung top full at *
  split <;> rename_i hh
  · have := of_decide_eq_true hh; omega
  · have := of_decide_eq_false (Bool.eq_false_iff.2 hh); omega
theorem one_eq : wi 1 = 4607182418800017408 := by
  have : size 4607182418800017408 = 1 * unit := by
    unfold size
    obtain ⟨k, hk⟩ : ∃ k, 4607182418800017408 / bin - 1 = k := ⟨_, rfl⟩
    have hk' : k = 1022 := by rw [← hk]; decide
    rw [if_neg (by decide), show (4607182418800017408 : Nat) % bin = 0 by decide, hk, Nat.add_zero, Nat.one_mul, show bin = 2 ^ 52 from rfl, ← Nat.pow_add]
    exact congrArg (2 ^ ·) (by rw [hk', big_eq])
  unfold wi
  rw [← this]
  exact near_one _
/-- nothing and a number -/
theorem add_zero {a : Nat} (h : a < full) (hn : rung a ≤ inf) : double.add 0 a = some (if rung a = 0 then 0 else a) := by
  have r0 : rung 0 = 0 := by decide
  rcases Nat.lt_or_ge (rung a) inf with h1 | h1
  · unfold Format.add
    rw [read_fin (u := 0) (by decide), read_fin h1]
    simp only [Datum.sum]
    have hm0 : mag 0 = 0 := by decide
    have hu0 : up 0 = 0 := by decide
    have hn0 : neg 0 = false := by decide
    rw [hm0, hu0, hn0, Option.map_some]
    refine congrArg some ?_
    show double.nearest _ _ _ = _
    have hmin : min (-1074 + ((0 : Nat) : Int)) (-1074 + (up a : Int)) = -1074 := by omega
    rw [hmin, signed_eq, signed_eq, Nat.zero_mul, show (-1074 + ((up a : Nat) : Int) - -1074).toNat = up a by omega, ← size_mag]
    have hs0 : sgn false 0 = 0 := rfl
    rw [hs0, Int.zero_add]
    by_cases hz : rung a = 0
    · rw [if_pos hz, hz, size_zero]
      have : sgn (neg a) 0 = 0 := by unfold sgn; split <;> rfl
      rw [this, if_pos rfl, Bool.false_and, Int.natAbs_zero, nearest_eq, Nat.zero_mul, near_zero _ (Nat.two_pow_pos _), Nat.zero_min, word_pos]
    · rw [if_neg hz]
      have hp : size (rung a) ≠ 0 := by
        have := @size_lt_iff 0 (rung a)
        rw [size_zero] at this; omega
      have hne : sgn (neg a) (size (rung a)) ≠ 0 := by unfold sgn; split <;> omega
      have hlt : decide (sgn (neg a) (size (rung a)) < 0) = neg a := by
        unfold sgn
        cases neg a
        · simp
        · simp; omega
      have habs : (sgn (neg a) (size (rung a))).natAbs = size (rung a) := by unfold sgn; split <;> omega
      rw [if_neg hne, hlt, habs, nearest_eq, show (-1074 + 1074 : Int) = 0 by decide, show (0 : Int).toNat = 0 by decide, show (-(0 : Int)).toNat = 0 by decide, Nat.pow_zero, Nat.mul_one, near_one, Nat.min_eq_left hn, word_self h]
  · have e : rung a = inf := by omega
    unfold Format.add
    rw [read_fin (u := 0) (by decide), read_inf e]
    have : rung a ≠ 0 := by rw [e]; decide
    rw [if_neg this]
    show some (double.word (neg a) double.infRung) = _
    rw [double_inf, ← e, word_self h]
/-- a sum of two that are finite and not negative -/
theorem add_pos {a b : Nat} (ha : rung a < inf) (hb : rung b < inf) (na : neg a = false) (nb : neg b = false) : double.add a b = some (min (near (size (rung a) + size (rung b)) 1) inf) := by
  unfold Format.add
  rw [read_fin ha, read_fin hb]
  simp only [Datum.sum]
  rw [na, nb, Option.map_some]
  refine congrArg some ?_
  show double.nearest _ _ _ = _
  obtain ⟨c, h1, h2⟩ : ∃ c : Nat, up a = (-1074 + (up a : Int) - min (-1074 + (up a : Int)) (-1074 + (up b : Int))).toNat + c ∧ up b = (-1074 + (up b : Int) - min (-1074 + (up a : Int)) (-1074 + (up b : Int))).toNat + c :=
    ⟨min (up a) (up b), by omega, by omega⟩
  have hc : min (-1074 + (up a : Int)) (-1074 + (up b : Int)) = (c : Int) - 1074 := by omega
  rw [hc] at h1 h2 ⊢
  rw [signed_eq, signed_eq]
  generalize (-1074 + (up a : Int) - ((c : Int) - 1074)).toNat = x at *
  generalize (-1074 + (up b : Int) - ((c : Int) - 1074)).toNat = y at *
  have e1 : sgn false (mag a * 2 ^ x) + sgn false (mag b * 2 ^ y) = ((mag a * 2 ^ x + mag b * 2 ^ y : Nat) : Int) := by
    unfold sgn; simp
  rw [e1, Int.natAbs_natCast]
  have e2 : (if (((mag a * 2 ^ x + mag b * 2 ^ y : Nat) : Int) = 0) then (false && false) else decide (((mag a * 2 ^ x + mag b * 2 ^ y : Nat) : Int) < 0)) = false := by
    split
    · rfl
    · exact decide_eq_false (by omega)
  rw [e2, nearest_eq, show ((c : Int) - 1074 + 1074) = c by omega, Int.toNat_natCast, show (-(c : Int)).toNat = 0 by omega, Nat.pow_zero, size_mag, size_mag, h1, h2, Nat.pow_add, Nat.pow_add, ← Nat.mul_assoc, ← Nat.mul_assoc, ← Nat.add_mul, word_pos]
/-- a number by one -/
theorem div_one {a : Nat} (h : a < full) (hn : rung a ≤ inf) : double.div a (wi 1) = some a := by
  have hw := wi_size (n := 1) (by decide)
  obtain ⟨hr, hng, hf⟩ := wi_rung (n := 1) (by decide)
  have h0 := wi_pos (n := 1) (by decide) (by decide)
  rcases Nat.lt_or_ge (rung a) inf with h1 | h1
  · rw [div_eq h1 (by rw [hr]; exact hw.2) (by rw [hr]; exact h0), hr, hw.1, hng, Nat.one_mul, near_exact _ unit_pos, Nat.min_eq_left hn]
    rw [show (neg a ^^ false) = neg a by simp, word_self h]
  · have e : rung a = inf := by omega
    unfold Format.div
    rw [read_inf e, read_fin (by rw [hr]; exact hw.2), hng]
    show some (double.word (neg a ^^ false) double.infRung) = _
    rw [double_inf, ← e, show (neg a ^^ false) = neg a by simp, word_self h]
/-- a number by itself -/
theorem div_self {a : Nat} (h : rung a < inf) (h0 : rung a ≠ 0) : double.div a a = some (wi 1) := by
  have hp : 0 < size (rung a) := by
    have := @size_lt_iff 0 (rung a)
    rw [size_zero] at this; omega
  have hw := wi_size (n := 1) (by decide)
  rw [div_eq h h h0]
  have e : near (size (rung a) * unit) (size (rung a)) = wi 1 := by
    unfold wi
    exact near_eq hp (by decide) (by rw [Nat.mul_one, Nat.one_mul, Nat.mul_comm])
  rw [e, Nat.min_eq_left (by omega), show (neg a ^^ neg a) = false by simp, word_pos]
end Dbl
