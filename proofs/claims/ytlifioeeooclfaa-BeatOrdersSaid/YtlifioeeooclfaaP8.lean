/- Sums, quotients and whole numbers as doubles, by the rounding of a quotient of whole numbers. Conditions: each theorem's own. -/
import Derived.Test.YtlifioeeooclfaaP7
namespace Dbl
open Ieee Go
set_option linter.unusedSimpArgs false
set_option linter.unusedVariables false
theorem rne_eq {N M N' M' : Nat} (hM : 0 < M) (hM' : 0 < M') (h : N * M' = N' * M) : rne N M = rne N' M' :=
  Nat.le_antisymm (rne_mono hM hM' (Nat.le_of_eq h)) (rne_mono hM' hM (Nat.le_of_eq h.symm))
theorem rne_small {n M : Nat} (h : 2 * n < M) : rne n M = 0 := by
  unfold rne
  rw [Nat.div_eq_of_lt (by omega), Nat.mod_eq_of_lt (by omega), decide_eq_false (by omega), beq_eq_false_iff_ne.2 (by omega : M ≠ 2 * n)]
  rfl
theorem cut_eq (s : Bool) (n d : Nat) : Toward.even.cut s n d = rne n (2 ^ d) := by
  have e : Toward.even.cut s n d = rne n (2 ^ min d (n.log2 + 2)) := by
    unfold Toward.cut rne
    simp only [Nat.one_shiftLeft]
  rw [e]
  rcases Nat.le_total d (n.log2 + 2) with h | h
  · rw [Nat.min_eq_left h]
  · rw [Nat.min_eq_right h]
    have h1 := @Nat.lt_log2_self n
    have h2 : 2 * n < 2 ^ (n.log2 + 2) := by rw [Nat.pow_succ]; omega
    have h3 : 2 ^ (n.log2 + 2) ≤ 2 ^ d := Nat.pow_le_pow_right (by decide) h
    rw [rne_small h2, rne_small (by omega)]
theorem log2_mul {m : Nat} (h : m ≠ 0) (a : Nat) : (m * 2 ^ a).log2 = m.log2 + a := by
  have hp := Nat.two_pow_pos a
  rw [Nat.log2_eq_iff (Nat.mul_ne_zero h (by omega))]
  have h1 := Nat.log2_self_le h
  have h2 := @Nat.lt_log2_self m
  constructor
  · rw [Nat.pow_add]; exact Nat.mul_le_mul_right _ h1
  · rw [show m.log2 + a + 1 = m.log2 + 1 + a by omega, Nat.pow_add]; exact Nat.mul_lt_mul_of_pos_right h2 hp
theorem log2_div (m b : Nat) : (m / 2 ^ b).log2 = m.log2 - b := by
  rcases Nat.eq_zero_or_pos (m / 2 ^ b) with h | h
  · rw [h, Nat.log2_zero]
    have : m < 2 ^ b := by
      rcases Nat.lt_or_ge m (2 ^ b) with h1 | h1
      · exact h1
      · have := (Nat.le_div_iff_mul_le (Nat.two_pow_pos b) (x := 1) (y := m)).2 (by omega); omega
    rcases Nat.eq_zero_or_pos m with rfl | hm
    · simp
    · have := (Nat.log2_lt (by omega : m ≠ 0) (k := b)).2 this
      omega
  · have hm : m ≠ 0 := by rintro rfl; simp at h
    have h0 : 2 ^ b ≤ m := by
      have := (Nat.le_div_iff_mul_le (Nat.two_pow_pos b) (x := 1) (y := m)).1 h; omega
    have hb : b ≤ m.log2 := (Nat.le_log2 hm).2 h0
    have h1 := Nat.log2_self_le hm
    have h2 := @Nat.lt_log2_self m
    rw [Nat.log2_eq_iff (by omega)]
    constructor
    · rw [Nat.le_div_iff_mul_le (Nat.two_pow_pos b), ← Nat.pow_add, show m.log2 - b + b = m.log2 by omega]; exact h1
    · rw [Nat.div_lt_iff_lt_mul (Nat.two_pow_pos b), ← Nat.pow_add, show m.log2 - b + 1 + b = m.log2 + 1 by omega]; exact h2
theorem nearest_eq (s : Bool) (m : Nat) (p : Int) : double.nearest s m p = double.word s (min (near (m * 2 ^ (p + 1074).toNat) (2 ^ (-(p + 1074)).toNat)) inf) := by
  unfold Format.nearest
  dsimp only
  split
  · rename_i h
    rw [h, Nat.zero_mul, near_zero _ (Nat.two_pow_pos _)]; rfl
  · rename_i hm
    rw [double_inf, double_place, double_binade, cut_eq, Nat.shiftLeft_eq]
    rw [show ((double.fractionBits : Nat) : Int) = 52 from rfl]
    obtain ⟨K, hK⟩ : ∃ K : Nat, (K : Int) = max (p + (m.log2 : Int) - 52) (-1074) - -1074 := ⟨(max (p + (m.log2 : Int) - 52) (-1074) - -1074).toNat, by omega⟩
    have hL : max (p + (m.log2 : Int) - 52) (-1074) = (K : Int) - 1074 := by omega
    rw [hL]
    have hk : drop (m * 2 ^ (p + 1074).toNat) (2 ^ (-(p + 1074)).toNat) = K := by
      unfold drop
      rcases Int.le_total 0 (p + 1074) with h | h
      · rw [show (-(p + 1074)).toNat = 0 by omega, Nat.pow_zero, Nat.div_one, log2_mul hm]; omega
      · rw [show (p + 1074).toNat = 0 by omega, Nat.pow_zero, Nat.mul_one, log2_div]; omega
    unfold near
    rw [hk, show ((K : Int) - 1074 - -1074).toNat = K by omega]
    congr 2
    congr 1
    refine rne_eq (Nat.two_pow_pos _) (Nat.mul_pos (Nat.two_pow_pos _) (Nat.two_pow_pos _)) ?_
    rw [Nat.mul_assoc, Nat.mul_assoc, ← Nat.pow_add, ← Nat.pow_add, ← Nat.pow_add]
    congr 2
    omega
/-- the magnitude of a finite word in least units -/
theorem size_word {r : Nat} (h : r < top) (s : Bool) : size (rung (double.word s r)) = size r := by rw [(word_rung h).1]
theorem rne_sticky {N n d : Nat} (hn : 0 < n) : rne (2 * (N / n) + (N % n != 0).toNat) (2 ^ (d + 2)) = rne (2 * N) (n * 2 ^ (d + 2)) := by
  -- by the quotient and the rest
  have hq := Nat.div_add_mod N n
  have hr := Nat.mod_lt N hn
  obtain ⟨q, hq'⟩ : ∃ q, N / n = q := ⟨_, rfl⟩
  obtain ⟨r, hr'⟩ : ∃ r, N % n = r := ⟨_, rfl⟩
  rw [hq', hr'] at hq
  rw [hr'] at hr
  rw [hq', hr']
  obtain ⟨G, hG⟩ : ∃ G, 2 ^ (d + 1) = 2 * G := ⟨2 ^ d, by rw [Nat.pow_succ, Nat.mul_comm]⟩
  have hG0 : 0 < G := by have := Nat.two_pow_pos (d + 1); omega
  have e2 : 2 ^ (d + 2) = 2 * (2 * G) := by rw [Nat.pow_succ, hG, Nat.mul_comm]
  rw [e2, ← hq]
  -- q by 2G
  have hx := Nat.div_add_mod q (2 * G)
  have hy := Nat.mod_lt q (show 0 < 2 * G by omega)
  obtain ⟨x, hx'⟩ : ∃ x, q / (2 * G) = x := ⟨_, rfl⟩
  obtain ⟨y, hy'⟩ : ∃ y, q % (2 * G) = y := ⟨_, rfl⟩
  rw [hx', hy'] at hx
  rw [hy'] at hy
  have hb : (r != 0).toNat ≤ 1 := Bool.toNat_le _
  -- the left
  have L0 : 2 * q + (r != 0).toNat = 2 * (2 * G) * x + (2 * y + (r != 0).toNat) := by
    rw [← hx, Nat.mul_assoc 2 (2 * G) x]; omega
  have L1 : (2 * q + (r != 0).toNat) / (2 * (2 * G)) = x := by
    rw [L0, Nat.mul_add_div (by omega), Nat.div_eq_of_lt (by omega), Nat.add_zero]
  have L2 : (2 * q + (r != 0).toNat) % (2 * (2 * G)) = 2 * y + (r != 0).toNat := by
    rw [L0, Nat.mul_add_mod, Nat.mod_eq_of_lt (by omega)]
  -- the right
  have hyr : n * y + r < n * (2 * G) := by
    have : n * (y + 1) ≤ n * (2 * G) := Nat.mul_le_mul_left n hy
    rw [Nat.mul_add, Nat.mul_one] at this
    omega
  have R0 : 2 * (n * q + r) = n * (2 * (2 * G)) * x + 2 * (n * y + r) := by
    have h1 : n * q = n * (2 * G * x) + n * y := by rw [← Nat.mul_add, hx]
    have h2 : n * (2 * (2 * G)) * x = 2 * (n * (2 * G * x)) := by
      rw [Nat.mul_assoc, Nat.mul_assoc 2 (2 * G) x, Nat.mul_left_comm]
    rw [h1, h2]; omega
  have e3 : n * (2 * (2 * G)) = 2 * (n * (2 * G)) := Nat.mul_left_comm ..
  have R1 : 2 * (n * q + r) / (n * (2 * (2 * G))) = x := by
    rw [R0, Nat.mul_add_div (by rw [e3]; have := Nat.mul_pos hn (show 0 < 2 * G by omega); omega), Nat.div_eq_of_lt (by omega), Nat.add_zero]
  have R2 : 2 * (n * q + r) % (n * (2 * (2 * G))) = 2 * (n * y + r) := by
    rw [R0, Nat.mul_add_mod, Nat.mod_eq_of_lt (by omega)]
  unfold rne
  rw [L1, L2, R1, R2, e3]
  -- the same test
  have hnG : n * (2 * G) = 2 * (n * G) := Nat.mul_left_comm ..
  have T1 : (2 * (2 * G) < 2 * (2 * y + (r != 0).toNat)) ↔ (2 * (n * (2 * G)) < 2 * (2 * (n * y + r))) := by
    by_cases h0 : r = 0
    · subst h0
      simp only [bne_self_eq_false, Bool.toNat_false, Nat.add_zero]
      rw [hnG]
      constructor
      · intro h
        have : n * G < n * y := Nat.mul_lt_mul_of_pos_left (by omega) hn
        omega
      · intro h
        have : n * G < n * y := by omega
        have := Nat.lt_of_mul_lt_mul_left this
        omega
    · have hb1 : (r != 0) = true := by simpa using h0
      rw [hb1, Bool.toNat_true, hnG]
      constructor
      · intro h
        have : n * G ≤ n * y := Nat.mul_le_mul_left n (by omega)
        omega
      · intro h
        rcases Nat.lt_or_ge y G with h1 | h1
        · have : n * (y + 1) ≤ n * G := Nat.mul_le_mul_left n h1
          rw [Nat.mul_add, Nat.mul_one] at this
          omega
        · omega
  have T2 : (2 * (2 * G) = 2 * (2 * y + (r != 0).toNat)) ↔ (2 * (n * (2 * G)) = 2 * (2 * (n * y + r))) := by
    by_cases h0 : r = 0
    · subst h0
      simp only [bne_self_eq_false, Bool.toNat_false, Nat.add_zero]
      rw [hnG]
      constructor
      · intro h
        have : G = y := by omega
        rw [this]
      · intro h
        have : n * G = n * y := by omega
        have := Nat.eq_of_mul_eq_mul_left hn this
        omega
    · have hb1 : (r != 0) = true := by simpa using h0
      rw [hb1, Bool.toNat_true, hnG]
      constructor
      · intro h; omega
      · intro h
        exfalso
        rcases Nat.lt_or_ge y G with h1 | h1
        · have : n * (y + 1) ≤ n * G := Nat.mul_le_mul_left n h1
          rw [Nat.mul_add, Nat.mul_one] at this
          omega
        · have : n * G ≤ n * y := Nat.mul_le_mul_left n h1
          omega
  rw [decide_eq_decide.2 T1, show (2 * (2 * G) == 2 * (2 * y + (r != 0).toNat)) = (2 * (n * (2 * G)) == 2 * (2 * (n * y + r))) from by rw [Bool.eq_iff_iff, beq_iff_eq, beq_iff_eq]; exact T2]
theorem log2_between {N M k : Nat} (hM : 0 < M) (h1 : 2 ^ k * M ≤ N) (h2 : N < 2 ^ (k + 1) * M) : (N / M).log2 = k := by
  have a : 2 ^ k ≤ N / M := (Nat.le_div_iff_mul_le hM).2 h1
  have b : N / M < 2 ^ (k + 1) := (Nat.div_lt_iff_lt_mul hM).2 h2
  exact (Nat.log2_eq_iff (by have := Nat.two_pow_pos k; omega)).2 ⟨a, b⟩
/-- N/M lies in [2w, 2w+2) times 2^(x-y): what is dropped hangs on w alone -/
theorem drop_between {N M w x y : Nat} (hM : 0 < M) (hw : 0 < w) (hxy : x = 0 ∨ y = 0) (h1 : 2 * w * 2 ^ x * M ≤ N * 2 ^ y) (h2 : N * 2 ^ y < (2 * w + 2) * 2 ^ x * M) : drop N M = w.log2 + 1 + x - y - 52 := by
  unfold drop
  have a := Nat.log2_self_le (n := w) (by omega)
  have b := @Nat.lt_log2_self w
  have e : 2 ^ (w.log2 + 1) = 2 * 2 ^ w.log2 := by rw [Nat.pow_succ, Nat.mul_comm]
  have l1 : 2 ^ (w.log2 + 1 + x) * M ≤ N * 2 ^ y := by
    refine Nat.le_trans (Nat.mul_le_mul_right M ?_) h1
    rw [Nat.pow_add]
    exact Nat.mul_le_mul_right _ (by omega)
  have l2 : N * 2 ^ y < 2 ^ (w.log2 + 1 + x + 1) * M := by
    refine Nat.lt_of_lt_of_le h2 (Nat.mul_le_mul_right M ?_)
    rw [show w.log2 + 1 + x + 1 = w.log2 + 2 + x by omega, Nat.pow_add]
    refine Nat.mul_le_mul_right _ ?_
    rw [Nat.pow_succ, e]; omega
  rcases Nat.lt_or_ge (w.log2 + 1 + x) y with hy | hy
  · have : N / M = 0 := by
      apply Nat.div_eq_of_lt
      have hp := Nat.two_pow_pos y
      have : 2 ^ (w.log2 + 1 + x + 1) ≤ 2 ^ y := Nat.pow_le_pow_right (by decide) hy
      have h3 : N * 2 ^ y < M * 2 ^ y := by
        refine Nat.lt_of_lt_of_le l2 ?_
        rw [Nat.mul_comm]
        exact Nat.mul_le_mul_left M this
      exact Nat.lt_of_mul_lt_mul_right h3
    rw [this, Nat.log2_zero]; omega
  · rw [log2_between (k := w.log2 + 1 + x - y) hM]
    · have hp := Nat.two_pow_pos y
      refine Nat.le_of_mul_le_mul_right ?_ hp
      rw [Nat.mul_right_comm, ← Nat.pow_add, show w.log2 + 1 + x - y + y = w.log2 + 1 + x by omega]
      exact l1
    · have hp := Nat.two_pow_pos y
      refine Nat.lt_of_mul_lt_mul_right (a := 2 ^ y) ?_
      rw [Nat.mul_right_comm, ← Nat.pow_add, show w.log2 + 1 + x - y + 1 + y = w.log2 + 1 + x + 1 by omega]
      exact l2
theorem near_sticky {V n x y : Nat} (hn : 0 < n) (hw : 2 ^ 53 ≤ V / n) (hxy : x = 0 ∨ y = 0) :
    near ((2 * (V / n) + (V % n != 0).toNat) * 2 ^ x) (2 ^ y) = near (2 * V * 2 ^ x) (n * 2 ^ y) := by
  obtain ⟨w, hw'⟩ : ∃ w, V / n = w := ⟨_, rfl⟩
  have hq := Nat.div_add_mod V n
  have hr := Nat.mod_lt V hn
  have hb : (V % n != 0).toNat ≤ 1 := Bool.toNat_le _
  have hw0 : 0 < w := by rw [← hw']; exact Nat.lt_of_lt_of_le (Nat.two_pow_pos 53) hw
  have hlog : 53 ≤ w.log2 := (Nat.le_log2 (by omega)).2 (hw' ▸ hw)
  have hpx := Nat.two_pow_pos x
  have hpy := Nat.two_pow_pos y
  have d1 : drop ((2 * (V / n) + (V % n != 0).toNat) * 2 ^ x) (2 ^ y) = w.log2 + 1 + x - y - 52 := by
    refine drop_between hpy hw0 hxy ?_ ?_
    · refine Nat.mul_le_mul_right _ (Nat.mul_le_mul_right _ ?_)
      rw [hw']; exact Nat.le_add_right _ _
    · refine Nat.mul_lt_mul_of_pos_right (Nat.mul_lt_mul_of_pos_right ?_ hpx) hpy
      rw [hw']; omega
  have d2 : drop (2 * V * 2 ^ x) (n * 2 ^ y) = w.log2 + 1 + x - y - 52 := by
    refine drop_between (Nat.mul_pos hn hpy) hw0 hxy ?_ ?_
    · rw [← Nat.mul_assoc (2 * w * 2 ^ x) n]
      refine Nat.mul_le_mul_right _ ?_
      rw [Nat.mul_right_comm]
      refine Nat.mul_le_mul_right _ ?_
      rw [← hq, hw', Nat.mul_assoc, Nat.mul_comm w n]
      omega
    · rw [← Nat.mul_assoc ((2 * w + 2) * 2 ^ x) n]
      refine Nat.mul_lt_mul_of_pos_right ?_ hpy
      rw [Nat.mul_right_comm (2 * w + 2)]
      refine Nat.mul_lt_mul_of_pos_right ?_ hpx
      rw [Nat.add_mul, Nat.mul_assoc, Nat.mul_comm w n]
      rw [hw'] at hq
      omega
  unfold near
  rw [d1, d2]
  congr 1
  generalize hd : w.log2 + 1 + x - y - 52 = d
  obtain ⟨g, hg⟩ : ∃ g, y + d = x + (g + 2) := ⟨y + d - x - 2, by omega⟩
  have e1 : 2 ^ y * 2 ^ d = 2 ^ (g + 2) * 2 ^ x := by rw [← Nat.pow_add, ← Nat.pow_add]; congr 1; omega
  rw [Nat.mul_assoc n, e1]
  rw [rne_eq (Nat.mul_pos (Nat.two_pow_pos _) hpx) (Nat.two_pow_pos (g + 2)) (N' := 2 * (V / n) + (V % n != 0).toNat) (by rw [Nat.mul_assoc, Nat.mul_comm (2 ^ x)]),
    rne_eq (Nat.mul_pos hn (Nat.mul_pos (Nat.two_pow_pos (g + 2)) hpx)) (Nat.mul_pos hn (Nat.two_pow_pos (g + 2))) (N' := 2 * V) (by rw [Nat.mul_assoc (2 * V), ← Nat.mul_assoc n, Nat.mul_comm (2 ^ x)])]
  exact rne_sticky hn
def big : Nat := 1074
theorem big_eq : big = 1074 := rfl
/-- one in least units -/
def unit : Nat := 2 ^ big
theorem unit_pos : 0 < unit := Nat.two_pow_pos _
/-- the quotient of two finite doubles is the rounding of the quotient -/
theorem div_eq {a b : Nat} (ha : rung a < inf) (hb : rung b < inf) (h0 : rung b ≠ 0) :
    double.div a b = some (double.word (neg a ^^ neg b) (min (near (size (rung a) * unit) (size (rung b))) inf)) := by
  have hm : mag b ≠ 0 := fun h => h0 (mag_zero h)
  unfold Format.div
  rw [read_fin ha, read_fin hb]
  simp only [Datum.quotient]
  rw [if_neg hm, Option.map_some]
  refine congrArg some ?_
  show double.nearest _ _ _ = _
  rw [nearest_eq, show double.fractionBits + 2 = 54 from rfl]
  refine congrArg (fun z => double.word (neg a ^^ neg b) (min z inf)) ?_
  rw [size_mag, size_mag]
  by_cases hz : mag a = 0
  · rw [hz]
    simp only [Nat.zero_shiftLeft, Nat.zero_div, Nat.zero_mod, Nat.zero_mul, bne_self_eq_false, Bool.toNat_false, Nat.mul_zero, Nat.add_zero]
    rw [near_zero _ (Nat.two_pow_pos _), near_zero _ (Nat.mul_pos (by omega) (Nat.two_pow_pos _))]
  · rw [Nat.shiftLeft_eq]
    obtain ⟨more, hmore⟩ : ∃ k, 54 + (mag b).log2 - (mag a).log2 = k := ⟨_, rfl⟩
    rw [hmore]
    have hV : 2 ^ 53 ≤ mag a * 2 ^ more / mag b := by
      rw [Nat.le_div_iff_mul_le (by omega)]
      have a1 := Nat.log2_self_le hz
      have b1 := @Nat.lt_log2_self (mag b)
      have : 2 ^ 53 * mag b ≤ 2 ^ (54 + (mag b).log2) := by
        rw [show 54 + (mag b).log2 = 53 + ((mag b).log2 + 1) by omega, Nat.pow_add]
        exact Nat.mul_le_mul_left _ (by omega)
      refine Nat.le_trans this ?_
      refine Nat.le_trans (Nat.pow_le_pow_right (by decide) (show 54 + (mag b).log2 ≤ (mag a).log2 + more by omega)) ?_
      rw [Nat.pow_add]
      exact Nat.mul_le_mul_right _ a1
    rw [near_sticky (by omega) hV (by omega)]
    refine near_eq (Nat.mul_pos (by omega) (Nat.two_pow_pos _)) (Nat.mul_pos (by omega) (Nat.two_pow_pos _)) ?_
    have e : ∀ x : Int, x = -1074 + (up a : Int) - (-1074 + (up b : Int)) - (more : Int) - 1 + 1074 → 1 + more + x.toNat + up b = up a + big + (-x).toNat := by intro x hx; rw [big_eq]; omega
    have e := e _ rfl
    generalize (-1074 + (up a : Int) - (-1074 + (up b : Int)) - (more : Int) - 1 + 1074) = x at e ⊢
    have : 2 * (mag a * 2 ^ more) * 2 ^ x.toNat * (mag b * 2 ^ up b) = mag a * mag b * 2 ^ (1 + more + x.toNat + up b) := by
      rw [Nat.pow_add, Nat.pow_add, Nat.pow_add, Nat.pow_one]
      simp only [Nat.mul_assoc, Nat.mul_left_comm, Nat.mul_comm]
    rw [this, e, Nat.pow_add, Nat.pow_add]
    show _ = mag a * 2 ^ up a * 2 ^ big * _
    simp only [Nat.mul_assoc, Nat.mul_left_comm, Nat.mul_comm]
end Dbl
