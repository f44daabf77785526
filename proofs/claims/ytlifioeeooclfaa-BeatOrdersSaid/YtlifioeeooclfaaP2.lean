/- What the program does to a word's bits (and, or, xor, and-not with the top bit) as plain arithmetic, and the words of the real layer: canonU, keyU, ofU, cmpU, kindU. Conditions: words of 64 bits. -/
import Derived.Test.YtlifioeeooclfaaP1
import Derived.Laws.BitsAllLaws
import Derived.Laws.Bits64
namespace Dbl
set_option linter.unusedSimpArgs false
open Go

def full : Nat := 18446744073709551616
def nan1 : Nat := 9221120237041090561
def canonU (a : Nat) : Nat := if rung a = 0 then 0 else if inf < rung a then nan1 else a
def keyU (a : Nat) : Nat := if top ≤ a then 18446744073709551615 - a else a + top
def ofU (k : Nat) : Nat := if top ≤ k then k - top else 18446744073709551615 - k
def cmpU (a b : Nat) : Int := if keyU (canonU a) < keyU (canonU b) then -1 else if keyU (canonU b) < keyU (canonU a) then 1 else 0
def kindU (a : Nat) : Int := if rung a = 0 then 0 else if rung a < inf then 1 else if rung a = inf then 2 else 3

theorem nat_and_top (a : Nat) (h : a < full) : a &&& 9223372036854775808 = if top ≤ a then 9223372036854775808 else 0 := by
  have e : (9223372036854775808 : Nat) = 2 ^ 63 := by decide
  rw [e]
  have hb : a.testBit 63 = decide (top ≤ a) := by
    rw [Nat.testBit_eq_decide_div_mod_eq]
    have : a / 2 ^ 63 % 2 = 1 ↔ top ≤ a := by unfold top full at *; omega
    simp [this]
  refine Nat.eq_of_testBit_eq fun i => ?_
  rw [Nat.testBit_and, Nat.testBit_two_pow]
  by_cases hi : 63 = i
  · subst hi; rw [hb]; by_cases h1 : top ≤ a
    · rw [if_pos h1, Nat.testBit_two_pow]; simp [h1]
    · rw [if_neg h1]; simp [h1]
  · by_cases h1 : top ≤ a
    · rw [if_pos h1, Nat.testBit_two_pow]; simp [hi]
    · rw [if_neg h1]; simp [hi]

theorem and_top_hi {a : Nat} (h : a < full) (h1 : top ≤ a) : bits .and .u64 (a : Int) 9223372036854775808 = 9223372036854775808 := by
  have := u64_and_nat a 9223372036854775808 h (by decide)
  rw [nat_and_top a h, if_pos h1] at this; exact this
theorem and_top_lo {a : Nat} (h : a < full) (h1 : a < top) : bits .and .u64 (a : Int) 9223372036854775808 = 0 := by
  have := u64_and_nat a 9223372036854775808 h (by decide)
  rw [nat_and_top a h, if_neg (by omega)] at this; exact this
theorem or_top_lo {a : Nat} (h1 : a < top) : bits .or .u64 (a : Int) 9223372036854775808 = ((a + top : Nat) : Int) := by
  have hf : a < full := by unfold full top at *; omega
  have := u64_or_nat a 9223372036854775808 hf (by decide)
  rw [show ((9223372036854775808 : Nat) : Int) = 9223372036854775808 from rfl] at this
  rw [this]; congr 1
  have := Nat.two_pow_add_eq_or_of_lt (i := 63) (show a < 2 ^ 63 from h1) 1
  rw [Nat.or_comm, show (9223372036854775808 : Nat) = 2 ^ 63 * 1 by decide, ← this]; unfold top; omega
theorem andNot_top {a : Nat} (h : a < full) : bits .andNot .u64 (a : Int) 9223372036854775808 = ((rung a : Nat) : Int) := by
  have := u64_andNot_nat a 9223372036854775808 h (by decide)
  rw [show ((9223372036854775808 : Nat) : Int) = 9223372036854775808 from rfl] at this
  rw [this]; congr 1
  rw [show (18446744073709551615 - 9223372036854775808 : Nat) = 2 ^ 63 - 1 by decide, Nat.and_two_pow_sub_one_eq_mod]; rfl
theorem xor_max {a : Nat} (h : a < full) : bits .xor .u64 IntKind.u64.max (a : Int) = ((18446744073709551615 - a : Nat) : Int) := by
  show IntKind.u64.wrap ((BitVec.ofInt 64 IntKind.u64.max ^^^ BitVec.ofInt 64 (a : Int)).toNat : Int) = _
  have h1 : BitVec.ofInt 64 IntKind.u64.max = BitVec.allOnes 64 := by decide
  rw [h1, BitVec.allOnes_xor, BitVec.toNat_not, ofInt_u64 a h, IntKind.wrap_u64]
  unfold full at h; omega

theorem rung_lt (a : Nat) : rung a < top := Nat.mod_lt _ (by decide)
theorem keyU_lt {a : Nat} (h : a < full) : keyU a < full := by unfold keyU full top at *; split <;> omega
theorem ofU_lt {a : Nat} (h : a < full) : ofU a < full := by unfold ofU full top at *; split <;> omega
theorem canonU_lt {a : Nat} (h : a < full) : canonU a < full := by unfold canonU; split; decide; split; decide; exact h

/-- what the walk asks of a float against itself, and against nought -/
theorem self_nan {a : Nat} (h : inf < rung a) : (FloatKind.f64.format.order a a != some .eq) = true := by
  have : FloatKind.f64.format.order a a = none := order_nan_left a h
  rw [this]; rfl
theorem self_num {a : Nat} (h : rung a ≤ inf) : (FloatKind.f64.format.order a a != some .eq) = false := by
  have : FloatKind.f64.format.order a a = some (compare (pos a) (pos a)) := order_num h h
  rw [this]; simp
theorem pos_zero {a : Nat} : pos a = 0 ↔ rung a = 0 := by unfold pos; split <;> omega
theorem zero_eq {a : Nat} (h : rung a = 0) : (FloatKind.f64.format.order a 0 == some .eq) = true := by
  have : FloatKind.f64.format.order a 0 = some (compare (pos a) (pos 0)) := order_num (by rw [h]; decide) (by decide)
  rw [this, pos_zero.2 h]; rfl
theorem zero_ne {a : Nat} (h : rung a ≠ 0) : (FloatKind.f64.format.order a 0 == some .eq) = false := by
  by_cases h1 : rung a ≤ inf
  · have : FloatKind.f64.format.order a 0 = some (compare (pos a) (pos 0)) := order_num h1 (by decide)
    rw [this]
    have hp : pos a ≠ 0 := fun e => h (pos_zero.1 e)
    have h0 : pos 0 = 0 := by decide
    rw [h0]
    simp [hp]
  · have : FloatKind.f64.format.order a 0 = none := order_nan_left 0 (by omega)
    rw [this]; rfl
end Dbl
