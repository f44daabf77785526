/- The same facts with words as whole numbers, in the walk's own spelling. Conditions: words of 64 bits. -/
import Derived.Test.YtlifioeeooclfaaP2
import Derived.IntWalk
import Derived.RowKit
/-! Plain facts in the walk's own spelling: words as whole numbers. -/
namespace Dbl
open Go

/-- a word: a whole number of 64 bits -/
def Wd (a : Int) : Prop := 0 ≤ a ∧ a < 18446744073709551616
theorem Wd.nat {a : Int} (h : Wd a) : a.toNat < full := by unfold full; have := h.1; have := h.2; omega
theorem Wd.cast {a : Int} (h : Wd a) : ((a.toNat : Nat) : Int) = a := Int.toNat_of_nonneg h.1
theorem wd_nat {n : Nat} (h : n < full) : Wd (n : Int) := by unfold full at h; exact ⟨by omega, by omega⟩

theorem rung_int {a : Int} (h : Wd a) : ((rung a.toNat : Nat) : Int) = a % 9223372036854775808 := by
  unfold rung top; have := h.1; omega
theorem kind0 {a : Int} (h : Wd a) (h1 : a % 9223372036854775808 = 0) : kindU a.toNat = 0 := by
  have := rung_int h; exact if_pos (by omega)
theorem kind1 {a : Int} (h : Wd a) (h1 : ¬ a % 9223372036854775808 = 0) (h2 : a % 9223372036854775808 < 9218868437227405312) : kindU a.toNat = 1 := by
  have := rung_int h; unfold kindU; rw [if_neg (by omega), if_pos (by unfold inf; omega)]
theorem kind2 {a : Int} (h : Wd a) (h2 : a % 9223372036854775808 = 9218868437227405312) : kindU a.toNat = 2 := by
  have := rung_int h; unfold kindU; rw [if_neg (by omega), if_neg (by unfold inf; omega), if_pos (by unfold inf; omega)]
theorem kind3 {a : Int} (h : Wd a) (h2 : 9218868437227405312 < a % 9223372036854775808) : kindU a.toNat = 3 := by
  have := rung_int h; unfold kindU; rw [if_neg (by omega), if_neg (by unfold inf; omega), if_neg (by unfold inf; omega)]
theorem keyU_hi {a : Int} (h : Wd a) (h1 : 9223372036854775808 ≤ a) : IntKind.u64.wrap (18446744073709551615 - a) = ((keyU a.toNat : Nat) : Int) := by
  have := h.1; have := h.2
  rw [IntKind.wrap_u64]; unfold keyU top; rw [if_pos (by omega)]; omega
theorem keyU_lo {a : Int} (h : Wd a) (h1 : ¬ 9223372036854775808 ≤ a) : IntKind.u64.wrap (a + 9223372036854775808) = ((keyU a.toNat : Nat) : Int) := by
  have := h.1; have := h.2
  rw [IntKind.wrap_u64]; unfold keyU top; rw [if_neg (by omega)]; omega
theorem ofU_hi {a : Int} (h : Wd a) (h1 : 9223372036854775808 ≤ a) : IntKind.u64.wrap (a - 9223372036854775808) = ((ofU a.toNat : Nat) : Int) := by
  have := h.1; have := h.2
  rw [IntKind.wrap_u64]; unfold ofU top; rw [if_pos (by omega)]; omega
theorem ofU_lo {a : Int} (h : Wd a) (h1 : ¬ 9223372036854775808 ≤ a) : IntKind.u64.wrap (18446744073709551615 - a) = ((ofU a.toNat : Nat) : Int) := by
  have := h.1; have := h.2
  rw [IntKind.wrap_u64]; unfold ofU top; rw [if_neg (by omega)]; omega

/-- and the same of the bits, at whole numbers -/
theorem andI_hi {a : Int} (h : Wd a) (h1 : 9223372036854775808 ≤ a) : (bits .and .u64 a 9223372036854775808 != 0) = true := by
  have := and_top_hi h.nat (by unfold top; omega); rw [h.cast] at this; rw [this]; rfl
theorem andI_lo {a : Int} (h : Wd a) (h1 : ¬ 9223372036854775808 ≤ a) : (bits .and .u64 a 9223372036854775808 != 0) = false := by
  have := h.1
  have := and_top_lo h.nat (by unfold top; omega); rw [h.cast] at this; rw [this]; rfl
theorem orI_lo {a : Int} (h : Wd a) (h1 : ¬ 9223372036854775808 ≤ a) : bits .or .u64 a 9223372036854775808 = ((keyU a.toNat : Nat) : Int) := by
  have := h.1
  have e := or_top_lo (a := a.toNat) (by unfold top; omega); rw [h.cast] at e; rw [e]; unfold keyU top; rw [if_neg (by omega)]
theorem xorI_hi {a : Int} (h : Wd a) : bits .xor .u64 IntKind.u64.max a = 18446744073709551615 - a := by
  have e := xor_max h.nat; rw [h.cast] at e; rw [e]; have := h.1; have := h.2; omega
theorem andNotI {a : Int} (h : Wd a) : bits .andNot .u64 a 9223372036854775808 = ((rung a.toNat : Nat) : Int) := by
  have e := andNot_top h.nat; rw [h.cast] at e; exact e
theorem ofU_not_hi {a : Int} (h : Wd a) (h1 : 9223372036854775808 ≤ a) : (bits .andNot .u64 a 9223372036854775808).toNat = ofU a.toNat := by
  have := h.1; have := h.2
  rw [andNotI h]; unfold ofU rung top; rw [if_pos (by omega)]; omega
theorem ofU_xor_lo {a : Int} (h : Wd a) (h1 : ¬ 9223372036854775808 ≤ a) : (bits .xor .u64 IntKind.u64.max a).toNat = ofU a.toNat := by
  have := h.1; have := h.2
  rw [xorI_hi h]; unfold ofU top; rw [if_neg (by omega)]; omega
theorem keyU_xor_hi {a : Int} (h : Wd a) (h1 : 9223372036854775808 ≤ a) : bits .xor .u64 IntKind.u64.max a = ((keyU a.toNat : Nat) : Int) := by
  have := h.1; have := h.2
  rw [xorI_hi h]; unfold keyU top; rw [if_pos (by omega)]; omega

theorem copysign_bits : (bits BinOp.or IntKind.u64 (bits BinOp.andNot IntKind.u64 0 9223372036854775808) (bits BinOp.and IntKind.u64 13830554455654793216 9223372036854775808)).toNat = top := by decide

theorem kind_cases (a : Nat) : kindU a = 0 ∨ kindU a = 1 ∨ kindU a = 2 ∨ kindU a = 3 := by
  unfold kindU; split; simp; split; simp; split <;> simp
theorem canon0 {a : Nat} (h : kindU a = 0) : canonU a = 0 := by
  unfold kindU at h; unfold canonU
  by_cases h1 : rung a = 0
  · rw [if_pos h1]
  · rw [if_neg h1] at h; split at h; omega; split at h <;> omega
theorem canon3 {a : Nat} (h : kindU a = 3) : canonU a = nan1 := by
  unfold kindU at h; unfold canonU
  by_cases h1 : rung a = 0
  · rw [if_pos h1] at h; omega
  · rw [if_neg h1] at h ⊢
    by_cases h2 : rung a < inf
    · rw [if_pos h2] at h; omega
    · rw [if_neg h2] at h
      by_cases h3 : rung a = inf
      · rw [if_pos h3] at h; omega
      · rw [if_pos (by omega)]
theorem canon12 {a : Nat} (h0 : kindU a ≠ 0) (h3 : kindU a ≠ 3) : canonU a = a := by
  unfold kindU at h0 h3; unfold canonU
  by_cases h1 : rung a = 0
  · rw [if_pos h1] at h0; omega
  · rw [if_neg h1] at h3 ⊢
    by_cases h2 : inf < rung a
    · rw [if_neg (by omega), if_neg (by omega)] at h3; omega
    · rw [if_neg h2]
theorem kind_nan {a : Nat} : kindU a = 3 ↔ inf < rung a := by
  have h0 : 0 < inf := by decide
  unfold kindU; split; omega; split; omega; split <;> omega
theorem kind_zero {a : Nat} : kindU a = 0 ↔ rung a = 0 := by
  unfold kindU; split; omega; split; omega; split <;> omega
theorem kind_inf {a : Nat} : kindU a = 2 ↔ rung a = inf := by
  have h0 : 0 < inf := by decide
  unfold kindU; split; omega; split; omega; split <;> omega
theorem wd_of_wf {a : Int} (h : (Lit.int .u64 a).wf = true) : Wd a := by
  simp [Lit.wf] at h
  refine ⟨h.1, ?_⟩
  have := h.2
  simp [IntKind.max, IntKind.bits, IntKind.signed] at this
  omega
end Dbl
