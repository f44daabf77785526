/- Sums and quotients of doubles, plain: what they give is no NaN, or the operation has no answer; and infinities by comparison. Conditions: each theorem's own. -/
import Derived.Test.YtlifioeeooclfaaP3
import Derived.Laws.FloatArith
import Derived.Laws.NewFold
namespace Dbl
open Ieee Go
set_option linter.unusedSimpArgs false
theorem word_rung {n : Bool} {r : Nat} (h : r < top) : rung (double.word n r) = r ∧ double.word n r < full := by
  unfold Format.word rung full
  rw [double_sign]
  unfold top at *
  split <;> omega
theorem nearest_num (n : Bool) (m : Nat) (p : Int) : rung (double.nearest n m p) ≤ inf ∧ double.nearest n m p < full := by
  unfold Format.nearest
  dsimp only
  split
  · have := @word_rung n 0 (by decide)
    exact ⟨by rw [this.1]; decide, this.2⟩
  · rw [double_inf]
    have hm := Nat.min_le_right ((max (p + (Nat.log2 m : Int) - (double.fractionBits : Int)) double.leastPlace - double.leastPlace).toNat * double.binade + Toward.even.cut n (m <<< (p - max (p + (Nat.log2 m : Int) - (double.fractionBits : Int)) double.leastPlace).toNat) (max (p + (Nat.log2 m : Int) - (double.fractionBits : Int)) double.leastPlace - p).toNat) inf
    generalize min ((max (p + (Nat.log2 m : Int) - (double.fractionBits : Int)) double.leastPlace - double.leastPlace).toNat * double.binade + Toward.even.cut n (m <<< (p - max (p + (Nat.log2 m : Int) - (double.fractionBits : Int)) double.leastPlace).toNat) (max (p + (Nat.log2 m : Int) - (double.fractionBits : Int)) double.leastPlace - p).toNat) inf = r at *
    have hi : inf < top := by decide
    have := @word_rung n r (by omega)
    exact ⟨by rw [this.1]; exact hm, this.2⟩
/-- a datum that is no NaN -/
def Num (d : Datum) : Prop := ∀ s t, d ≠ .nan s t
theorem write_num {d : Datum} (h : Num d) : rung (double.write d) ≤ inf ∧ double.write d < full := by
  cases d with
  | number n m p => exact nearest_num n m p
  | infinity n =>
    have := @word_rung n inf (by decide)
    show rung (double.word n double.infRung) ≤ inf ∧ double.word n double.infRung < full
    rw [double_inf, this.1]; exact ⟨Nat.le_refl _, this.2⟩
  | nan n t => exact absurd rfl (h n t)
theorem sum_num {d e r : Datum} (h : d.sum e = some r) : Num r ∧ Num d ∧ Num e := by
  unfold Datum.sum at h
  cases d <;> cases e <;> simp at h
  all_goals first
    | (obtain ⟨_, rfl⟩ := h; refine ⟨?_, ?_, ?_⟩ <;> intro s t e <;> cases e)
    | (subst h; refine ⟨?_, ?_, ?_⟩ <;> intro s t e <;> cases e)
theorem read_isnan {a : Nat} : (∃ s t, double.read a = .nan s t) ↔ inf < rung a := by
  constructor
  · rintro ⟨s, t, h⟩
    rcases Nat.lt_trichotomy (rung a) inf with h1 | h1 | h1
    · rw [read_fin h1] at h; cases h
    · rw [read_inf h1] at h; cases h
    · exact h1
  · intro h
    exact ⟨_, _, read_nan h⟩
theorem add_some {a b r : Nat} (h : double.add a b = some r) : rung r ≤ inf ∧ r < full ∧ rung a ≤ inf ∧ rung b ≤ inf := by
  unfold Format.add at h
  obtain ⟨d, hd, rfl⟩ := Option.map_eq_some_iff.1 h
  obtain ⟨h1, h2, h3⟩ := sum_num hd
  have := write_num h1
  refine ⟨this.1, this.2, ?_, ?_⟩
  · apply Nat.le_of_not_lt; intro hn; obtain ⟨s, t, e⟩ := read_isnan.2 hn; exact h2 s t e
  · apply Nat.le_of_not_lt; intro hn; obtain ⟨s, t, e⟩ := read_isnan.2 hn; exact h3 s t e
theorem add_nan_left {a : Nat} (b : Nat) (h : inf < rung a) : double.add a b = none := by
  cases e : double.add a b with
  | none => rfl
  | some r => have := add_some e; omega
theorem add_nan_right (a : Nat) {b : Nat} (h : inf < rung b) : double.add a b = none := by
  cases e : double.add a b with
  | none => rfl
  | some r => have := add_some e; omega
theorem mag_zero {a : Nat} (h : mag a = 0) : rung a = 0 := by
  unfold mag at h
  split at h
  · exact h
  · unfold bin at h; omega
theorem quotient_num {k : Nat} {d e r : Datum} (h : d.quotient k e = some r) : Num r := by
  unfold Datum.quotient at h
  cases d <;> cases e <;> simp at h
  all_goals first
    | (subst h; intro s t e; cases e; done)
    | (split at h
       · split at h
         · cases h
         · injection h with h; subst h; intro s t e; cases e
       · injection h with h; subst h; intro s t e; cases e)
/-- a quotient that Go fixes -/
theorem div_some {a b : Nat} (ha : rung a ≤ inf) (hb : rung b ≤ inf) (h0 : rung b ≠ 0) (hi : ¬ (rung a = inf ∧ rung b = inf)) : ∃ r, double.div a b = some r ∧ rung r ≤ inf ∧ r < full := by
  suffices h : ∃ d, (double.read a).quotient (double.fractionBits + 2) (double.read b) = some d by
    obtain ⟨d, hd⟩ := h
    have := write_num (quotient_num hd)
    exact ⟨_, by unfold Format.div; rw [hd]; rfl, this.1, this.2⟩
  have hm : mag b ≠ 0 := fun h => h0 (mag_zero h)
  rcases Nat.lt_or_ge (rung a) inf with h1 | h1
  · rw [read_fin h1]
    rcases Nat.lt_or_ge (rung b) inf with h2 | h2
    · rw [read_fin h2]
      simp only [Datum.quotient]
      rw [if_neg hm]
      exact ⟨_, rfl⟩
    · rw [read_inf (by omega)]
      exact ⟨_, rfl⟩
  · rw [read_inf (u := a) (by omega), read_fin (u := b) (by omega)]
    exact ⟨_, rfl⟩
/-- the bits of a NaN that the model chooses -/
theorem nan_cut (x y t : Nat) : inf < rung ((Question.nanBits .f64 x y).cut t) ∧ (Question.nanBits .f64 x y).cut t < full := by
  show inf < rung ((t % 2) * 2 ^ 63 + 0x7ff0000000000000 + 1 + (t / 2) % (2 ^ 52 - 1)) ∧ (t % 2) * 2 ^ 63 + 0x7ff0000000000000 + 1 + (t / 2) % (2 ^ 52 - 1) < full
  have h1 := Nat.mod_lt (t / 2) (show 0 < 2 ^ 52 - 1 by decide)
  have h2 := Nat.mod_lt t (show 0 < 2 by decide)
  generalize t / 2 % (2 ^ 52 - 1) = x at *
  generalize t % 2 = y at *
  unfold rung inf top full
  omega
theorem run_add_none {P : Program} (w : World) (t : TypeId) (x y : Nat) (h : double.add x y = none) : (binOp .add t (.float .f64 x) (.float .f64 y)).run P w = .ok (.float .f64 ((Question.nanBits .f64 x y).cut (w.tape w.drawn (.nanBits .f64 x y)))) w.drew := by
  have h' : FloatKind.f64.format.add x y = none := h
  simp [binOp, Op.floatArith, h', Question.forced]
/-- above the greatest number: plus infinity alone -/
theorem gt_max (a : Nat) : (FloatKind.f64.format.order a 9218868437227405311 == some .gt) = decide (neg a = false ∧ rung a = inf) := by
  rcases Nat.lt_or_ge inf (rung a) with h | h
  · have : FloatKind.f64.format.order a 9218868437227405311 = none := order_nan_left _ h
    rw [this]
    symm
    rw [decide_eq_false (by omega)]; rfl
  · have : FloatKind.f64.format.order a 9218868437227405311 = some (compare (pos a) (pos 9218868437227405311)) := order_num h (by decide)
    rw [this]
    have e : pos 9218868437227405311 = 9218868437227405311 := by decide
    rw [e]
    by_cases hc : neg a = false ∧ rung a = inf
    · rw [decide_eq_true hc]
      have : compare (pos a) 9218868437227405311 = .gt := by
        rw [Int.compare_eq_gt]; unfold pos; rw [hc.1, hc.2]; decide
      rw [this]; rfl
    · rw [decide_eq_false hc]
      have : compare (pos a) 9218868437227405311 ≠ .gt := by
        rw [Ne, Int.compare_eq_gt]
        unfold pos
        cases hn : neg a
        · have : rung a ≠ inf := fun h' => hc ⟨hn, h'⟩
          unfold inf at this h
          simp; omega
        · first | (simp; omega) | simp | omega; omega
      cases hq : compare (pos a) 9218868437227405311
      · rfl
      · rfl
      · exact absurd hq this
theorem neg_lt {a : Nat} (h : a < full) : neg a = decide (top ≤ a) := by
  unfold neg
  rw [Bool.eq_iff_iff]
  simp
  unfold full at h; unfold top; omega
theorem rung_rung (a : Nat) : rung (rung a) = rung a := Nat.mod_mod _ _
theorem neg_rung (a : Nat) : neg (rung a) = false := by
  have := Nat.mod_lt a (show 0 < top by decide)
  rw [neg_lt (by unfold rung full top at *; omega), decide_eq_false (by unfold rung; omega)]
end Dbl
