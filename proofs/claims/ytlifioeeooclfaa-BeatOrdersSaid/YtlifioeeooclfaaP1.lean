/- The order of two IEEE doubles, by their words, is the order of their places on the signed ladder of rungs (or none, where one is a NaN). Conditions: none beyond each theorem's own. -/
import Ieee.Arith
import Derived.Laws.FloatBits
namespace Dbl
open Ieee

def inf : Nat := 9218868437227405312
def top : Nat := 9223372036854775808
def bin : Nat := 4503599627370496

theorem double_binade : double.binade = bin := by decide
theorem double_inf : double.infRung = inf := by decide
theorem double_sign : double.signWeight = top := by decide
theorem double_place : double.leastPlace = -1074 := by decide

def neg (u : Nat) : Bool := u / top % 2 == 1
def rung (u : Nat) : Nat := u % top
def isNan (u : Nat) : Bool := decide (inf < rung u)

/-- how great a rung's number is, in the least unit -/
def size (r : Nat) : Nat := if r < bin then r else (bin + r % bin) * 2 ^ (r / bin - 1)

theorem size_le_of_lt (r : Nat) : r < bin → size r = r := fun h => if_pos h

theorem size_succ (r : Nat) : size r < size (r + 1) := by
  unfold size
  have hb : bin = 4503599627370496 := rfl
  by_cases h1 : r + 1 < bin
  · rw [if_pos h1, if_pos (by omega)]; omega
  · by_cases h2 : r < bin
    · have : r + 1 = bin := by omega
      rw [if_pos h2, if_neg h1, this]
      simp [hb]; omega
    · rw [if_neg h2, if_neg h1]
      have hr := Nat.div_add_mod r bin
      have hm := Nat.mod_lt r (show 0 < bin by decide)
      have hq : 1 ≤ r / bin := by
        rw [Nat.le_div_iff_mul_le (by decide)]; omega
      by_cases h3 : r % bin + 1 < bin
      · have e1 : (r + 1) / bin = r / bin := by
          rw [Nat.div_eq_of_lt_le] <;> (rw [hb] at *; omega)
        have e2 : (r + 1) % bin = r % bin + 1 := by rw [hb] at *; omega
        rw [e1, e2]
        exact Nat.mul_lt_mul_of_pos_right (by omega) (Nat.two_pow_pos _)
      · have e1 : (r + 1) / bin = r / bin + 1 := by rw [hb] at *; omega
        have e2 : (r + 1) % bin = 0 := by rw [hb] at *; omega
        rw [e1, e2]
        have e3 : r / bin + 1 - 1 = (r / bin - 1) + 1 := by omega
        rw [e3, Nat.pow_succ]
        have : (bin + 0) * (2 ^ (r / bin - 1) * 2) = (bin + bin) * 2 ^ (r / bin - 1) := by
          rw [Nat.add_zero, Nat.mul_comm (2 ^ _) 2, ← Nat.mul_assoc]; congr 1
        rw [this]
        exact Nat.mul_lt_mul_of_pos_right (by omega) (Nat.two_pow_pos _)

theorem size_lt {r s : Nat} (h : r < s) : size r < size s := by
  induction s with
  | zero => omega
  | succ s ih =>
    by_cases e : r = s
    · subst e; exact size_succ r
    · exact Nat.lt_trans (ih (by omega)) (size_succ s)

theorem size_zero : size 0 = 0 := by decide

theorem size_lt_iff {r s : Nat} : size r < size s ↔ r < s := by
  constructor
  · intro h
    rcases Nat.lt_trichotomy r s with h1 | h1 | h1
    · exact h1
    · subst h1; omega
    · have := size_lt h1; omega
  · exact size_lt

/-- the magnitude and the steps above the least place of a finite word -/
def mag (u : Nat) : Nat := if rung u < bin then rung u else bin + rung u % bin
def up (u : Nat) : Nat := if rung u < bin then 0 else rung u / bin - 1

theorem size_mag (u : Nat) : size (rung u) = mag u * 2 ^ up u := by
  unfold size mag up
  split <;> simp

theorem read_fin {u : Nat} (h : rung u < inf) : double.read u = .number (neg u) (mag u) (-1074 + (up u : Int)) := by
  unfold Format.read
  simp only [double_binade, double_inf, double_sign, double_place]
  change (if rung u < bin then _ else _) = _
  unfold mag up
  split
  · simp [neg]; rfl
  · have h' : u % top < inf := h
    rw [if_pos h']; rfl

theorem read_inf {u : Nat} (h : rung u = inf) : double.read u = .infinity (neg u) := by
  unfold Format.read
  simp only [double_binade, double_inf, double_sign, double_place]
  have h' : u % top = inf := h
  rw [h', if_neg (by decide), if_neg (by decide), if_pos rfl]; rfl

theorem read_nan {u : Nat} (h : inf < rung u) : double.read u = .nan (neg u) (rung u - inf) := by
  unfold Format.read
  simp only [double_binade, double_inf, double_sign, double_place]
  have h' : inf < u % top := h
  have : bin < inf := by decide
  rw [if_neg (by omega), if_neg (by omega), if_neg (by omega)]; rfl

/-- where a number stands -/
def pos (u : Nat) : Int := if neg u then -(rung u : Int) else rung u

theorem compare_int_of_iff {a b c d : Int} (h1 : a < b ↔ c < d) (h2 : b < a ↔ d < c) : compare a b = compare c d := by
  rcases Int.lt_trichotomy a b with h | h | h
  · rw [Int.compare_eq_lt.2 h, Int.compare_eq_lt.2 (h1.1 h)]
  · subst h
    have : c = d := by omega
    subst this; simp
  · rw [Int.compare_eq_gt.2 h, Int.compare_eq_gt.2 (h2.1 h)]

def sgn (s : Bool) (n : Nat) : Int := if s then -(n : Int) else n

theorem sgn_mul (s : Bool) (n c : Nat) : sgn s (n * c) = sgn s n * (c : Int) := by
  unfold sgn; split <;> simp [Int.neg_mul]

theorem sgn_lt_iff {s t : Bool} {m n : Nat} : sgn s (size m) < sgn t (size n) ↔ sgn s m < sgn t n := by
  have h1 := @size_lt_iff m n
  have h2 := @size_lt_iff n m
  have h3 := @size_lt_iff 0 m
  have h4 := @size_lt_iff 0 n
  rw [size_zero] at h3 h4
  unfold sgn
  cases s <;> cases t <;> simp <;> omega

theorem signed_eq (s : Bool) (m k : Nat) : signed s m k = sgn s (m * 2 ^ k) := by
  unfold signed sgn; rw [Nat.shiftLeft_eq]

theorem order_fin {a b : Nat} (ha : rung a < inf) (hb : rung b < inf) : double.order a b = some (compare (pos a) (pos b)) := by
  unfold Format.order
  rw [read_fin ha, read_fin hb]
  simp only [Datum.order, Option.some.injEq]
  have e1 : ∃ c : Nat, up a = (-1074 + (up a : Int) - min (-1074 + (up a : Int)) (-1074 + (up b : Int))).toNat + c ∧ up b = (-1074 + (up b : Int) - min (-1074 + (up a : Int)) (-1074 + (up b : Int))).toNat + c :=
    ⟨min (up a) (up b), by omega, by omega⟩
  obtain ⟨c, h1, h2⟩ := e1
  generalize (-1074 + (up a : Int) - min (-1074 + (up a : Int)) (-1074 + (up b : Int))).toNat = x at *
  generalize (-1074 + (up b : Int) - min (-1074 + (up a : Int)) (-1074 + (up b : Int))).toNat = y at *
  have s1 : size (rung a) = mag a * 2 ^ x * 2 ^ c := by rw [size_mag, h1, Nat.pow_add, Nat.mul_assoc]
  have s2 : size (rung b) = mag b * 2 ^ y * 2 ^ c := by rw [size_mag, h2, Nat.pow_add, Nat.mul_assoc]
  have hc : (0 : Int) < ((2 ^ c : Nat) : Int) := by have := Nat.two_pow_pos c; omega
  have i1 := @sgn_lt_iff (neg a) (neg b) (rung a) (rung b)
  have i2 := @sgn_lt_iff (neg b) (neg a) (rung b) (rung a)
  rw [s1, s2] at i1 i2
  rw [signed_eq, signed_eq]
  generalize mag a * 2 ^ x = A at *
  generalize mag b * 2 ^ y = B at *
  rw [sgn_mul, sgn_mul] at i1 i2
  refine compare_int_of_iff ?_ ?_
  · rw [show pos a = sgn (neg a) (rung a) from rfl, show pos b = sgn (neg b) (rung b) from rfl, ← i1]
    exact ⟨fun h => Int.mul_lt_mul_of_pos_right h hc, fun h => Int.lt_of_mul_lt_mul_right h (Int.le_of_lt hc)⟩
  · rw [show pos a = sgn (neg a) (rung a) from rfl, show pos b = sgn (neg b) (rung b) from rfl, ← i2]
    exact ⟨fun h => Int.mul_lt_mul_of_pos_right h hc, fun h => Int.lt_of_mul_lt_mul_right h (Int.le_of_lt hc)⟩

theorem order_nan_left {a : Nat} (b : Nat) (h : inf < rung a) : double.order a b = none := by
  unfold Format.order; rw [read_nan h]; rfl
theorem order_nan_right (a : Nat) {b : Nat} (h : inf < rung b) : double.order a b = none := by
  unfold Format.order; rw [read_nan h]; cases double.read a <;> rfl

theorem order_num {a b : Nat} (ha : rung a ≤ inf) (hb : rung b ≤ inf) : double.order a b = some (compare (pos a) (pos b)) := by
  by_cases h1 : rung a < inf
  · by_cases h2 : rung b < inf
    · exact order_fin h1 h2
    · have h2' : rung b = inf := by omega
      unfold Format.order; rw [read_fin h1, read_inf h2']
      simp only [Datum.order, Option.some.injEq, pos]
      cases neg b <;> cases neg a <;> simp [h2'] <;> symm <;> first | (rw [Int.compare_eq_lt]; omega) | (rw [Int.compare_eq_gt]; omega)
  · have h1' : rung a = inf := by omega
    by_cases h2 : rung b < inf
    · unfold Format.order; rw [read_inf h1', read_fin h2]
      simp only [Datum.order, Option.some.injEq, pos]
      cases neg b <;> cases neg a <;> simp [h1'] <;> symm <;> first | (rw [Int.compare_eq_lt]; omega) | (rw [Int.compare_eq_gt]; omega)
    · have h2' : rung b = inf := by omega
      unfold Format.order; rw [read_inf h1', read_inf h2']
      simp only [Datum.order, Option.some.injEq, pos, h1', h2']
      cases neg b <;> cases neg a <;> decide
end Dbl
