/- Keys rise as numbers do; the order by keys of the one form is total; equal numbers are of one rank. Conditions: words of 64 bits. -/
import Derived.Test.YtkejjobljiibeaaP3
namespace Dbl
open Go

theorem neg_iff {a : Nat} (h : a < full) : neg a = true ↔ top ≤ a := by
  unfold neg; simp; unfold full top at *; omega
theorem rung_of {a : Nat} (h : a < full) : rung a = if top ≤ a then a - top else a := by
  unfold rung; unfold full top at *; split <;> omega
theorem pos_of {a : Nat} (h : a < full) : pos a = if top ≤ a then -((a : Int) - 9223372036854775808) else (a : Int) := by
  unfold pos; rw [rung_of h]
  by_cases h1 : top ≤ a
  · rw [if_pos ((neg_iff h).2 h1), if_pos h1, if_pos h1]; unfold top at *; omega
  · rw [if_neg (fun e => h1 ((neg_iff h).1 e)), if_neg h1, if_neg h1]
theorem of_key {a : Nat} (h : a < full) : ofU (keyU a) = a := by
  unfold ofU keyU; unfold full top at *; split <;> split <;> omega
theorem key_of {a : Nat} (h : a < full) : keyU (ofU a) = a := by
  unfold ofU keyU; unfold full top at *; split <;> split <;> omega
theorem key_inj {a b : Nat} (ha : a < full) (hb : b < full) (h : keyU a = keyU b) : a = b := by
  rw [← of_key ha, h, of_key hb]
theorem key_lt_of_pos {a b : Nat} (ha : a < full) (hb : b < full) (h : pos a < pos b) : keyU a < keyU b := by
  rw [pos_of ha, pos_of hb] at h; unfold keyU; unfold full top at *
  split at h <;> split at h <;> (repeat' split) <;> omega

/-- a is before b, as numbers -/
def Fl (a b : Nat) : Prop := Go.FloatKind.f64.format.order a b = some .lt
def Fe (a b : Nat) : Prop := Go.FloatKind.f64.format.order a b = some .eq
theorem lt_iff {a b : Nat} : Fl a b ↔ rung a ≤ inf ∧ rung b ≤ inf ∧ pos a < pos b := by
  unfold Fl
  by_cases ha : rung a ≤ inf
  · by_cases hb : rung b ≤ inf
    · have : Go.FloatKind.f64.format.order a b = some (compare (pos a) (pos b)) := order_num ha hb
      rw [this]; simp [ha, hb, Int.compare_eq_lt]
    · have : Go.FloatKind.f64.format.order a b = none := order_nan_right a (by omega)
      rw [this]; simp; omega
  · have : Go.FloatKind.f64.format.order a b = none := order_nan_left b (by omega)
    rw [this]; simp; omega
theorem eq_iff {a b : Nat} : Fe a b ↔ rung a ≤ inf ∧ rung b ≤ inf ∧ pos a = pos b := by
  unfold Fe
  by_cases ha : rung a ≤ inf
  · by_cases hb : rung b ≤ inf
    · have : Go.FloatKind.f64.format.order a b = some (compare (pos a) (pos b)) := order_num ha hb
      rw [this]; simp [ha, hb]
    · have : Go.FloatKind.f64.format.order a b = none := order_nan_right a (by omega)
      rw [this]; simp; omega
  · have : Go.FloatKind.f64.format.order a b = none := order_nan_left b (by omega)
    rw [this]; simp; omega

/-- the key of the one form -/
def rank (a : Nat) : Nat := keyU (canonU a)
theorem cmpU_rank (a b : Nat) : cmpU a b = if rank a < rank b then -1 else if rank b < rank a then 1 else 0 := rfl
theorem rank_nan {a : Nat} (h : inf < rung a) : rank a = 18444492273895866369 := by
  unfold rank canonU; rw [if_neg (by have h0 : 0 < inf := (by decide); omega), if_pos h]; decide
theorem rank_num {a : Nat} (ha : a < full) (h : rung a ≤ inf) : ((rank a : Nat) : Int) = if pos a < 0 then 9223372036854775807 + pos a else 9223372036854775808 + pos a := by
  unfold rank canonU
  by_cases h0 : rung a = 0
  · rw [if_pos h0, pos_zero.2 h0]; decide
  · rw [if_neg h0, if_neg (by omega)]
    rw [pos_of ha]; rw [rung_of ha] at h0
    unfold keyU; unfold full top at *
    split at h0 <;> rename_i ht
    · rw [if_pos ht, if_pos ht, if_pos (by omega)]; omega
    · rw [if_neg ht, if_neg ht, if_neg (by omega)]; omega
theorem pos_le {a : Nat} (h : rung a ≤ inf) : pos a ≤ 9218868437227405312 ∧ -9218868437227405312 ≤ pos a := by
  unfold pos inf at *; split <;> omega
theorem rank_lt_iff {a b : Nat} (ha : a < full) (hb : b < full) (h1 : rung a ≤ inf) (h2 : rung b ≤ inf) : rank a < rank b ↔ pos a < pos b := by
  have := rank_num ha h1; have := rank_num hb h2
  constructor <;> intro h <;> (split at * <;> split at * <;> omega)
theorem rank_num_lt {a : Nat} (ha : a < full) (h : rung a ≤ inf) : rank a < 18444492273895866369 := by
  have := rank_num ha h; have := pos_le h
  split at * <;> omega
theorem rank_eq_iff {a b : Nat} (ha : a < full) (hb : b < full) (h1 : rung a ≤ inf) : rank a = rank b ↔ rung b ≤ inf ∧ pos a = pos b := by
  by_cases h2 : rung b ≤ inf
  · have := rank_lt_iff ha hb h1 h2; have := rank_lt_iff hb ha h2 h1
    constructor
    · intro h; exact ⟨h2, by omega⟩
    · intro ⟨_, h⟩; omega
  · have := rank_num_lt ha h1; have := rank_nan (a := b) (by omega)
    constructor
    · intro h; omega
    · intro ⟨h, _⟩; omega

theorem cmp_lt {a b : Nat} : cmpU a b = -1 ↔ rank a < rank b := by
  rw [cmpU_rank]; constructor
  · intro h; split at h; assumption; split at h <;> omega
  · intro h; rw [if_pos h]
theorem cmp_gt {a b : Nat} : cmpU a b = 1 ↔ rank b < rank a := by
  rw [cmpU_rank]; constructor
  · intro h; split at h; omega; split at h; assumption; omega
  · intro h; rw [if_neg (by omega), if_pos h]
theorem cmp_eq {a b : Nat} : cmpU a b = 0 ↔ rank a = rank b := by
  rw [cmpU_rank]; constructor
  · intro h; split at h; omega; split at h <;> omega
  · intro h; rw [if_neg (by omega), if_neg (by omega)]
theorem cmp_three (a b : Nat) : cmpU a b = -1 ∨ cmpU a b = 0 ∨ cmpU a b = 1 := by
  rw [cmpU_rank]; split; simp; split <;> simp
theorem cmp_anti (a b : Nat) : cmpU b a = - cmpU a b := by
  rcases cmp_three a b with h | h | h <;> rw [h]
  · rw [cmp_lt] at h; exact cmp_gt.2 h
  · rw [cmp_eq] at h; rw [show -(0 : Int) = 0 from rfl]; exact cmp_eq.2 h.symm
  · rw [cmp_gt] at h; exact cmp_lt.2 h
theorem cmp_trans {a b c : Nat} (h1 : cmpU a b = -1) (h2 : cmpU b c = -1) : cmpU a c = -1 := by
  rw [cmp_lt] at *; omega
theorem cmp_of_lt {a b : Nat} (ha : a < full) (hb : b < full) (h : Fl a b) : cmpU a b = -1 := by
  obtain ⟨h1, h2, h3⟩ := lt_iff.1 h
  exact cmp_lt.2 ((rank_lt_iff ha hb h1 h2).2 h3)
/-- equal as numbers: of one rank, and no NaN -/
theorem eq_rank {a b : Nat} (ha : a < full) (hb : b < full) : Fe a b ↔ cmpU a b = 0 ∧ Fe a a := by
  rw [cmp_eq, eq_iff, eq_iff]
  constructor
  · rintro ⟨h1, h2, h3⟩
    exact ⟨(rank_eq_iff ha hb h1).2 ⟨h2, h3⟩, h1, h1, rfl⟩
  · rintro ⟨h, h1, _, _⟩
    exact ⟨h1, ((rank_eq_iff ha hb h1).1 h)⟩

theorem ord_four (a b : Nat) : FloatKind.f64.format.order a b = some .lt ∨ FloatKind.f64.format.order a b = some .eq ∨ FloatKind.f64.format.order a b = some .gt ∨ FloatKind.f64.format.order a b = none := by
  rcases FloatKind.f64.format.order a b with _ | _ | _ | _ <;> simp
theorem ord_self (a : Nat) : FloatKind.f64.format.order a a = some .eq ∨ FloatKind.f64.format.order a a = none := by
  by_cases ha : rung a ≤ inf
  · exact .inl (eq_iff.2 ⟨ha, ha, rfl⟩)
  · exact .inr (order_nan_left a (by omega))
theorem gt_iff {a b : Nat} : FloatKind.f64.format.order a b = some .gt ↔ rung a ≤ inf ∧ rung b ≤ inf ∧ pos b < pos a := by
  by_cases ha : rung a ≤ inf
  · by_cases hb : rung b ≤ inf
    · have : Go.FloatKind.f64.format.order a b = some (compare (pos a) (pos b)) := order_num ha hb
      rw [this]; simp [ha, hb, Int.compare_eq_gt]
    · have : Go.FloatKind.f64.format.order a b = none := order_nan_right a (by omega)
      rw [this]; simp; omega
  · have : Go.FloatKind.f64.format.order a b = none := order_nan_left b (by omega)
    rw [this]; simp; omega
theorem none_iff {a b : Nat} : FloatKind.f64.format.order a b = none ↔ inf < rung a ∨ inf < rung b := by
  by_cases ha : rung a ≤ inf
  · by_cases hb : rung b ≤ inf
    · have : Go.FloatKind.f64.format.order a b = some (compare (pos a) (pos b)) := order_num ha hb
      rw [this]; simp; omega
    · have : Go.FloatKind.f64.format.order a b = none := order_nan_right a (by omega)
      rw [this]; simp; omega
  · have : Go.FloatKind.f64.format.order a b = none := order_nan_left b (by omega)
    rw [this]; simp; omega
theorem self_eq {a : Nat} (h : rung a ≤ inf) : FloatKind.f64.format.order a a = some .eq := eq_iff.2 ⟨h, h, rfl⟩
theorem self_none {a : Nat} (h : inf < rung a) : FloatKind.f64.format.order a a = none := order_nan_left a h
/-- between a number and the one of the next key there is none -/
theorem between {x y z : Nat} (hx : x < full) (hy : y < full) (hz : z < full) (hk : keyU y = keyU x + 1)
    (h1 : FloatKind.f64.format.order z x = some .gt) (h2 : FloatKind.f64.format.order z y = some .lt) : False := by
  obtain ⟨_, _, h3⟩ := gt_iff.1 h1
  obtain ⟨_, _, h4⟩ := lt_iff.1 h2
  have := key_lt_of_pos hx hz h3
  have := key_lt_of_pos hz hy h4
  omega

theorem or_byte {u c : Int} (h0 : 0 ≤ u) (h1 : u < 72057594037927936) (h2 : 0 ≤ c) (h3 : c < 256) : bits .or .u64 (u * 256) c = u * 256 + c := by
  obtain ⟨U, rfl⟩ := Int.eq_ofNat_of_zero_le h0
  obtain ⟨C, rfl⟩ := Int.eq_ofNat_of_zero_le h2
  have := u64_or_nat (U * 256) C (by omega) (by omega)
  have e : (((U * 256 : Nat)) : Int) = (U : Int) * 256 := by omega
  rw [e] at this
  rw [this]
  have h := Nat.two_pow_add_eq_or_of_lt (i := 8) (b := C) (by omega) U
  rw [show U * 256 = 2 ^ 8 * U from by omega, ← h]
  omega
/-- a word out of its bytes, the highest first -/
def wordOf (l : List Int) : Int := l.foldl (fun u c => u * 256 + c) 0
theorem wordOf_snoc (l : List Int) (c : Int) : wordOf (l ++ [c]) = wordOf l * 256 + c := by unfold wordOf; rw [List.foldl_append]; rfl
theorem wordFrom_bd : ∀ (l : List Int) (a : Int) (n : Nat), 0 ≤ a → a < 256 ^ n → (∀ x ∈ l, 0 ≤ x ∧ x < 256) → 0 ≤ l.foldl (fun u c => u * 256 + c) a ∧ l.foldl (fun u c => u * 256 + c) a < 256 ^ (n + l.length)
  | [], a, n, h0, h1, _ => ⟨h0, h1⟩
  | c :: l, a, n, h0, h1, h => by
    obtain ⟨h3, h4⟩ := h c List.mem_cons_self
    have := wordFrom_bd l (a * 256 + c) (n + 1) (by omega) (by rw [Int.pow_succ]; omega) (fun x hx => h x (List.mem_cons_of_mem _ hx))
    rw [List.foldl_cons, List.length_cons, show n + (l.length + 1) = n + 1 + l.length from by omega]
    exact this
theorem wordOf_bd (l : List Int) (h : ∀ x ∈ l, 0 ≤ x ∧ x < 256) : 0 ≤ wordOf l ∧ wordOf l < 256 ^ l.length := by
  have := wordFrom_bd l 0 0 (by omega) (by decide) h
  rwa [Nat.zero_add] at this
end Dbl
