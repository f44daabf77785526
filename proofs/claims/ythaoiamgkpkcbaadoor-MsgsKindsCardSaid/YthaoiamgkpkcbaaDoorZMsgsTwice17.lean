/- What the reader's peek tells of a number's bytes ahead of any bytes. Conditions: numbers of 64 bits. · What the reader reads of fields laid one behind the other: whole, cut short, and back. Plain. Conditions: bytes. -/
import Derived.Test.YthaoiamgkpkcbaaDoorZMsgsTwice2
import Derived.Test.YthaoiamgkpkcbaaDoorZMsgsTwice9
import Derived.Test.YthaoiamgkpkcbaaDoorZMsgsTwice4
import Derived.Test.YthaoiamgkpkcbaaDoorZMsgsTwice14
namespace Go.Proofs.YthaoiamgkpkcbaaDoor.Dec
open Go Go.RowKit Go.Proofs.YthaoiamgkpkcbaaDoor.Wrd Go.Proofs.YthaoiamgkpkcbaaDoor.Enc Go.Proofs.YthaoiamgkpkcbaaDoor.Pk
set_option linter.unusedVariables false
theorem peek_num {n : Int} (h : -9223372036854775808 ≤ n ∧ n ≤ 9223372036854775807) (r : List Int) : peekP (numB n ++ r) = (n, ((numB n).length : Int), 0) := by
  have hl := beR_len_le 8 (word n) (word_lt n)
  unfold numB
  rw [List.cons_append, peekP_cons, if_neg (by omega), if_neg (by rw [List.length_append]; omega)]
  have hnz : ¬ (0 < ((beR (word n)).length : Int) ∧ (beR (word n) ++ r).getD 0 0 = 0) := by
    rintro ⟨h1, h2⟩
    cases hb : beR (word n) with
    | nil => rw [hb] at h1; simp at h1
    | cons x s =>
      rw [hb] at h2
      simp at h2
      exact beR_head _ _ _ hb h2
  rw [if_neg hnz, Int.toNat_natCast, List.take_left, wordOf_beR, wrap_word h, List.length_cons]
  congr 2
  omega
/-- what is read is its number's bytes: there are no others -/
theorem peek_inv {l : List Int} {n k : Int} (hb : ∀ x ∈ l, 0 ≤ x ∧ x < 256) (h : peekP l = (n, k, 0)) : l = numB n ++ l.drop k.toNat ∧ k = ((numB n).length : Int) ∧ -9223372036854775808 ≤ n ∧ n ≤ 9223372036854775807 := by
  cases l with
  | nil => cases h
  | cons a r =>
    obtain ⟨ha0, ha1⟩ := hb a List.mem_cons_self
    rw [peekP_cons] at h
    split at h
    · cases h
    rename_i h8
    split at h
    · cases h
    rename_i hs
    split at h
    · cases h
    rename_i hz
    simp only [Prod.mk.injEq] at h
    obtain ⟨h1, h2, _⟩ := h
    obtain ⟨m, rfl⟩ := Int.eq_ofNat_of_zero_le ha0
    rw [Int.toNat_natCast] at h1
    have hbt : ∀ x ∈ r.take m, 0 ≤ x ∧ x < 256 := fun x hx => hb x (List.mem_cons_of_mem _ (List.mem_of_mem_take hx))
    have hlt : (r.take m).length = m := by rw [List.length_take]; omega
    have hd := beR_of m (r.take m) hlt hbt (by
      intro x s e hx
      apply hz
      have hm : 0 < m := by rw [← hlt, e]; simp
      refine ⟨by omega, ?_⟩
      cases r with
      | nil => simp at e
      | cons y t =>
        rw [List.take_cons hm] at e
        injection e with e1 _
        simp [e1, hx])
    have hw := wordOf_bd (r.take m) hbt
    rw [hlt] at hw
    have hp : (256 : Int) ^ m ≤ 256 ^ 8 := by
      have := Nat.pow_le_pow_right (n := 256) (by decide) (show m ≤ 8 by omega)
      have e : ((256 ^ m : Nat) : Int) ≤ ((256 ^ 8 : Nat) : Int) := Int.ofNat_le.2 this
      simpa using e
    have hu : (wordOf (r.take m)).toNat < 18446744073709551616 := by have := hw.2; omega
    have hwn : word n = (wordOf (r.take m)).toNat := by
      rw [← h1, ← word_wrap hu, Int.toNat_of_nonneg hw.1]
    have hN : numB n = (m : Int) :: r.take m := by
      unfold numB; rw [hwn, hd, hlt]
    refine ⟨?_, ?_, ?_⟩
    · rw [hN, ← h2, show (1 + (m : Int)).toNat = m + 1 from by omega, List.drop_succ_cons, List.cons_append, List.take_append_drop]
    · rw [hN, ← h2, List.length_cons, hlt]; omega
    · rw [← h1]; unfold wrap64; omega
end Go.Proofs.YthaoiamgkpkcbaaDoor.Dec

namespace Go.Proofs.YthaoiamgkpkcbaaDoor.Seg
open Go Go.RowKit Go.Proofs.YthaoiamgkpkcbaaDoor.Wrd Go.Proofs.YthaoiamgkpkcbaaDoor.Enc Go.Proofs.YthaoiamgkpkcbaaDoor.EncP Go.Proofs.YthaoiamgkpkcbaaDoor.Dec Go.Proofs.YthaoiamgkpkcbaaDoor.Pk
set_option linter.unusedVariables false
set_option linter.unusedSimpArgs false
def Byte (l : List Int) : Prop := ∀ x ∈ l, 0 ≤ x ∧ x < 256
theorem Byte.append {a b : List Int} (ha : Byte a) (hb : Byte b) : Byte (a ++ b) := by
  intro x hx
  rcases List.mem_append.1 hx with h | h
  · exact ha x h
  · exact hb x h
theorem Byte.take {a : List Int} (ha : Byte a) (n : Nat) : Byte (a.take n) := fun x hx => ha x (List.mem_of_mem_take hx)
theorem Byte.drop {a : List Int} (ha : Byte a) (n : Nat) : Byte (a.drop n) := fun x hx => ha x (List.mem_of_mem_drop hx)
theorem Byte.nil : Byte [] := by intro x hx; cases hx
theorem numB_byte (n : Int) : Byte (numB n) := numB_bytes n
theorem rowB_byte {x : List Int} (h : Byte x) : Byte (rowB x) := (numB_byte _).append h
theorem truthB_byte (t : Bool) : Byte (truthB t) := by cases t <;> (intro x hx; simp [truthB] at hx; omega)
theorem rowB_length (x : List Int) : (rowB x).length = (numB (x.length : Int)).length + x.length := by unfold rowB; rw [List.length_append]
theorem i64_len {x : List Int} (h : x.length ≤ 65536) : -9223372036854775808 ≤ (x.length : Int) ∧ (x.length : Int) ≤ 9223372036854775807 := by omega
/-! whole -/
theorem row_whole (x r : List Int) (h : x.length ≤ 65536) : rowS ⟨rowB x ++ r, 0⟩ = (x, ⟨r, 0⟩) := by
  unfold rowB
  rw [List.append_assoc, rowS_ok (peek_num (i64_len h) (x ++ r)) h (by simp only [List.length_append]; omega)]
  rw [List.drop_left, List.take_left, ← List.drop_drop, List.drop_left, List.drop_left]
theorem below_whole {n m : Int} (h : 0 ≤ n ∧ n < m) (hn : -9223372036854775808 ≤ n ∧ n ≤ 9223372036854775807) (r : List Int) : belowS m ⟨numB n ++ r, 0⟩ = (n, ⟨r, 0⟩) := by
  rw [belowS_ok (peek_num hn r) h, Int.toNat_natCast, List.drop_left]
theorem truth_whole (t : Bool) (r : List Int) : truthS ⟨truthB t ++ r, 0⟩ = (t, ⟨r, 0⟩) := by cases t <;> rfl
/-! cut short -/
theorem peek_cut {n : Int} (q : Nat) (hq : q < (numB n).length) : peekP ((numB n).take q) = (0, 0, 12) := by
  have hl := beR_len_le 8 (word n) (word_lt n)
  unfold numB at hq ⊢
  cases q with
  | zero => rfl
  | succ q =>
    rw [List.take_succ_cons, peekP_cons, if_neg (by omega), if_pos (by rw [List.length_take]; simp at hq; omega)]
theorem row_cut {x : List Int} (h : x.length ≤ 65536) (q : Nat) (hq : q < (rowB x).length) : rowS ⟨(rowB x).take q, 0⟩ = ([], ⟨(rowB x).take q, 12⟩) := by
  rw [rowB_length] at hq
  by_cases h1 : q < (numB (x.length : Int)).length
  · have e : (rowB x).take q = (numB (x.length : Int)).take q := by unfold rowB; rw [List.take_append_of_le_length (Nat.le_of_lt h1)]
    rw [e]
    exact rowS_bad (peek_cut q h1) (by decide)
  · obtain ⟨q', rfl⟩ : ∃ q', q = (numB (x.length : Int)).length + q' := ⟨q - (numB (x.length : Int)).length, by omega⟩
    have e : (rowB x).take ((numB (x.length : Int)).length + q') = numB (x.length : Int) ++ x.take q' := by unfold rowB; rw [List.take_length_add_append]
    rw [e]
    refine rowS_short (peek_num (i64_len h) (x.take q')) ⟨by omega, by omega⟩ ?_
    rw [List.length_append, List.length_take]
    omega
theorem below_cut {m n : Int} (q : Nat) (hq : q < (numB n).length) : belowS m ⟨(numB n).take q, 0⟩ = (0, ⟨(numB n).take q, 12⟩) := belowS_bad (peek_cut q hq) (by decide)
theorem truth_cut : truthS ⟨[], 0⟩ = (false, ⟨[], 12⟩) := rfl
/-! back -/
theorem peek_back {l : List Int} {n k : Int} (hb : Byte l) (h : peekP l = (n, k, 0)) : ∃ r, l = numB n ++ r ∧ k = ((numB n).length : Int) ∧ -9223372036854775808 ≤ n ∧ n ≤ 9223372036854775807 ∧ l.drop k.toNat = r := by
  obtain ⟨h1, h2, h3, h4⟩ := peek_inv hb h
  exact ⟨_, h1, h2, h3, h4, rfl⟩
theorem row_back {l x : List Int} {s : St} (hb : Byte l) (h : rowS ⟨l, 0⟩ = (x, s)) (he : s.e = 0) : l = rowB x ++ s.l ∧ x.length ≤ 65536 := by
  obtain ⟨n, k, e, hp⟩ : ∃ n k e, peekP l = (n, k, e) := ⟨_, _, _, rfl⟩
  by_cases h0 : e = 0
  · subst h0
    obtain ⟨r, hl, hk, _, _, hd⟩ := peek_back hb hp
    by_cases h1 : 0 ≤ n ∧ n ≤ 65536
    · by_cases h2 : (l.length : Int) - k < n
      · rw [rowS_short hp h1 h2] at h
        obtain ⟨_, rfl⟩ := Prod.mk.inj h
        cases he
      · obtain ⟨m, rfl⟩ := Int.eq_ofNat_of_zero_le h1.1
        subst hk
        have h3 : (numB (m : Int)).length + m ≤ l.length := by omega
        rw [rowS_ok hp (by omega) h3] at h
        obtain ⟨hx, rfl⟩ := Prod.mk.inj h
        rw [Int.toNat_natCast] at hd
        rw [hd] at hx
        have hrl : m ≤ r.length := by rw [hl, List.length_append] at h3; omega
        have hxl : x.length = m := by rw [← hx, List.length_take]; omega
        refine ⟨?_, by rw [hxl]; omega⟩
        show l = rowB x ++ l.drop ((numB (m : Int)).length + m)
        rw [← List.drop_drop, hd, ← hx]
        unfold rowB
        rw [List.length_take, Nat.min_eq_left hrl, List.append_assoc, List.take_append_drop]
        exact hl
    · rw [rowS_out hp h1] at h
      obtain ⟨_, rfl⟩ := Prod.mk.inj h
      cases he
  · rw [rowS_bad hp h0] at h
    obtain ⟨_, rfl⟩ := Prod.mk.inj h
    exact absurd he h0
theorem below_back {l : List Int} {m n : Int} {s : St} (hb : Byte l) (h : belowS m ⟨l, 0⟩ = (n, s)) (he : s.e = 0) : l = numB n ++ s.l ∧ 0 ≤ n ∧ n < m := by
  obtain ⟨n', k, e, hp⟩ : ∃ n k e, peekP l = (n, k, e) := ⟨_, _, _, rfl⟩
  by_cases h0 : e = 0
  · subst h0
    obtain ⟨r, hl, hk, _, _, hd⟩ := peek_back hb hp
    by_cases h1 : 0 ≤ n' ∧ n' < m
    · rw [belowS_ok hp h1] at h
      obtain ⟨rfl, rfl⟩ := Prod.mk.inj h
      exact ⟨by show l = numB n' ++ l.drop k.toNat; rw [hd]; exact hl, h1⟩
    · rw [belowS_out hp h1] at h
      obtain ⟨_, rfl⟩ := Prod.mk.inj h
      cases he
  · rw [belowS_bad hp h0] at h
    obtain ⟨_, rfl⟩ := Prod.mk.inj h
    exact absurd he h0
theorem truth_back {l : List Int} {t : Bool} {s : St} (hb : Byte l) (h : truthS ⟨l, 0⟩ = (t, s)) (he : s.e = 0) : l = truthB t ++ s.l := by
  unfold truthS at h
  rw [if_pos rfl] at h
  cases l with
  | nil => obtain ⟨_, rfl⟩ := Prod.mk.inj h; cases he
  | cons x r =>
    have hx := hb x List.mem_cons_self
    simp only at h
    by_cases h1 : 1 < x
    · rw [if_pos h1] at h; obtain ⟨_, rfl⟩ := Prod.mk.inj h; cases he
    · rw [if_neg h1] at h
      obtain ⟨rfl, rfl⟩ := Prod.mk.inj h
      rcases (by omega : x = 0 ∨ x = 1) with rfl | rfl <;> rfl
end Go.Proofs.YthaoiamgkpkcbaaDoor.Seg
