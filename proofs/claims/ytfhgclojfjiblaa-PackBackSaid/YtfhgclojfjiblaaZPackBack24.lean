/- What the reader's peek tells of a number's bytes ahead of any bytes. Conditions: numbers of 64 bits. -/
import Derived.Test.YtfhgclojfjiblaaZPackBack3
import Derived.Test.YtfhgclojfjiblaaZPackBack19
namespace Go.Proofs.Ytfhgclojfjiblaa.Dec
open Go Go.RowKit Go.Proofs.Ytfhgclojfjiblaa.Wrd Go.Proofs.Ytfhgclojfjiblaa.Enc Go.Proofs.Ytfhgclojfjiblaa.Pk
set_option linter.unusedVariables false
theorem peek_num {n : Int} (h : -9223372036854775808 ≤ n ∧ n ≤ 9223372036854775807) (r : List Int) : peekP (numB n ++ r) = (n, ((numB n).length : Int), 0) := by
  have hl := beR_len_le 8 (word n) (word_lt n)
  unfold numB
  rw [List.cons_append, peekP_cons, if_neg (by omega), if_neg (by rw [List.length_append]; omega)]
  have hnz : ¬ (0 < ((beR (word n)).length : Int) ∧ (beR (word n) ++ r).getD 0 0 = 0) := by
    rintro ⟨h1, h2⟩
    cases hb : beR (word n) with
    | nil => rw [hb] at h1; simp at h1
    | cons x s =>
      rw [hb] at h2
      simp at h2
      exact beR_head _ _ _ hb h2
  rw [if_neg hnz, Int.toNat_natCast, List.take_left, wordOf_beR, wrap_word h, List.length_cons]
  congr 2
  omega
/-- what is read is its number's bytes: there are no others -/
theorem peek_inv {l : List Int} {n k : Int} (hb : ∀ x ∈ l, 0 ≤ x ∧ x < 256) (h : peekP l = (n, k, 0)) : l = numB n ++ l.drop k.toNat ∧ k = ((numB n).length : Int) ∧ -9223372036854775808 ≤ n ∧ n ≤ 9223372036854775807 := by
  cases l with
  | nil => cases h
  | cons a r =>
    obtain ⟨ha0, ha1⟩ := hb a List.mem_cons_self
    rw [peekP_cons] at h
    split at h
    · cases h
    rename_i h8
    split at h
    · cases h
    rename_i hs
    split at h
    · cases h
    rename_i hz
    simp only [Prod.mk.injEq] at h
    obtain ⟨h1, h2, _⟩ := h
    obtain ⟨m, rfl⟩ := Int.eq_ofNat_of_zero_le ha0
    rw [Int.toNat_natCast] at h1
    have hbt : ∀ x ∈ r.take m, 0 ≤ x ∧ x < 256 := fun x hx => hb x (List.mem_cons_of_mem _ (List.mem_of_mem_take hx))
    have hlt : (r.take m).length = m := by rw [List.length_take]; omega
    have hd := beR_of m (r.take m) hlt hbt (by
      intro x s e hx
      apply hz
      have hm : 0 < m := by rw [← hlt, e]; simp
      refine ⟨by omega, ?_⟩
      cases r with
      | nil => simp at e
      | cons y t =>
        rw [List.take_cons hm] at e
        injection e with e1 _
        simp [e1, hx])
    have hw := wordOf_bd (r.take m) hbt
    rw [hlt] at hw
    have hp : (256 : Int) ^ m ≤ 256 ^ 8 := by
      have := Nat.pow_le_pow_right (n := 256) (by decide) (show m ≤ 8 by omega)
      have e : ((256 ^ m : Nat) : Int) ≤ ((256 ^ 8 : Nat) : Int) := Int.ofNat_le.2 this
      simpa using e
    have hu : (wordOf (r.take m)).toNat < 18446744073709551616 := by have := hw.2; omega
    have hwn : word n = (wordOf (r.take m)).toNat := by
      rw [← h1, ← word_wrap hu, Int.toNat_of_nonneg hw.1]
    have hN : numB n = (m : Int) :: r.take m := by
      unfold numB; rw [hwn, hd, hlt]
    refine ⟨?_, ?_, ?_⟩
    · rw [hN, ← h2, show (1 + (m : Int)).toNat = m + 1 from by omega, List.drop_succ_cons, List.cons_append, List.take_append_drop]
    · rw [hN, ← h2, List.length_cons, hlt]; omega
    · rw [← h1]; unfold wrap64; omega
end Go.Proofs.Ytfhgclojfjiblaa.Dec
