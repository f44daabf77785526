/- Written by a program of this session over the kit's print: functions and their contracts. · What the printed functions pack.Num, icehouseref02.Num, pack.Row, icehouseref02.Row, pack.Truth, icehouseref00.Same compute: a number's bytes. Conditions: numbers of 64 bits, rows that fit. -/
import Derived.Test.YthaoiamgkpkcbaaDoorZMsgsTwice9
import Derived.Test.YthaoiamgkpkcbaaDoorZMsgsTwice10
import Derived.Test.YthaoiamgkpkcbaaDoorZMsgsTwice11
import Derived.Test.YthaoiamgkpkcbaaDoorZMsgsTwice12
import Derived.Test.YthaoiamgkpkcbaaDoorZMsgsTwice13
namespace Go.Proofs.YthaoiamgkpkcbaaDoor.QR
open Go.RowKit Go.Proofs.YthaoiamgkpkcbaaDoorW.PrintWords Go.Proofs.YthaoiamgkpkcbaaDoorW.PrintLast Go.Proofs.YthaoiamgkpkcbaaDoorW.PrintMore
attribute [local go_sem] max2_int min2_int max_two min_two max_three min_three max_four min_four   -- for this text's walks alone
set_option linter.unusedVariables false
set_option linter.unusedSimpArgs false

end Go.Proofs.YthaoiamgkpkcbaaDoor.QR

namespace Go.Proofs.YthaoiamgkpkcbaaDoor.EncP
open Go Go.RowKit Go.Proofs.YthaoiamgkpkcbaaDoor.Wrd Go.Proofs.YthaoiamgkpkcbaaDoor.Enc Go.Proofs.YthaoiamgkpkcbaaDoor.QR
open Go.Proofs.YthaoiamgkpkcbaaDoorW.PrintWords Go.Proofs.YthaoiamgkpkcbaaDoorW.PrintLast Go.Proofs.YthaoiamgkpkcbaaDoorW.PrintMore
set_option linter.unusedVariables false
set_option linter.unusedSimpArgs false
theorem shr_word (u : Nat) (i : Nat) (hi : i ≤ 64) : shr .u64 (u : Int) (i : Int) = ((u / 2 ^ i : Nat) : Int) := by
  unfold shr
  rw [Int.toNat_natCast, Nat.min_eq_left (by simp [IntKind.bits]; omega)]
  simp
theorem word_int (n : Int) : IntKind.u64.wrap n = ((word n : Nat) : Int) := by rw [IntKind.wrap_u64]; unfold word; omega
theorem div_step (u j : Nat) (hj : j < 8) : u / 256 ^ (7 - j) = u / 256 ^ (8 - j) * 256 + u / 256 ^ (7 - j) % 256 := by
  have e : 8 - j = (7 - j) + 1 := by omega
  rw [e, Nat.pow_succ, ← Nat.div_div_eq_div_mul]
  omega
theorem num_l0 (n : Int) : ∀ (d j : Nat), j + d = 8 → ∀ k, d < k →
    pack_Num.l0 k n (0 :: beR (word n / 256 ^ (8 - j))) (56 - 8 * (j : Int)) = some (numB n)
  | 0, j, hj, k, hk => by
    obtain ⟨k, rfl⟩ : ∃ m, k = m + 1 := ⟨k - 1, by omega⟩
    obtain rfl : j = 8 := by omega
    simp only [pack_Num.l0]
    have hl := beR_len_le 8 (word n) (word_lt n)
    rw [if_neg (by omega)]
    simp only [Nat.sub_self, Nat.pow_zero, Nat.div_one]
    rw [if_pos (by simp)]
    unfold numB
    simp only [List.length_cons]
    have : wrap64 ((((beR (word n)).length + 1 : Nat) : Int) - 1) % 256 = ((beR (word n)).length : Int) := by unfold wrap64; omega
    rw [this]; rfl
  | d + 1, j, hj, k, hk => by
    obtain ⟨k, rfl⟩ : ∃ m, k = m + 1 := ⟨k - 1, by omega⟩
    have hj8 : j < 8 := by omega
    have ih := num_l0 n d (j + 1) (by omega) k (by omega)
    have hst := div_step (word n) j hj8
    rw [show 8 - (j + 1) = 7 - j from by omega] at ih
    have hl8 : (beR (word n / 256 ^ (8 - j))).length ≤ 8 := beR_len_le 8 _ (Nat.lt_of_le_of_lt (Nat.div_le_self _ _) (word_lt n))
    simp only [pack_Num.l0]
    rw [if_pos (by omega), if_pos (by omega), word_int]
    have hsh : shr .u64 ((word n : Nat) : Int) (56 - 8 * (j : Int)) = ((word n / 256 ^ (7 - j) : Nat) : Int) := by
      rw [show (56 - 8 * (j : Int)) = ((8 * (7 - j) : Nat) : Int) from by omega, shr_word _ _ (by omega), Nat.pow_mul]
    rw [hsh]
    rw [show wrap64 (56 - 8 * (j : Int) - 8) = 56 - 8 * ((j + 1 : Nat) : Int) from by unfold wrap64; omega]
    generalize word n / 256 ^ (8 - j) = v at *
    generalize hu : word n / 256 ^ (7 - j) = u at *
    by_cases hc : ((u : Nat) : Int) % 256 = 0
    · rw [if_pos hc]
      by_cases hv : v = 0
      · subst hv
        have hu0 : u = 0 := by omega
        rw [hu0] at ih
        rw [beR_zero] at ih ⊢
        rw [if_neg (by simp)]
        exact ih
      · rw [if_pos (by have := beR_len_pos.2 hv; simp only [List.length_cons]; omega), if_pos (by simp only [List.length_cons]; omega)]
        have := beR_step v (u % 256) (by omega) (.inl hv)
        rw [← hst] at this
        rw [this] at ih
        rw [List.cons_append, show ((u : Int) % 256) = ((u % 256 : Nat) : Int) from by omega]
        exact ih
    · rw [if_neg hc, if_pos (by simp only [List.length_cons]; omega)]
      have := beR_step v (u % 256) (by omega) (.inr (by omega))
      rw [← hst] at this
      rw [this] at ih
      rw [List.cons_append, show ((u : Int) % 256) = ((u % 256 : Nat) : Int) from by omega]
      exact ih
theorem num_f (n : Int) : pack_Num.f 9 n = some (numB n) := by
  unfold pack_Num.f
  have := num_l0 n 8 0 (by omega) 9 (by omega)
  have h0 : word n / 256 ^ (8 - 0) = 0 := Nat.div_eq_of_lt (word_lt n)
  rw [h0, beR_zero] at this
  exact this
theorem rnum_l1 (u : Nat) (hu : u < 256 ^ 8) (a : Int) : ∀ (i : Nat), i ≤ (beR u).length → ∀ k, i < k →
    icehouseref02_Num.l1 k (u : Int) (a :: beR (u / 256 ^ i)) ((i : Int) - 1) = some (a :: beR u)
  | 0, _, k, hk => by
    obtain ⟨k, rfl⟩ : ∃ m, k = m + 1 := ⟨k - 1, by omega⟩
    simp only [icehouseref02_Num.l1]
    rw [if_neg (by omega)]
    simp
  | i + 1, hi, k, hk => by
    obtain ⟨k, rfl⟩ : ∃ m, k = m + 1 := ⟨k - 1, by omega⟩
    have ih := rnum_l1 u hu a i (by omega) k (by omega)
    have hl := beR_len_le 8 u hu
    have hl8 : (beR (u / 256 ^ (i + 1))).length ≤ 8 := beR_len_le 8 _ (Nat.lt_of_le_of_lt (Nat.div_le_self _ _) hu)
    have hw : wrap64 (8 * (((i + 1 : Nat) : Int) - 1)) = ((8 * i : Nat) : Int) := by unfold wrap64; omega
    simp only [icehouseref02_Num.l1]
    rw [hw, if_pos (by omega), if_pos (by omega), if_pos (by simp only [List.length_cons]; omega), shr_word _ _ (by omega), Nat.pow_mul]
    rw [show (2 : Nat) ^ 8 = 256 from rfl]
    have hst : u / 256 ^ i = u / 256 ^ (i + 1) * 256 + u / 256 ^ i % 256 := by
      rw [Nat.pow_succ, ← Nat.div_div_eq_div_mul]; omega
    have hne : u / 256 ^ i ≠ 0 := by
      intro e
      have := beR_len_iff.2 ((Nat.div_eq_zero_iff_lt (Nat.pow_pos (by decide))).1 e)
      omega
    have hb := beR_step (u / 256 ^ (i + 1)) (u / 256 ^ i % 256) (by omega) (by omega)
    rw [← hst] at hb
    rw [hb] at ih
    rw [show wrap64 ((((i + 1 : Nat) : Int) - 1) - 1) = (i : Int) - 1 from by unfold wrap64; omega]
    rw [List.cons_append, Int.tmod_eq_emod_of_nonneg (by omega), show ((u / 256 ^ i : Nat) : Int) % 256 % 256 = ((u / 256 ^ i % 256 : Nat) : Int) from by omega]
    exact ih
theorem rnum_l0 (u : Nat) (hu : u < 256 ^ 8) : ∀ (d j : Nat), j + d = (beR u).length → ∀ k, d + 12 < k →
    icehouseref02_Num.l0 k (u : Int) (j : Int) = some (((beR u).length : Int) :: beR u)
  | 0, j, hj, k, hk => by
    obtain ⟨k, rfl⟩ : ∃ m, k = m + 2 := ⟨k - 2, by omega⟩
    have hl := beR_len_le 8 u hu
    obtain rfl : j = (beR u).length := by omega
    have hz : u / 256 ^ (beR u).length = 0 := Nat.div_eq_of_lt (lt_of_beR_len u)
    have hfin : icehouseref02_Num.j1 (k + 1) (u : Int) ((beR u).length : Int) = some (((beR u).length : Int) :: beR u) := by
      simp only [icehouseref02_Num.j1]
      have := rnum_l1 u hu ((beR u).length : Int) (beR u).length (Nat.le_refl _) k (by omega)
      rw [hz, beR_zero] at this
      rw [show wrap64 (((beR u).length : Int) - 1) = ((beR u).length : Int) - 1 from by unfold wrap64; omega, show ((beR u).length : Int) % 256 = ((beR u).length : Int) from by omega]
      exact this
    rw [icehouseref02_Num.l0]
    by_cases h8 : ((beR u).length : Int) < 8
    · rw [if_pos h8, show wrap64 (8 * ((beR u).length : Int)) = ((8 * (beR u).length : Nat) : Int) from by unfold wrap64; omega, if_pos (by omega), shr_word _ _ (by omega), Nat.pow_mul, show (2 : Nat) ^ 8 = 256 from rfl, hz, if_neg (by simp)]
      exact hfin
    · rw [if_neg h8]; exact hfin
  | d + 1, j, hj, k, hk => by
    obtain ⟨k, rfl⟩ : ∃ m, k = m + 1 := ⟨k - 1, by omega⟩
    have hl := beR_len_le 8 u hu
    have ih := rnum_l0 u hu d (j + 1) (by omega) k (by omega)
    have hne : u / 256 ^ j ≠ 0 := by
      intro e
      have := beR_len_iff.2 ((Nat.div_eq_zero_iff_lt (Nat.pow_pos (by decide))).1 e)
      omega
    rw [icehouseref02_Num.l0]
    rw [if_pos (by omega), show wrap64 (8 * (j : Int)) = ((8 * j : Nat) : Int) from by unfold wrap64; omega, if_pos (by omega), shr_word _ _ (by omega), Nat.pow_mul, show (2 : Nat) ^ 8 = 256 from rfl, if_pos (Int.natCast_pos.2 (Nat.pos_of_ne_zero hne))]
    rw [show wrap64 ((j : Int) + 1) = ((j + 1 : Nat) : Int) from by unfold wrap64; omega]
    exact ih
theorem rnum_f (n : Int) : icehouseref02_Num.f 30 n = some (numB n) := by
  unfold icehouseref02_Num.f
  rw [word_int]
  have hl := beR_len_le 8 (word n) (word_lt n)
  exact rnum_l0 (word n) (word_lt n) (beR (word n)).length 0 (by omega) 30 (by omega)
/-- a row's bytes -/
def rowB (b : List Int) : List Int := numB (b.length : Int) ++ b
theorem row_f (b : List Int) (h : b.length ≤ 65536) : pack_Row.f 9 b = some (rowB b, 0) := by
  unfold pack_Row.f
  have hl := numB_len (b.length : Int)
  rw [if_neg (by omega), num_f]
  simp only [Option.bind_some]
  rw [if_pos (by omega)]; rfl
theorem row_f_long (b : List Int) (h : 65536 < b.length) : pack_Row.f 9 b = some ([], 3) := by unfold pack_Row.f; rw [if_pos (by omega)]
theorem rrow_f (b : List Int) (h : b.length ≤ 65536) : icehouseref02_Row.f 30 b = some (rowB b, 0) := by
  unfold icehouseref02_Row.f
  have hl := numB_len (b.length : Int)
  rw [if_neg (by omega), rnum_f]
  simp only [Option.bind_some]
  rw [if_pos (by omega)]; rfl
theorem rrow_f_long (b : List Int) (h : 65536 < b.length) : icehouseref02_Row.f 30 b = some ([], 3) := by unfold icehouseref02_Row.f; rw [if_pos (by omega)]
def truthB (t : Bool) : List Int := if t then [1] else [0]
theorem truth_f (t : Bool) : pack_Truth.f t = some (truthB t) := by unfold pack_Truth.f truthB; cases t <;> rfl
theorem same_f (l : List Int) : icehouseref00_Same.f l l = some true := by unfold icehouseref00_Same.f; simp
end Go.Proofs.YthaoiamgkpkcbaaDoor.EncP
