/- The four contracts in one form, and the comparisons of a row with itself. Conditions: bytes that fit in memory. -/
import Derived.Test.YtfhgclojfjiblaaZPackBack18
import Derived.Test.YtfhgclojfjiblaaZPackBack22
namespace Go.Proofs.Ytfhgclojfjiblaa.Pk
open Go.ChangeShapes Go.WideShapes Go.ChangeAt Go.RowKit Go.Proofs.Ytfhgclojfjiblaa.Lex
open Go.Proofs.Ytfhgclojfjiblaa.Hlp Go.Proofs.Ytfhgclojfjiblaa.Wrd Go.Proofs.YtfhgclojfjiblaaW.PrintWords Go.Proofs.YtfhgclojfjiblaaW.PrintLast Go.Proofs.YtfhgclojfjiblaaW.PrintMore
set_option linter.unusedVariables false
set_option linter.unusedSimpArgs false
abbrev IntsC (w : World) (A : Option Addr) (xs : List Int) : Prop := Kd.C (Kd.int .i64) w A xs.length xs
abbrev ListsC (w : World) (A : Option Addr) (xs : List (List Int)) : Prop := Kd.C (Kd.slice 5 (Kd.int .u8)) w A xs.length xs
def rowsR (l : List Int) : List (List Int) × Int := if (rowsS l).2 = 0 then ((rowsS l).1, 0) else ([], (rowsS l).2)
section
variable {w : World} {n c : Nat} {A : Option Addr} {l : List Int} (hr : Kd.C (Kd.int .u8) w A n l) (hc : n ≤ c) (hb : ∀ x ∈ l, 0 ≤ x ∧ x < 256) (hl : n ≤ 4398046511103)
include hr hc hb hl
theorem nums_c {ys : List Int} {e : Int} (hq : numsR [] l = (ys, e)) :
    Calls Try.prog 26 #[.slice A n c] w fun x w' => ∃ B d, x = .returned (.tuple #[.slice B ys.length d, .int .i64 e]) ∧ ys.length ≤ d ∧ IntsC w' B ys ∧ Below w.heap.size w w' := by
  refine (nums_ hr hc hb (by omega)).mono ?_
  rintro x w1 ⟨⟨v, d, rfl, h1, h2⟩, hB⟩
  unfold numsR at hq
  by_cases h0 : (numsS l).2 = 0
  · rw [if_pos h0, List.nil_append] at hq
    injection hq with e1 e2
    subst e1 e2
    obtain ⟨⟨B, rfl⟩, hR⟩ := h1 h0
    obtain ⟨A5, c5, e5, hc5, hC5⟩ := Kd.R_reads hR
    injection e5 with e5 _ e6
    subst e5 e6
    exact ⟨B, d, by rw [h0], hc5, hC5, hB⟩
  · rw [if_neg h0] at hq
    injection hq with e1 e2
    subst e1 e2
    rw [h2 h0]
    exact ⟨none, 0, rfl, Nat.le_refl _, Kd.C_nil _ _, hB⟩
theorem rnums_c {ys : List Int} {e : Int} (hq : numsR [] l = (ys, e)) :
    Calls Try.prog 27 #[.slice A n c] w fun x w' => ∃ B d, x = .returned (.tuple #[.slice B ys.length d, .int .i64 e]) ∧ ys.length ≤ d ∧ IntsC w' B ys ∧ Below w.heap.size w w' := by
  obtain rfl : l.length = n := hr.1
  obtain ⟨K, hK⟩ := rnums_ev (l := l) (by omega) hb
  refine (QR.icehouseref02_Nums.calls K A c l ys e w hr hc (by rw [← hq]; exact hK K (Nat.le_refl K))).mono ?_
  rintro x w1 ⟨v, rfl, hR, hB⟩
  obtain ⟨B, d, rfl, hd, hC⟩ := Kd.R_reads hR
  exact ⟨B, d, rfl, hd, hC, hB⟩
theorem rows_c {ys : List (List Int)} {e : Int} (hq : rowsR l = (ys, e)) :
    Calls Try.prog 28 #[.slice A n c] w fun x w' => ∃ B d, x = .returned (.tuple #[.slice B ys.length d, .int .i64 e]) ∧ ys.length ≤ d ∧ ListsC w' B ys ∧ Below w.heap.size w w' := by
  refine (rows_ hr hc hb hl).mono ?_
  rintro x w1 ⟨⟨v, d, rfl, h1, h2⟩, hB⟩
  unfold rowsR at hq
  by_cases h0 : (rowsS l).2 = 0
  · rw [if_pos h0] at hq
    injection hq with e1 e2
    subst e1 e2
    obtain ⟨⟨B, rfl⟩, hR⟩ := h1 h0
    obtain ⟨A5, c5, e5, hc5, hC5⟩ := Kd.R_reads hR
    injection e5 with e5 _ e6
    subst e5 e6
    exact ⟨B, d, by rw [h0], hc5, hC5, hB⟩
  · rw [if_neg h0] at hq
    injection hq with e1 e2
    subst e1 e2
    rw [h2 h0]
    exact ⟨none, 0, rfl, Nat.le_refl _, Kd.C_nil _ _, hB⟩
theorem rrows_c {ys : List (List Int)} {e : Int} (hq : rowsR l = (ys, e)) :
    Calls Try.prog 29 #[.slice A n c] w fun x w' => ∃ B d, x = .returned (.tuple #[.slice B ys.length d, .int .i64 e]) ∧ ys.length ≤ d ∧ ListsC w' B ys ∧ Below w.heap.size w w' := by
  refine (rrows_ hr hc hb hl).mono ?_
  rintro x w1 ⟨⟨v, d, rfl, h1, h2⟩, hB⟩
  unfold rowsR at hq
  by_cases h0 : (rowsS l).2 = 0
  · rw [if_pos h0] at hq
    injection hq with e1 e2
    subst e1 e2
    obtain ⟨B, rfl, hd, hC⟩ := h1 h0
    exact ⟨B, d, by rw [h0], hd, hC, hB⟩
  · rw [if_neg h0] at hq
    injection hq with e1 e2
    subst e1 e2
    rw [h2 h0]
    exact ⟨none, 0, rfl, Nat.le_refl _, Kd.C_nil _ _, hB⟩
end
theorem same_l0 (l : List Int) (hl : l.length ≤ 9223372036854775807) : ∀ (n i : Nat), l.length - i = n → i ≤ l.length → ∃ k, QR.icehouseref00_SameInts.l0 k l l (i : Int) = some true := by
  intro n
  induction n with
  | zero =>
    intro i hn hi
    have hf : ¬ ((i : Int) < (l.length : Int)) := by omega
    exact ⟨1, by simp only [QR.icehouseref00_SameInts.l0, if_neg hf]⟩
  | succ n ih =>
    intro i hn hi
    have f1 : (i : Int) < (l.length : Int) := by omega
    have f0 : (0 : Int) ≤ (i : Int) := by omega
    obtain ⟨k, hk⟩ := ih (i + 1) (by omega) (by omega)
    refine ⟨k + 1, ?_⟩
    have hw : wrap64 ((i : Int) + 1) = ((i + 1 : Nat) : Int) := by unfold wrap64; omega
    simp only [QR.icehouseref00_SameInts.l0, if_pos f1, if_pos f0, if_true, hw]
    exact hk
theorem lists_l0 (l : List (List Int)) (hl : l.length ≤ 9223372036854775807) : ∀ (n i : Nat), l.length - i = n → i ≤ l.length → ∃ k, QR.icehouseref00_SameLists.l0 k l l (i : Int) = some true := by
  intro n
  induction n with
  | zero =>
    intro i hn hi
    have hf : ¬ ((i : Int) < (l.length : Int)) := by omega
    exact ⟨1, by simp only [QR.icehouseref00_SameLists.l0, if_neg hf]⟩
  | succ n ih =>
    intro i hn hi
    have f1 : (i : Int) < (l.length : Int) := by omega
    have f0 : (0 : Int) ≤ (i : Int) := by omega
    obtain ⟨k, hk⟩ := ih (i + 1) (by omega) (by omega)
    refine ⟨k + 1, ?_⟩
    have hw : wrap64 ((i : Int) + 1) = ((i + 1 : Nat) : Int) := by unfold wrap64; omega
    simp only [QR.icehouseref00_SameLists.l0, if_pos f1, if_pos f0, if_true, hw]
    exact hk
theorem sameInts_c {A B : Option Addr} {c d : Nat} {l : List Int} {w : World} (h : IntsC w A l) (hc : l.length ≤ c) (h' : IntsC w B l) (hd : l.length ≤ d) :
    Calls Try.prog 30 #[.slice A l.length c, .slice B l.length d] w fun e w' => e = .returned (.bool true) ∧ Below w.heap.size w w' := by
  obtain ⟨K, hK⟩ := same_l0 l h.2.1 _ 0 rfl (Nat.zero_le _)
  have hf : QR.icehouseref00_SameInts.f K l l = some true := by unfold QR.icehouseref00_SameInts.f; rw [if_pos rfl]; exact hK
  refine (QR.icehouseref00_SameInts.calls K A c l B d l _ w h hc h' hd hf).mono ?_
  rintro e w1 ⟨rfl, hb⟩
  exact ⟨rfl, hb.below⟩
theorem sameLists_c {A B : Option Addr} {c d : Nat} {l : List (List Int)} {w : World} (h : ListsC w A l) (hc : l.length ≤ c) (h' : ListsC w B l) (hd : l.length ≤ d) :
    Calls Try.prog 31 #[.slice A l.length c, .slice B l.length d] w fun e w' => e = .returned (.bool true) ∧ Below w.heap.size w w' := by
  obtain ⟨K, hK⟩ := lists_l0 l h.2.1 _ 0 rfl (Nat.zero_le _)
  have hf : QR.icehouseref00_SameLists.f K l l = some true := by unfold QR.icehouseref00_SameLists.f; rw [if_pos rfl]; exact hK
  refine (QR.icehouseref00_SameLists.calls K A c l B d l _ w h hc h' hd hf).mono ?_
  rintro e w1 ⟨rfl, hb⟩
  exact ⟨rfl, hb.below⟩
end Go.Proofs.Ytfhgclojfjiblaa.Pk
