/- Written by a program of this session over the kit's print: functions and their contracts. · How tags stand, plain: by their numbers, one behind the other. And what holds from some count of rounds on. -/
import Derived.Test.YtfhgclojfjiblaaZPackBack10
import Derived.Test.YtfhgclojfjiblaaZPackBack11
import Derived.Test.YtfhgclojfjiblaaZPackBack12
namespace Go.Proofs.Ytfhgclojfjiblaa.QR
open Go.RowKit Go.Proofs.YtfhgclojfjiblaaW.PrintWords Go.Proofs.YtfhgclojfjiblaaW.PrintLast Go.Proofs.YtfhgclojfjiblaaW.PrintMore
attribute [local go_sem] max2_int min2_int max_two min_two max_three min_three max_four min_four   -- for this text's walks alone
set_option linter.unusedVariables false
set_option linter.unusedSimpArgs false

end Go.Proofs.Ytfhgclojfjiblaa.QR

namespace Go.Proofs.Ytfhgclojfjiblaa.Lex
def cmp1 (a b : Int) : Int := if a < b then -1 else if a > b then 1 else 0
def cmpV (a0 a1 a2 b0 b1 b2 : Int) : Int := if cmp1 a0 b0 ≠ 0 then cmp1 a0 b0 else if cmp1 a1 b1 ≠ 0 then cmp1 a1 b1 else cmp1 a2 b2
theorem cmpV_ge {a0 a1 a2 b0 b1 b2 : Int} : cmpV a0 a1 a2 b0 b1 b2 ≥ 0 ↔ (a0 > b0 ∨ a0 = b0 ∧ (a1 > b1 ∨ a1 = b1 ∧ a2 ≥ b2)) := by
  unfold cmpV cmp1
  repeat' split
  all_goals omega
theorem cmpV_gt {a0 a1 a2 b0 b1 b2 : Int} : cmpV a0 a1 a2 b0 b1 b2 > 0 ↔ (a0 > b0 ∨ a0 = b0 ∧ (a1 > b1 ∨ a1 = b1 ∧ a2 > b2)) := by
  unfold cmpV cmp1
  repeat' split
  all_goals omega
theorem cmpV_zero {a0 a1 a2 b0 b1 b2 : Int} : cmpV a0 a1 a2 b0 b1 b2 = 0 ↔ (a0 = b0 ∧ a1 = b1 ∧ a2 = b2) := by
  unfold cmpV cmp1
  repeat' split
  all_goals omega
theorem cmpV_neg (a0 a1 a2 b0 b1 b2 : Int) : cmpV a0 a1 a2 b0 b1 b2 = - cmpV b0 b1 b2 a0 a1 a2 := by
  unfold cmpV cmp1
  repeat' split
  all_goals omega
/-- from some count of rounds on -/
def Since {α : Type} (f : Nat → Option α) (r : α) : Prop := ∃ K, ∀ k, K ≤ k → f k = some r
theorem Since.one {α β : Type} {f : Nat → Option α} {r : α} {F : Nat → Option β} {q : β} (h : Since f r) (hF : ∀ k, f k = some r → F (k + 1) = some q) : Since F q := by
  obtain ⟨K, h⟩ := h
  refine ⟨K + 1, fun k hk => ?_⟩
  obtain ⟨k, rfl⟩ : ∃ j, k = j + 1 := ⟨k - 1, by omega⟩
  exact hF k (h k (by omega))
theorem Since.two {α α' β : Type} {f : Nat → Option α} {r : α} {g : Nat → Option α'} {r' : α'} {F : Nat → Option β} {q : β} (h : Since f r) (h' : Since g r') (hF : ∀ k, f k = some r → g k = some r' → F (k + 1) = some q) : Since F q := by
  obtain ⟨K, h⟩ := h
  obtain ⟨K', h'⟩ := h'
  refine ⟨K + K' + 1, fun k hk => ?_⟩
  obtain ⟨k, rfl⟩ : ∃ j, k = j + 1 := ⟨k - 1, by omega⟩
  exact hF k (h k (by omega)) (h' k (by omega))
theorem Since.none {β : Type} {F : Nat → Option β} {q : β} (hF : ∀ k, F (k + 1) = some q) : Since F q := by
  refine ⟨1, fun k hk => ?_⟩
  obtain ⟨k, rfl⟩ : ∃ j, k = j + 1 := ⟨k - 1, by omega⟩
  exact hF k
theorem Since.map {α β : Type} {f : Nat → Option α} {r : α} {F : Nat → Option β} {q : β} (h : Since f r) (hF : ∀ k, f k = some r → F k = some q) : Since F q := by
  obtain ⟨K, h⟩ := h
  exact ⟨K, fun k hk => hF k (h k hk)⟩
theorem Since.and {α α' β : Type} {f : Nat → Option α} {r : α} {g : Nat → Option α'} {r' : α'} {F : Nat → Option β} {q : β} (h : Since f r) (h' : Since g r') (hF : ∀ k, f k = some r → g k = some r' → F k = some q) : Since F q := by
  obtain ⟨K, h⟩ := h
  obtain ⟨K', h'⟩ := h'
  exact ⟨K + K', fun k hk => hF k (h k (by omega)) (h' k (by omega))⟩
end Go.Proofs.Ytfhgclojfjiblaa.Lex
