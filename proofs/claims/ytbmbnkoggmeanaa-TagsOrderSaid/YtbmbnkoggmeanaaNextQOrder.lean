/- tags.Check, Next, None, and the reference's, plain. -/
import Derived.Test.YtbmbnkoggmeanaaLex
import Derived.Test.YtbmbnkoggmeanaaQOrderx
namespace Go.Proofs.Ytbmbnkoggmeanaa.CmpQOrder
open Go.RowKit Go.Proofs.Ytbmbnkoggmeanaa.Lex Go.Proofs.Ytbmbnkoggmeanaa.QOrder Go.Proofs.YtbmbnkoggmeanaaW.PrintWords Go.Proofs.YtbmbnkoggmeanaaW.PrintLast Go.Proofs.YtbmbnkoggmeanaaW.PrintMore
set_option linter.unusedVariables false
set_option linter.unusedSimpArgs false
/-- a tag that may be -/
def okTag (a b c : Int) : Prop := 0 ≤ a ∧ a ≤ 1099511627775 ∧ 0 ≤ b ∧ b ≤ 1048575 ∧ 0 ≤ c ∧ c ≤ 1048575 ∧ (a = 0 → b = 0 ∧ c = 0)
instance (a b c : Int) : Decidable (okTag a b c) := by unfold okTag; infer_instance
def checkV (a b c : Int) : Int := if okTag a b c then 0 else 2
theorem check_f (a b c : Int) : tags_Check.f a b c = some (checkV a b c) := by
  unfold tags_Check.f checkV okTag
  by_cases h1 : a ≥ 0
  · by_cases h2 : a ≤ 1099511627775
    · by_cases h3 : b ≥ 0
      · by_cases h4 : b ≤ 1048575
        · by_cases h5 : c ≥ 0
          · by_cases h6 : c ≤ 1048575
            · by_cases h7 : a = 0
              · subst h7
                by_cases h8 : b = 0 <;> by_cases h9 : c = 0 <;> simp [h8, h9] <;> omega
              · simp [h1, h2, h3, h4, h5, h6, h7]
            · simp [h1, h2, h3, h4, h5, h6]
          · simp [h1, h2, h3, h4, h5]
        · simp [h1, h2, h3, h4]
      · simp [h1, h2, h3]
    · simp [h1, h2]
  · simp [h1]
/-- the next one, or why there is none -/
def nextV (a b c who op : Int) : Int × Int × Int × Int :=
  if okTag a b c then (if 0 ≤ who ∧ who ≤ 1048575 ∧ 0 ≤ op ∧ op ≤ 1048575 then (if a = 1099511627775 then (0, 0, 0, 3) else (a + 1, who, op, 0)) else (0, 0, 0, 2)) else (0, 0, 0, 2)
theorem next_f (a b c who op : Int) : tags_Next.f 1 a b c who op = some (nextV a b c who op) := by
  unfold tags_Next.f nextV
  rw [check_f, Option.bind_some]
  unfold checkV
  by_cases h : okTag a b c
  · have hw : wrap64 (a + 1) = a + 1 := by unfold okTag at h; unfold wrap64; omega
    rw [if_pos h, if_pos h, if_pos rfl]
    simp only [tags_Next.j0, hw, if_true]
    by_cases h1 : who < 0
    · have : ¬ (0 ≤ who ∧ who ≤ 1048575 ∧ 0 ≤ op ∧ op ≤ 1048575) := by omega
      rw [if_pos h1, if_neg this]
    · by_cases h2 : who > 1048575
      · have : ¬ (0 ≤ who ∧ who ≤ 1048575 ∧ 0 ≤ op ∧ op ≤ 1048575) := by omega
        rw [if_neg h1, if_pos h2, if_neg this]
      · by_cases h3 : op < 0
        · have : ¬ (0 ≤ who ∧ who ≤ 1048575 ∧ 0 ≤ op ∧ op ≤ 1048575) := by omega
          rw [if_neg h1, if_neg h2, if_pos h3, if_neg this]
        · rw [if_neg h1, if_neg h2, if_neg h3]
          by_cases h4 : op > 1048575
          · have : ¬ (0 ≤ who ∧ who ≤ 1048575 ∧ 0 ≤ op ∧ op ≤ 1048575) := by omega
            rw [if_pos (decide_eq_true h4), if_neg this]
          · have : (0 ≤ who ∧ who ≤ 1048575 ∧ 0 ≤ op ∧ op ≤ 1048575) := by omega
            rw [if_neg (by rw [decide_eq_false h4]; exact Bool.false_ne_true), if_pos this]
            split <;> rfl
  · rw [if_neg h, if_neg h, if_neg (by decide)]
end Go.Proofs.Ytbmbnkoggmeanaa.CmpQOrder
