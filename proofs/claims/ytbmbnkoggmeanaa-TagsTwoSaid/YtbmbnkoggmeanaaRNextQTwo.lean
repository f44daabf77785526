/- The reference's Check and Next, plain. -/
import Derived.Test.YtbmbnkoggmeanaaNextQTwo
namespace Go.Proofs.Ytbmbnkoggmeanaa.CmpQTwo
open Go.RowKit Go.Proofs.Ytbmbnkoggmeanaa.Lex Go.Proofs.Ytbmbnkoggmeanaa.QTwo Go.Proofs.YtbmbnkoggmeanaaW.PrintWords Go.Proofs.YtbmbnkoggmeanaaW.PrintLast Go.Proofs.YtbmbnkoggmeanaaW.PrintMore
set_option linter.unusedVariables false
set_option linter.unusedSimpArgs false
theorem rcheck_f (a b c : Int) : icehouseref03_Check.f 1 a b c = some (checkV a b c) := by
  unfold icehouseref03_Check.f icehouseref03_Check.j0 checkV okTag icehouseref03_within.f
  by_cases h1 : a ≥ 0
  · by_cases h2 : a ≤ 1099511627775
    · by_cases h3 : b ≥ 0
      · by_cases h4 : b ≤ 1048575
        · by_cases h5 : c ≥ 0
          · by_cases h6 : c ≤ 1048575
            · by_cases h7 : a = 0
              · subst h7
                by_cases h8 : b = 0
                · subst h8
                  by_cases h9 : c = 0
                  · subst h9; simp
                  · have h10 : c > 0 := by omega
                    simp [h5, h6, h9, h10]
                · have h10 : b > 0 := by omega
                  simp [h3, h4, h5, h6, h8, h10]
              · simp [h1, h2, h3, h4, h5, h6, h7]
            · simp [h1, h2, h3, h4, h5, h6]
          · simp [h1, h2, h3, h4, h5]
        · simp [h1, h2, h3, h4]
      · simp [h1, h2, h3]
    · simp [h1, h2]
  · simp [h1]
theorem rnext_f (a b c who op : Int) : icehouseref03_Next.f 1 a b c who op = some (nextV a b c who op) := by
  unfold icehouseref03_Next.f nextV
  rw [rcheck_f, Option.bind_some]
  unfold checkV icehouseref03_within.f
  by_cases h : okTag a b c
  · have hw : wrap64 (a + 1) = a + 1 := by unfold okTag at h; unfold wrap64; omega
    rw [if_pos h, if_pos h, if_pos rfl]
    by_cases h1 : who ≥ 0
    · rw [if_pos h1, Option.bind_some]
      by_cases h2 : who ≤ 1048575
      · rw [if_pos (decide_eq_true h2)]
        by_cases h3 : op ≥ 0
        · rw [if_pos h3, Option.bind_some]
          simp only [icehouseref03_Next.j0, hw]
          by_cases h4 : op ≤ 1048575
          · have : (0 ≤ who ∧ who ≤ 1048575 ∧ 0 ≤ op ∧ op ≤ 1048575) := by omega
            rw [if_pos this, decide_eq_true h4]
            simp only [Bool.not_true, Bool.false_eq_true, if_false]
            split <;> rfl
          · have : ¬ (0 ≤ who ∧ who ≤ 1048575 ∧ 0 ≤ op ∧ op ≤ 1048575) := by omega
            rw [if_neg this, decide_eq_false h4]
            simp only [Bool.not_false, if_true]
        · have : ¬ (0 ≤ who ∧ who ≤ 1048575 ∧ 0 ≤ op ∧ op ≤ 1048575) := by omega
          rw [if_neg h3, if_neg this, Option.bind_some]
          simp only [icehouseref03_Next.j0, Bool.not_false, if_true]
      · have : ¬ (0 ≤ who ∧ who ≤ 1048575 ∧ 0 ≤ op ∧ op ≤ 1048575) := by omega
        rw [if_neg this, decide_eq_false h2, if_neg Bool.false_ne_true]
        simp only [icehouseref03_Next.j0, if_true]
    · have : ¬ (0 ≤ who ∧ who ≤ 1048575 ∧ 0 ≤ op ∧ op ≤ 1048575) := by omega
      rw [if_neg h1, if_neg this, Option.bind_some, if_neg Bool.false_ne_true]
      simp only [icehouseref03_Next.j0, if_true]
  · rw [if_neg h, if_neg h, if_neg (by decide)]
    simp only [icehouseref03_Next.j0, if_true]
end Go.Proofs.Ytbmbnkoggmeanaa.CmpQTwo
