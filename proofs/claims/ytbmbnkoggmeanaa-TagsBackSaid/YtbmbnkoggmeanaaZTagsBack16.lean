/- Written by a program of this session over the kit's print: functions and their contracts. · tags.Compare, plain. · The reference's Compare, plain. -/
import Derived.Test.YtbmbnkoggmeanaaZTagsBack11
import Derived.Test.YtbmbnkoggmeanaaZTagsBack12
import Derived.Test.YtbmbnkoggmeanaaZTagsBack13
import Derived.Test.YtbmbnkoggmeanaaZTagsBack14
import Derived.Test.YtbmbnkoggmeanaaZTagsBack15
import Derived.Test.YtbmbnkoggmeanaaZTagsBack10
namespace Go.Proofs.Ytbmbnkoggmeanaa.QR
open Go.RowKit Go.Proofs.YtbmbnkoggmeanaaW.PrintWords Go.Proofs.YtbmbnkoggmeanaaW.PrintLast Go.Proofs.YtbmbnkoggmeanaaW.PrintMore
attribute [local go_sem] max2_int min2_int max_two min_two max_three min_three max_four min_four   -- for this text's walks alone
set_option linter.unusedVariables false
set_option linter.unusedSimpArgs false

end Go.Proofs.Ytbmbnkoggmeanaa.QR

namespace Go.Proofs.Ytbmbnkoggmeanaa.CmpQR
open Go.RowKit Go.Proofs.Ytbmbnkoggmeanaa.Lex Go.Proofs.Ytbmbnkoggmeanaa.QR Go.Proofs.YtbmbnkoggmeanaaW.PrintWords Go.Proofs.YtbmbnkoggmeanaaW.PrintLast Go.Proofs.YtbmbnkoggmeanaaW.PrintMore
set_option linter.unusedVariables false
set_option linter.unusedSimpArgs false
theorem cmp_int (a b : Int) : cmp_Compare_int.f a b = some (cmp1 a b) := by
  unfold cmp_Compare_int.f cmp_isNaN_int.f cmp1
  have h1 : (a != a) = false := by simp
  have h2 : (b != b) = false := by simp
  simp only [h1, h2, Option.bind_some, Bool.false_eq_true, if_false]
  repeat' split
  all_goals first | rfl | omega
theorem or_f (k : Nat) (x y z : Int) : cmp_Or_int.f (k + 4) [x, y, z] = some (if x ≠ 0 then x else if y ≠ 0 then y else z) := by
  have w1 : wrap64 1 = 1 := by decide +kernel
  have w2 : wrap64 2 = 2 := by decide +kernel
  have w3 : wrap64 3 = 3 := by decide +kernel
  unfold cmp_Or_int.f
  simp only [cmp_Or_int.l0, rd, List.length_cons, List.length_nil]
  by_cases hx : x = 0
  · by_cases hy : y = 0
    · by_cases hz : z = 0
      · simp [hx, hy, hz, w1, w2, w3]
      · simp [hx, hy, hz, w1, w2, w3]
    · simp [hx, hy, w1, w2, w3]
  · simp [hx, w1, w2, w3]
theorem compare_f (k : Nat) (a0 a1 a2 b0 b1 b2 : Int) : tags_Compare.f (k + 4) a0 a1 a2 b0 b1 b2 = some (cmpV a0 a1 a2 b0 b1 b2) := by
  unfold tags_Compare.f cmpV
  simp only [cmp_int, Option.bind_some, or_f]
theorem compare_ev (a0 a1 a2 b0 b1 b2 : Int) : Since (fun k => tags_Compare.f k a0 a1 a2 b0 b1 b2) (cmpV a0 a1 a2 b0 b1 b2) :=
  ⟨4, fun k hk => by obtain ⟨j, rfl⟩ : ∃ j, k = j + 4 := ⟨k - 4, by omega⟩; exact compare_f j _ _ _ _ _ _⟩
end Go.Proofs.Ytbmbnkoggmeanaa.CmpQR

namespace Go.Proofs.Ytbmbnkoggmeanaa.CmpQR
open Go.RowKit Go.Proofs.Ytbmbnkoggmeanaa.Lex Go.Proofs.Ytbmbnkoggmeanaa.QR Go.Proofs.YtbmbnkoggmeanaaW.PrintWords Go.Proofs.YtbmbnkoggmeanaaW.PrintLast Go.Proofs.YtbmbnkoggmeanaaW.PrintMore
set_option linter.unusedVariables false
set_option linter.unusedSimpArgs false
theorem rcompare_f (k : Nat) (a0 a1 a2 b0 b1 b2 : Int) : icehouseref03_Compare.f (k + 4) a0 a1 a2 b0 b1 b2 = some (cmpV a0 a1 a2 b0 b1 b2) := by
  have w1 : wrap64 1 = 1 := by decide +kernel
  have w2 : wrap64 2 = 2 := by decide +kernel
  have w3 : wrap64 3 = 3 := by decide +kernel
  unfold icehouseref03_Compare.f cmpV cmp1
  simp only [icehouseref03_Compare.l0, rd, List.length_cons, List.length_nil]
  by_cases h0 : a0 < b0
  · simp [h0]
  · by_cases h1 : a0 > b0
    · simp [h0, h1]
    · by_cases h2 : a1 < b1
      · simp [h0, h1, h2, w1]
      · by_cases h3 : a1 > b1
        · simp [h0, h1, h2, h3, w1]
        · by_cases h4 : a2 < b2
          · simp [h0, h1, h2, h3, h4, w1, w2]
          · by_cases h5 : a2 > b2
            · simp [h0, h1, h2, h3, h4, h5, w1, w2]
            · simp [h0, h1, h2, h3, h4, h5, w1, w2, w3]
theorem rcompare_ev (a0 a1 a2 b0 b1 b2 : Int) : Since (fun k => icehouseref03_Compare.f k a0 a1 a2 b0 b1 b2) (cmpV a0 a1 a2 b0 b1 b2) :=
  ⟨4, fun k hk => by obtain ⟨j, rfl⟩ : ∃ j, k = j + 4 := ⟨k - 4, by omega⟩; exact rcompare_f j _ _ _ _ _ _⟩
end Go.Proofs.Ytbmbnkoggmeanaa.CmpQR
