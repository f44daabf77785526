/- The reference's Compare, plain. -/
import Derived.Test.YtbmbnkoggmeanaaZTagsNewer24
namespace Go.Proofs.Ytbmbnkoggmeanaa.CmpQR
open Go.RowKit Go.Proofs.Ytbmbnkoggmeanaa.Lex Go.Proofs.Ytbmbnkoggmeanaa.QR Go.Proofs.YtbmbnkoggmeanaaW.PrintWords Go.Proofs.YtbmbnkoggmeanaaW.PrintLast Go.Proofs.YtbmbnkoggmeanaaW.PrintMore
set_option linter.unusedVariables false
set_option linter.unusedSimpArgs false
theorem rcompare_f (k : Nat) (a0 a1 a2 b0 b1 b2 : Int) : icehouseref03_Compare.f (k + 4) a0 a1 a2 b0 b1 b2 = some (cmpV a0 a1 a2 b0 b1 b2) := by
  have w1 : wrap64 1 = 1 := by decide +kernel
  have w2 : wrap64 2 = 2 := by decide +kernel
  have w3 : wrap64 3 = 3 := by decide +kernel
  unfold icehouseref03_Compare.f cmpV cmp1
  simp only [icehouseref03_Compare.l0, rd, List.length_cons, List.length_nil]
  by_cases h0 : a0 < b0
  · simp [h0]
  · by_cases h1 : a0 > b0
    · simp [h0, h1]
    · by_cases h2 : a1 < b1
      · simp [h0, h1, h2, w1]
      · by_cases h3 : a1 > b1
        · simp [h0, h1, h2, h3, w1]
        · by_cases h4 : a2 < b2
          · simp [h0, h1, h2, h3, h4, w1, w2]
          · by_cases h5 : a2 > b2
            · simp [h0, h1, h2, h3, h4, h5, w1, w2]
            · simp [h0, h1, h2, h3, h4, h5, w1, w2, w3]
theorem rcompare_ev (a0 a1 a2 b0 b1 b2 : Int) : Since (fun k => icehouseref03_Compare.f k a0 a1 a2 b0 b1 b2) (cmpV a0 a1 a2 b0 b1 b2) :=
  ⟨4, fun k hk => by obtain ⟨j, rfl⟩ : ∃ j, k = j + 4 := ⟨k - 4, by omega⟩; exact rcompare_f j _ _ _ _ _ _⟩
end Go.Proofs.Ytbmbnkoggmeanaa.CmpQR
