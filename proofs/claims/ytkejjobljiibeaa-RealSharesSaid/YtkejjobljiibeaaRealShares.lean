/- The walk of the law RealShares, for every two words. No condition. -/
import Derived.Test.YtkejjobljiibeaaC7
import Derived.Below
namespace Go.Proofs.Ytkejjobljiibeaa.Rl
open Go.ChangeShapes Go.WideShapes Go.ChangeAt Go.RowKit Dbl
set_option linter.unusedVariables false
set_option linter.unusedSimpArgs false
theorem shareR_num {a b : Nat} : (shareR a b).1 < full ∧ canonU (shareR a b).1 = (shareR a b).1 ∧ kindU (shareR a b).1 < 3 := by
  by_cases h : inf < rung a ∨ inf < rung b ∨ rung b = 0 ∨ (rung a = inf ∧ rung b = inf)
  · rw [shareR_none h]; decide
  · obtain ⟨r, hr, hr1, hr2⟩ := div_some (a := a) (b := b) (by omega) (by omega) (fun h0 => h (.inr (.inr (.inl h0)))) (fun h0 => h (.inr (.inr (.inr h0))))
    by_cases h0 : rung r = 0
    · rw [shareR_zero h hr h0]; decide
    · rw [shareR_some h hr h0]
      show r < full ∧ canonU r = r ∧ kindU r < 3
      refine ⟨hr2, ?_, ?_⟩
      · unfold canonU; rw [if_neg h0, if_neg (by omega)]
      · have hn : ¬ kindU r = 3 := fun e => by have := kind_nan.1 e; omega
        have := kind_pos r
        omega
set_option maxHeartbeats 1000000 in
theorem realShares (w : World) (a : Int) (wa : (Lit.int .u64 a).wf = true) (b : Int) (wb : (Lit.int .u64 b).wf = true) :
    Calls Try.prog 9 #[.int .u64 a, .int .u64 b] w fun e w' => e = .returned (.bool true) ∧ Below w.heap.size w w' := by
  have ha := (wd_of_wf wa).nat
  have hb := (wd_of_wf wb).nat
  have hA : ∀ w : World, (callFunc 12 #[.int .u64 a]).run Try.prog w = .ok (.value (.float .f64 a.toNat)) w := c12 a
  have hB : ∀ w : World, (callFunc 12 #[.int .u64 b]).run Try.prog w = .ok (.value (.float .f64 b.toNat)) w := c12 b
  have h13 := c13
  obtain ⟨hl, hc, hk⟩ := @shareR_num a.toNat b.toNat
  have S := fun w => share a.toNat b.toNat ha hb w
  have T := fun w => rshare a.toNat b.toNat ha hb w
  clear wa wb ha hb
  generalize a.toNat = x at *
  generalize b.toNat = y at *
  obtain ⟨r, k, hrk⟩ : ∃ r k, shareR x y = (r, k) := ⟨_, _, rfl⟩
  rw [hrk] at hl hc hk S T
  have HS := Lib.hid S
  have HT := Lib.hid T
  have C := Lib.hid (fun w => rcanon (r : Int) (wd_nat hl) w)
  rw [Int.toNat_natCast, hc] at C
  obtain ⟨v, hv⟩ : ∃ v, kindU r = v := ⟨_, rfl⟩
  have K := Lib.hid (fun w => kind_n hl hv w)
  have hk : v < 3 := hv ▸ hk
  have tk := decide_eq_true hk
  have KN := Lib.hid (fun w => known_ w)
  clear hrk hl hc hv hk S T
  go_enter Try.func9, Try.ntmps9
  go_wp2_with (first | (go_at_call 32; (with_reducible refine (HS.out _).mono ?_); rintro e w' ⟨rfl, rfl⟩) | (go_at_call 33; (with_reducible refine (HT.out _).mono ?_); rintro e w' ⟨rfl, rfl⟩) | (go_at_call 15; (with_reducible refine (C.out _).mono ?_); rintro e w' ⟨rfl, rfl⟩) | (go_at_call 24; (with_reducible refine (K.out _).mono ?_); rintro e w' ⟨rfl, rfl⟩) | (go_at_call 23; (with_reducible refine (KN.out _).mono ?_); rintro e w' ⟨rfl, rfl⟩))
  go_ret
  exact ⟨rfl, Below.refl _ _⟩
end Go.Proofs.Ytkejjobljiibeaa.Rl
