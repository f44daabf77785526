/- Contracts of real.Compare, icehouseref01.Compare, math.Inf(1), math.NaN, math.Copysign at (0, -1), and icehouselaw01.known. Conditions: words of 64 bits. -/
import Derived.Test.YtlifioeeooclfaaC1
namespace Go.Proofs.Ytlifioeeooclfaa.Rl
open Go.ChangeShapes Go.WideShapes Go.ChangeAt Go.RowKit Dbl

/-- real.Compare -/
theorem compare_ (a b : Nat) (ha : a < full) (hb : b < full) (w : World) : Calls Try.prog 43 #[.float .f64 a, .float .f64 b] w fun e w' => e = .returned (.int .i64 (cmpU a b)) ∧ w = w' := by
  have ka := canonU_lt ha
  have kb := canonU_lt hb
  unfold cmpU
  by_cases h1 : keyU (canonU a) < keyU (canonU b)
  · rw [if_pos h1]
    have t1 : decide (keyU (canonU a) < keyU (canonU b)) = true := decide_eq_true h1
    clear h1
    go_enter Try.func43, Try.ntmps43
    go_wp2_with fail
    refine (canon a _).mono ?_; rintro e w' ⟨rfl, rfl⟩
    go_wp2_with fail
    refine (key _ ka _).mono ?_; rintro e w' ⟨rfl, rfl⟩
    go_wp2_with fail
    refine (canon b _).mono ?_; rintro e w' ⟨rfl, rfl⟩
    go_wp2_with fail
    refine (key _ kb _).mono ?_; rintro e w' ⟨rfl, rfl⟩
    go_wp2_with fail
    go_ret
    exact ⟨rfl, rfl⟩
  · have t1 : decide (keyU (canonU a) < keyU (canonU b)) = false := decide_eq_false h1
    rw [if_neg h1]; clear h1
    by_cases h2 : keyU (canonU b) < keyU (canonU a)
    · rw [if_pos h2]
      have t2 : decide (keyU (canonU b) < keyU (canonU a)) = true := decide_eq_true h2
      clear h2
      go_enter Try.func43, Try.ntmps43
      go_wp2_with fail
      refine (canon a _).mono ?_; rintro e w' ⟨rfl, rfl⟩
      go_wp2_with fail
      refine (key _ ka _).mono ?_; rintro e w' ⟨rfl, rfl⟩
      go_wp2_with fail
      refine (canon b _).mono ?_; rintro e w' ⟨rfl, rfl⟩
      go_wp2_with fail
      refine (key _ kb _).mono ?_; rintro e w' ⟨rfl, rfl⟩
      go_wp2_with fail
      go_ret
      exact ⟨rfl, rfl⟩
    · rw [if_neg h2]
      have t2 : decide (keyU (canonU b) < keyU (canonU a)) = false := decide_eq_false h2
      clear h2
      go_enter Try.func43, Try.ntmps43
      go_wp2_with fail
      refine (canon a _).mono ?_; rintro e w' ⟨rfl, rfl⟩
      go_wp2_with fail
      refine (key _ ka _).mono ?_; rintro e w' ⟨rfl, rfl⟩
      go_wp2_with fail
      refine (canon b _).mono ?_; rintro e w' ⟨rfl, rfl⟩
      go_wp2_with fail
      refine (key _ kb _).mono ?_; rintro e w' ⟨rfl, rfl⟩
      go_wp2_with fail
      go_ret
      exact ⟨rfl, rfl⟩
theorem rcompare (a b : Int) (ha : Wd a) (hb : Wd b) (w : World) : Calls Try.prog 26 #[.int .u64 a, .int .u64 b] w fun e w' => e = .returned (.int .i64 (cmpU a.toNat b.toNat)) ∧ w = w' := by
  have ka := wd_nat (canonU_lt ha.nat)
  have kb := wd_nat (canonU_lt hb.nat)
  unfold cmpU
  by_cases h1 : keyU (canonU a.toNat) < keyU (canonU b.toNat)
  · rw [if_pos h1]
    have t1 : decide (keyU (canonU a.toNat) < keyU (canonU b.toNat)) = true := decide_eq_true h1
    clear h1
    go_enter Try.func26, Try.ntmps26
    go_wp2_with fail
    refine (rcanon a ha _).mono ?_; rintro e w' ⟨rfl, rfl⟩
    go_wp2_with fail
    refine (rkey _ ka _).mono ?_; rintro e w' ⟨rfl, rfl⟩
    go_wp2_with fail
    refine (rcanon b hb _).mono ?_; rintro e w' ⟨rfl, rfl⟩
    go_wp2_with fail
    refine (rkey _ kb _).mono ?_; rintro e w' ⟨rfl, rfl⟩
    go_wp2_with fail
    go_ret
    exact ⟨rfl, rfl⟩
  · have t1 : decide (keyU (canonU a.toNat) < keyU (canonU b.toNat)) = false := decide_eq_false h1
    rw [if_neg h1]; clear h1
    by_cases h2 : keyU (canonU b.toNat) < keyU (canonU a.toNat)
    · rw [if_pos h2]
      have t2 : decide (keyU (canonU b.toNat) < keyU (canonU a.toNat)) = true := decide_eq_true h2
      clear h2
      go_enter Try.func26, Try.ntmps26
      go_wp2_with fail
      refine (rcanon a ha _).mono ?_; rintro e w' ⟨rfl, rfl⟩
      go_wp2_with fail
      refine (rkey _ ka _).mono ?_; rintro e w' ⟨rfl, rfl⟩
      go_wp2_with fail
      refine (rcanon b hb _).mono ?_; rintro e w' ⟨rfl, rfl⟩
      go_wp2_with fail
      refine (rkey _ kb _).mono ?_; rintro e w' ⟨rfl, rfl⟩
      go_wp2_with fail
      go_ret
      exact ⟨rfl, rfl⟩
    · rw [if_neg h2]
      have t2 : decide (keyU (canonU b.toNat) < keyU (canonU a.toNat)) = false := decide_eq_false h2
      clear h2
      go_enter Try.func26, Try.ntmps26
      go_wp2_with fail
      refine (rcanon a ha _).mono ?_; rintro e w' ⟨rfl, rfl⟩
      go_wp2_with fail
      refine (rkey _ ka _).mono ?_; rintro e w' ⟨rfl, rfl⟩
      go_wp2_with fail
      refine (rcanon b hb _).mono ?_; rintro e w' ⟨rfl, rfl⟩
      go_wp2_with fail
      refine (rkey _ kb _).mono ?_; rintro e w' ⟨rfl, rfl⟩
      go_wp2_with fail
      go_ret
      exact ⟨rfl, rfl⟩
/-- math.Inf(1) -/
theorem inf_ (w : World) : Calls Try.prog 35 #[.int .i64 1] w fun e w' => e = .returned (.float .f64 9218868437227405312) ∧ w = w' := by
  have h12 := c12
  go_enter Try.func35, Try.ntmps35
  go_wp2
  go_ret
  exact ⟨rfl, rfl⟩
end Go.Proofs.Ytlifioeeooclfaa.Rl
