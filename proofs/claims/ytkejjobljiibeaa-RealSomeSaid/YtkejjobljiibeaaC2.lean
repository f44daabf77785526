/- Contracts of real.Compare, icehouseref01.Compare, math.Inf(1), math.NaN, math.Copysign at (0, -1), and icehouselaw01.known. Conditions: words of 64 bits. -/
import Derived.Test.YtkejjobljiibeaaC1
namespace Go.Proofs.Ytkejjobljiibeaa.Rl
open Go.ChangeShapes Go.WideShapes Go.ChangeAt Go.RowKit Dbl

/-- real.Compare -/
theorem compare_ (a b : Nat) (ha : a < full) (hb : b < full) (w : World) : Calls Try.prog 20 #[.float .f64 a, .float .f64 b] w fun e w' => e = .returned (.int .i64 (cmpU a b)) ∧ w = w' := by
  have ka := canonU_lt ha
  have kb := canonU_lt hb
  unfold cmpU
  by_cases h1 : keyU (canonU a) < keyU (canonU b)
  · rw [if_pos h1]
    have t1 : decide (keyU (canonU a) < keyU (canonU b)) = true := decide_eq_true h1
    clear h1
    go_enter Try.func20, Try.ntmps20
    go_wp2_with fail
    refine (canon a _).mono ?_; rintro e w' ⟨rfl, rfl⟩
    go_wp2_with fail
    refine (key _ ka _).mono ?_; rintro e w' ⟨rfl, rfl⟩
    go_wp2_with fail
    refine (canon b _).mono ?_; rintro e w' ⟨rfl, rfl⟩
    go_wp2_with fail
    refine (key _ kb _).mono ?_; rintro e w' ⟨rfl, rfl⟩
    go_wp2_with fail
    go_ret
    exact ⟨rfl, rfl⟩
  · have t1 : decide (keyU (canonU a) < keyU (canonU b)) = false := decide_eq_false h1
    rw [if_neg h1]; clear h1
    by_cases h2 : keyU (canonU b) < keyU (canonU a)
    · rw [if_pos h2]
      have t2 : decide (keyU (canonU b) < keyU (canonU a)) = true := decide_eq_true h2
      clear h2
      go_enter Try.func20, Try.ntmps20
      go_wp2_with fail
      refine (canon a _).mono ?_; rintro e w' ⟨rfl, rfl⟩
      go_wp2_with fail
      refine (key _ ka _).mono ?_; rintro e w' ⟨rfl, rfl⟩
      go_wp2_with fail
      refine (canon b _).mono ?_; rintro e w' ⟨rfl, rfl⟩
      go_wp2_with fail
      refine (key _ kb _).mono ?_; rintro e w' ⟨rfl, rfl⟩
      go_wp2_with fail
      go_ret
      exact ⟨rfl, rfl⟩
    · rw [if_neg h2]
      have t2 : decide (keyU (canonU b) < keyU (canonU a)) = false := decide_eq_false h2
      clear h2
      go_enter Try.func20, Try.ntmps20
      go_wp2_with fail
      refine (canon a _).mono ?_; rintro e w' ⟨rfl, rfl⟩
      go_wp2_with fail
      refine (key _ ka _).mono ?_; rintro e w' ⟨rfl, rfl⟩
      go_wp2_with fail
      refine (canon b _).mono ?_; rintro e w' ⟨rfl, rfl⟩
      go_wp2_with fail
      refine (key _ kb _).mono ?_; rintro e w' ⟨rfl, rfl⟩
      go_wp2_with fail
      go_ret
      exact ⟨rfl, rfl⟩
theorem rcompare (a b : Int) (ha : Wd a) (hb : Wd b) (w : World) : Calls Try.prog 21 #[.int .u64 a, .int .u64 b] w fun e w' => e = .returned (.int .i64 (cmpU a.toNat b.toNat)) ∧ w = w' := by
  have ka := wd_nat (canonU_lt ha.nat)
  have kb := wd_nat (canonU_lt hb.nat)
  unfold cmpU
  by_cases h1 : keyU (canonU a.toNat) < keyU (canonU b.toNat)
  · rw [if_pos h1]
    have t1 : decide (keyU (canonU a.toNat) < keyU (canonU b.toNat)) = true := decide_eq_true h1
    clear h1
    go_enter Try.func21, Try.ntmps21
    go_wp2_with fail
    refine (rcanon a ha _).mono ?_; rintro e w' ⟨rfl, rfl⟩
    go_wp2_with fail
    refine (rkey _ ka _).mono ?_; rintro e w' ⟨rfl, rfl⟩
    go_wp2_with fail
    refine (rcanon b hb _).mono ?_; rintro e w' ⟨rfl, rfl⟩
    go_wp2_with fail
    refine (rkey _ kb _).mono ?_; rintro e w' ⟨rfl, rfl⟩
    go_wp2_with fail
    go_ret
    exact ⟨rfl, rfl⟩
  · have t1 : decide (keyU (canonU a.toNat) < keyU (canonU b.toNat)) = false := decide_eq_false h1
    rw [if_neg h1]; clear h1
    by_cases h2 : keyU (canonU b.toNat) < keyU (canonU a.toNat)
    · rw [if_pos h2]
      have t2 : decide (keyU (canonU b.toNat) < keyU (canonU a.toNat)) = true := decide_eq_true h2
      clear h2
      go_enter Try.func21, Try.ntmps21
      go_wp2_with fail
      refine (rcanon a ha _).mono ?_; rintro e w' ⟨rfl, rfl⟩
      go_wp2_with fail
      refine (rkey _ ka _).mono ?_; rintro e w' ⟨rfl, rfl⟩
      go_wp2_with fail
      refine (rcanon b hb _).mono ?_; rintro e w' ⟨rfl, rfl⟩
      go_wp2_with fail
      refine (rkey _ kb _).mono ?_; rintro e w' ⟨rfl, rfl⟩
      go_wp2_with fail
      go_ret
      exact ⟨rfl, rfl⟩
    · rw [if_neg h2]
      have t2 : decide (keyU (canonU b.toNat) < keyU (canonU a.toNat)) = false := decide_eq_false h2
      clear h2
      go_enter Try.func21, Try.ntmps21
      go_wp2_with fail
      refine (rcanon a ha _).mono ?_; rintro e w' ⟨rfl, rfl⟩
      go_wp2_with fail
      refine (rkey _ ka _).mono ?_; rintro e w' ⟨rfl, rfl⟩
      go_wp2_with fail
      refine (rcanon b hb _).mono ?_; rintro e w' ⟨rfl, rfl⟩
      go_wp2_with fail
      refine (rkey _ kb _).mono ?_; rintro e w' ⟨rfl, rfl⟩
      go_wp2_with fail
      go_ret
      exact ⟨rfl, rfl⟩
/-- math.Inf(1) -/
theorem inf_ (w : World) : Calls Try.prog 38 #[.int .i64 1] w fun e w' => e = .returned (.float .f64 9218868437227405312) ∧ w = w' := by
  have h12 := c12
  go_enter Try.func38, Try.ntmps38
  go_wp2
  go_ret
  exact ⟨rfl, rfl⟩
theorem nan_ (w : World) : Calls Try.prog 39 #[] w fun e w' => e = .returned (.float .f64 9221120237041090561) ∧ w = w' := by
  have h12 := c12
  go_enter Try.func39, Try.ntmps39
  go_wp2
  go_ret
  exact ⟨rfl, rfl⟩
theorem copysign_ (w : World) : Calls Try.prog 40 #[.float .f64 0, .float .f64 13830554455654793216] w fun e w' => e = .returned (.float .f64 9223372036854775808) ∧ w = w' := by
  have h12 := c12
  have h13 := c13
  go_enter Try.func40, Try.ntmps40
  go_wp2
  go_ret
  exact ⟨ret_f (by decide), rfl⟩
/-- icehouselaw01.known -/
theorem known_ (w : World) : Calls Try.prog 23 #[] w fun e w' => e = .returned (.bool true) ∧ w = w' := by
  have e1 : ((keyU 0 : Nat) : Int) = 9223372036854775808 := by decide
  have e2 : cmpU 9218868437227405312 9221120237041090561 = -1 := by decide
  have e3 : canonU 9223372036854775808 = 0 := by decide
  have E1 := Lib.hid e1; have E2 := Lib.hid e2; have E3 := Lib.hid e3; clear e1 e2 e3
  go_enter Try.func23, Try.ntmps23
  go_wp2_with fail
  refine (key 0 (by decide) _).mono ?_; rw [E1.out]; rintro e w' ⟨rfl, rfl⟩
  go_wp2_with fail
  refine (inf_ _).mono ?_; rintro e w' ⟨rfl, rfl⟩
  go_wp2_with fail
  refine (nan_ _).mono ?_; rintro e w' ⟨rfl, rfl⟩
  go_wp2_with fail
  refine (compare_ _ _ (by decide) (by decide) _).mono ?_; rw [E2.out]; rintro e w' ⟨rfl, rfl⟩
  go_wp2_with fail
  refine (copysign_ _).mono ?_; rintro e w' ⟨rfl, rfl⟩
  go_wp2_with fail
  refine (canon _ _).mono ?_; rw [E3.out]; rintro e w' ⟨rfl, rfl⟩
  go_wp2_with fail
  refine (same _ _ _).mono ?_; rintro e w' ⟨rfl, rfl⟩
  go_wp2_with fail
  go_ret
  exact ⟨rfl, rfl⟩
end Go.Proofs.Ytkejjobljiibeaa.Rl
