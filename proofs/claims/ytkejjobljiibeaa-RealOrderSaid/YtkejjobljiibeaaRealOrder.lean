/- For every three words a, b, c the law RealOrder returns true: keys rise as numbers do and are their own, there and back is the same, and the order is total. No condition. -/
/-
  THE SHELL OF A PROOF OF 'Rows.RealOrderSaid' ('icehouse/icehouselaw01.RealOrder'), WRITTEN BY PROGRAM (proof-skeleton.mjs) off the guide's own print for that function. Not trusted: Lean checks it.
  YOURS ARE THE HOLES MARKED 'HOLE' (each bears 'sorry'). ALL ELSE IS THE GUIDE's TEMPLATE (howto/template/XProofs.lean) at this function's number and types: leave it.
-/
import Derived.Test.YtkejjobljiibeaaC2
import Derived.Test.YtkejjobljiibeaaP4
import Derived.WalkKit
import Derived.ProofKit
import Derived.OpenShut
namespace Go.Proofs.Ytkejjobljiibeaa.realOrder
open Dbl Rl Go.ChangeShapes Go.WideShapes Go.ChangeAt Go.RowKit
set_option linter.unusedVariables false      -- a walk need not use every 'w<i>' (that an integer argument fits its kind)

theorem own : ownKnob Try.prog.godebug = none := by kernel_rfl

set_option maxHeartbeats 400000 in
theorem w0_ (x y z : Nat) (na : x < full) (nb : y < full) (nc : z < full) (hl : Fl x y)(hp : cmpU x y = -1)(hq : cmpU y z = -1) (w : World) :
    Calls Try.prog 4 #[.int .u64 x, .int .u64 y, .int .u64 z] w fun e w' => e = .returned (.bool true) ∧ Grown w w' := by
    have h12 := c12
    have h13 := c13
    have OK := Lib.hid (of_key na)
    have nk := wd_nat (keyU_lt na)
    have P1 := Lib.hid hp
    have P2 : Hid (cmpU y x = 1) := Lib.hid (by rw [cmp_anti, hp]; try rfl)
    have kl := key_lt_of_pos na nb (lt_iff.1 hl).2.2
    have hl1 : (FloatKind.f64.format.order x y == some .lt) = true := by rw [hl]; rfl
    have t1 : decide (keyU y ≤ keyU x) = false := decide_eq_false (by omega)
    have t2 : (keyU x == keyU y) = false := beq_eq_false_iff_ne.2 (by omega)
    have t3 : ((keyU x : Int) == (keyU y : Int)) = false := beq_eq_false_iff_ne.2 (by omega)
    unfold Fl at hl
    have e1 : (FloatKind.f64.format.order x y == some .eq) = false := by
      rw [beq_eq_false_iff_ne]; intro e; exact absurd ((eq_rank na nb).1 e) (by simp [hp])
    have Q1 := Lib.hid hq
    have R1 := Lib.hid (cmp_trans hp hq)
    clear hp hq hl
    go_enter Try.func4, Try.ntmps4
    go_wp2_with (first | (go_at_call 16; (with_reducible refine (key _ (by assumption) _).mono ?_); rintro e w' ⟨rfl, rfl⟩) | (go_at_call 18; (with_reducible refine (of_ _ nk _).mono ?_); rw [Int.toNat_natCast, OK.out]; rintro e w' ⟨rfl, rfl⟩) | (go_at_call 20; (with_reducible refine (compare_ _ _ (by assumption) (by assumption) _).mono ?_); (try rw [P1.out]); (try rw [P2.out]); (try rw [Q1.out]); (try rw [R1.out]); rintro e w' ⟨rfl, rfl⟩) | (go_at_call 23; (with_reducible refine (known_ _).mono ?_); rintro e w' ⟨rfl, rfl⟩))
    go_ret
    exact ⟨rfl, by repeat (first | exact Grown.refl _ | apply Grown.drew | apply Grown.alloc)⟩
set_option maxHeartbeats 400000 in
theorem w1_ (x y z : Nat) (na : x < full) (nb : y < full) (nc : z < full) (hl : Fl x y)(hp : cmpU x y = -1)(hq : cmpU y z ≠ -1) (w : World) :
    Calls Try.prog 4 #[.int .u64 x, .int .u64 y, .int .u64 z] w fun e w' => e = .returned (.bool true) ∧ Grown w w' := by
    have h12 := c12
    have h13 := c13
    have OK := Lib.hid (of_key na)
    have nk := wd_nat (keyU_lt na)
    have P1 := Lib.hid hp
    have P2 : Hid (cmpU y x = 1) := Lib.hid (by rw [cmp_anti, hp]; try rfl)
    have kl := key_lt_of_pos na nb (lt_iff.1 hl).2.2
    have hl1 : (FloatKind.f64.format.order x y == some .lt) = true := by rw [hl]; rfl
    have t1 : decide (keyU y ≤ keyU x) = false := decide_eq_false (by omega)
    have t2 : (keyU x == keyU y) = false := beq_eq_false_iff_ne.2 (by omega)
    have t3 : ((keyU x : Int) == (keyU y : Int)) = false := beq_eq_false_iff_ne.2 (by omega)
    unfold Fl at hl
    have e1 : (FloatKind.f64.format.order x y == some .eq) = false := by
      rw [beq_eq_false_iff_ne]; intro e; exact absurd ((eq_rank na nb).1 e) (by simp [hp])
    have Q1 := Lib.hid hq
    have Q2 : decide (cmpU y z < 0) = false := decide_eq_false (by rcases cmp_three y z with h | h | h <;> omega)
    clear hp hq hl
    go_enter Try.func4, Try.ntmps4
    go_wp2_with (first | (go_at_call 16; (with_reducible refine (key _ (by assumption) _).mono ?_); rintro e w' ⟨rfl, rfl⟩) | (go_at_call 18; (with_reducible refine (of_ _ nk _).mono ?_); rw [Int.toNat_natCast, OK.out]; rintro e w' ⟨rfl, rfl⟩) | (go_at_call 20; (with_reducible refine (compare_ _ _ (by assumption) (by assumption) _).mono ?_); (try rw [P1.out]); (try rw [P2.out]); rintro e w' ⟨rfl, rfl⟩) | (go_at_call 23; (with_reducible refine (known_ _).mono ?_); rintro e w' ⟨rfl, rfl⟩))
    go_ret
    exact ⟨rfl, by repeat (first | exact Grown.refl _ | apply Grown.drew | apply Grown.alloc)⟩
set_option maxHeartbeats 400000 in
theorem w2_ (x y z : Nat) (na : x < full) (nb : y < full) (nc : z < full) (hl : ¬ Fl x y)(hp : cmpU x y = -1)(hq : cmpU y z = -1)(hs : x ≠ y) (w : World) :
    Calls Try.prog 4 #[.int .u64 x, .int .u64 y, .int .u64 z] w fun e w' => e = .returned (.bool true) ∧ Grown w w' := by
    have h12 := c12
    have h13 := c13
    have OK := Lib.hid (of_key na)
    have nk := wd_nat (keyU_lt na)
    have P1 := Lib.hid hp
    have P2 : Hid (cmpU y x = 1) := Lib.hid (by rw [cmp_anti, hp]; try rfl)
    have hl1 : (FloatKind.f64.format.order x y == some .lt) = false := beq_eq_false_iff_ne.2 hl
    unfold Fl at hl
    have t2 : (keyU x == keyU y) = false := beq_eq_false_iff_ne.2 (fun e => hs (key_inj na nb e))
    have t3 : ((keyU x : Int) == (keyU y : Int)) = false := beq_eq_false_iff_ne.2 (fun e => hs (key_inj na nb (by omega)))
    have e1 : (FloatKind.f64.format.order x y == some .eq) = false := by
      rw [beq_eq_false_iff_ne]; intro e; exact absurd ((eq_rank na nb).1 e) (by simp [hp])
    have Q1 := Lib.hid hq
    have R1 := Lib.hid (cmp_trans hp hq)
    clear hp hq hs hl
    go_enter Try.func4, Try.ntmps4
    go_wp2_with (first | (go_at_call 16; (with_reducible refine (key _ (by assumption) _).mono ?_); rintro e w' ⟨rfl, rfl⟩) | (go_at_call 18; (with_reducible refine (of_ _ nk _).mono ?_); rw [Int.toNat_natCast, OK.out]; rintro e w' ⟨rfl, rfl⟩) | (go_at_call 20; (with_reducible refine (compare_ _ _ (by assumption) (by assumption) _).mono ?_); (try rw [P1.out]); (try rw [P2.out]); (try rw [Q1.out]); (try rw [R1.out]); rintro e w' ⟨rfl, rfl⟩) | (go_at_call 23; (with_reducible refine (known_ _).mono ?_); rintro e w' ⟨rfl, rfl⟩))
    go_ret
    exact ⟨rfl, by repeat (first | exact Grown.refl _ | apply Grown.drew | apply Grown.alloc)⟩
set_option maxHeartbeats 400000 in
theorem w3_ (x y z : Nat) (na : x < full) (nb : y < full) (nc : z < full) (hl : ¬ Fl x y)(hp : cmpU x y = -1)(hq : cmpU y z ≠ -1)(hs : x ≠ y) (w : World) :
    Calls Try.prog 4 #[.int .u64 x, .int .u64 y, .int .u64 z] w fun e w' => e = .returned (.bool true) ∧ Grown w w' := by
    have h12 := c12
    have h13 := c13
    have OK := Lib.hid (of_key na)
    have nk := wd_nat (keyU_lt na)
    have P1 := Lib.hid hp
    have P2 : Hid (cmpU y x = 1) := Lib.hid (by rw [cmp_anti, hp]; try rfl)
    have hl1 : (FloatKind.f64.format.order x y == some .lt) = false := beq_eq_false_iff_ne.2 hl
    unfold Fl at hl
    have t2 : (keyU x == keyU y) = false := beq_eq_false_iff_ne.2 (fun e => hs (key_inj na nb e))
    have t3 : ((keyU x : Int) == (keyU y : Int)) = false := beq_eq_false_iff_ne.2 (fun e => hs (key_inj na nb (by omega)))
    have e1 : (FloatKind.f64.format.order x y == some .eq) = false := by
      rw [beq_eq_false_iff_ne]; intro e; exact absurd ((eq_rank na nb).1 e) (by simp [hp])
    have Q1 := Lib.hid hq
    have Q2 : decide (cmpU y z < 0) = false := decide_eq_false (by rcases cmp_three y z with h | h | h <;> omega)
    clear hp hq hs hl
    go_enter Try.func4, Try.ntmps4
    go_wp2_with (first | (go_at_call 16; (with_reducible refine (key _ (by assumption) _).mono ?_); rintro e w' ⟨rfl, rfl⟩) | (go_at_call 18; (with_reducible refine (of_ _ nk _).mono ?_); rw [Int.toNat_natCast, OK.out]; rintro e w' ⟨rfl, rfl⟩) | (go_at_call 20; (with_reducible refine (compare_ _ _ (by assumption) (by assumption) _).mono ?_); (try rw [P1.out]); (try rw [P2.out]); rintro e w' ⟨rfl, rfl⟩) | (go_at_call 23; (with_reducible refine (known_ _).mono ?_); rintro e w' ⟨rfl, rfl⟩))
    go_ret
    exact ⟨rfl, by repeat (first | exact Grown.refl _ | apply Grown.drew | apply Grown.alloc)⟩
set_option maxHeartbeats 400000 in
theorem w4_ (x y z : Nat) (na : x < full) (nb : y < full) (nc : z < full) (hl : ¬ Fl x y)(hp : cmpU x y = 0)(hs : x = y)(hS : Fe x x) (w : World) :
    Calls Try.prog 4 #[.int .u64 x, .int .u64 y, .int .u64 z] w fun e w' => e = .returned (.bool true) ∧ Grown w w' := by
    have h12 := c12
    have h13 := c13
    have OK := Lib.hid (of_key na)
    have nk := wd_nat (keyU_lt na)
    have P1 := Lib.hid hp
    have P2 : Hid (cmpU y x = 0) := Lib.hid (by rw [cmp_anti, hp]; try rfl)
    have hl1 : (FloatKind.f64.format.order x y == some .lt) = false := beq_eq_false_iff_ne.2 hl
    unfold Fl at hl
    obtain rfl := hs
    have e1 : (FloatKind.f64.format.order x x == some .eq) = true := by
      rw [beq_iff_eq]; exact hS
    clear hp hS hl
    go_enter Try.func4, Try.ntmps4
    go_wp2_with (first | (go_at_call 16; (with_reducible refine (key _ (by assumption) _).mono ?_); rintro e w' ⟨rfl, rfl⟩) | (go_at_call 18; (with_reducible refine (of_ _ nk _).mono ?_); rw [Int.toNat_natCast, OK.out]; rintro e w' ⟨rfl, rfl⟩) | (go_at_call 20; (with_reducible refine (compare_ _ _ (by assumption) (by assumption) _).mono ?_); (try rw [P1.out]); rintro e w' ⟨rfl, rfl⟩) | (go_at_call 23; (with_reducible refine (known_ _).mono ?_); rintro e w' ⟨rfl, rfl⟩))
    go_ret
    exact ⟨rfl, by repeat (first | exact Grown.refl _ | apply Grown.drew | apply Grown.alloc)⟩
set_option maxHeartbeats 400000 in
theorem w5_ (x y z : Nat) (na : x < full) (nb : y < full) (nc : z < full) (hl : ¬ Fl x y)(hp : cmpU x y = 0)(hs : x = y)(hS : ¬ Fe x x) (w : World) :
    Calls Try.prog 4 #[.int .u64 x, .int .u64 y, .int .u64 z] w fun e w' => e = .returned (.bool true) ∧ Grown w w' := by
    have h12 := c12
    have h13 := c13
    have OK := Lib.hid (of_key na)
    have nk := wd_nat (keyU_lt na)
    have P1 := Lib.hid hp
    have P2 : Hid (cmpU y x = 0) := Lib.hid (by rw [cmp_anti, hp]; try rfl)
    have hl1 : (FloatKind.f64.format.order x y == some .lt) = false := beq_eq_false_iff_ne.2 hl
    unfold Fl at hl
    obtain rfl := hs
    have e1 : (FloatKind.f64.format.order x x == some .eq) = false := by
      rw [beq_eq_false_iff_ne]; exact hS
    clear hp hS hl
    go_enter Try.func4, Try.ntmps4
    go_wp2_with (first | (go_at_call 16; (with_reducible refine (key _ (by assumption) _).mono ?_); rintro e w' ⟨rfl, rfl⟩) | (go_at_call 18; (with_reducible refine (of_ _ nk _).mono ?_); rw [Int.toNat_natCast, OK.out]; rintro e w' ⟨rfl, rfl⟩) | (go_at_call 20; (with_reducible refine (compare_ _ _ (by assumption) (by assumption) _).mono ?_); (try rw [P1.out]); rintro e w' ⟨rfl, rfl⟩) | (go_at_call 23; (with_reducible refine (known_ _).mono ?_); rintro e w' ⟨rfl, rfl⟩))
    go_ret
    exact ⟨rfl, by repeat (first | exact Grown.refl _ | apply Grown.drew | apply Grown.alloc)⟩
set_option maxHeartbeats 400000 in
theorem w6_ (x y z : Nat) (na : x < full) (nb : y < full) (nc : z < full) (hl : ¬ Fl x y)(hp : cmpU x y = 0)(hs : x ≠ y)(hS : Fe x x) (w : World) :
    Calls Try.prog 4 #[.int .u64 x, .int .u64 y, .int .u64 z] w fun e w' => e = .returned (.bool true) ∧ Grown w w' := by
    have h12 := c12
    have h13 := c13
    have OK := Lib.hid (of_key na)
    have nk := wd_nat (keyU_lt na)
    have P1 := Lib.hid hp
    have P2 : Hid (cmpU y x = 0) := Lib.hid (by rw [cmp_anti, hp]; try rfl)
    have hl1 : (FloatKind.f64.format.order x y == some .lt) = false := beq_eq_false_iff_ne.2 hl
    unfold Fl at hl
    have t2 : (keyU x == keyU y) = false := beq_eq_false_iff_ne.2 (fun e => hs (key_inj na nb e))
    have t3 : ((keyU x : Int) == (keyU y : Int)) = false := beq_eq_false_iff_ne.2 (fun e => hs (key_inj na nb (by omega)))
    have e1 : (FloatKind.f64.format.order x y == some .eq) = true := by
      rw [beq_iff_eq]; exact (eq_rank na nb).2 ⟨hp, hS⟩
    have e2 : (FloatKind.f64.format.order x x == some .eq) = true := by
      rw [beq_iff_eq]; exact hS
    clear hp hS hs hl
    go_enter Try.func4, Try.ntmps4
    go_wp2_with (first | (go_at_call 16; (with_reducible refine (key _ (by assumption) _).mono ?_); rintro e w' ⟨rfl, rfl⟩) | (go_at_call 18; (with_reducible refine (of_ _ nk _).mono ?_); rw [Int.toNat_natCast, OK.out]; rintro e w' ⟨rfl, rfl⟩) | (go_at_call 20; (with_reducible refine (compare_ _ _ (by assumption) (by assumption) _).mono ?_); (try rw [P1.out]); (try rw [P2.out]); rintro e w' ⟨rfl, rfl⟩) | (go_at_call 23; (with_reducible refine (known_ _).mono ?_); rintro e w' ⟨rfl, rfl⟩))
    go_ret
    exact ⟨rfl, by repeat (first | exact Grown.refl _ | apply Grown.drew | apply Grown.alloc)⟩
set_option maxHeartbeats 400000 in
theorem w7_ (x y z : Nat) (na : x < full) (nb : y < full) (nc : z < full) (hl : ¬ Fl x y)(hp : cmpU x y = 0)(hs : x ≠ y)(hS : ¬ Fe x x) (w : World) :
    Calls Try.prog 4 #[.int .u64 x, .int .u64 y, .int .u64 z] w fun e w' => e = .returned (.bool true) ∧ Grown w w' := by
    have h12 := c12
    have h13 := c13
    have OK := Lib.hid (of_key na)
    have nk := wd_nat (keyU_lt na)
    have P1 := Lib.hid hp
    have P2 : Hid (cmpU y x = 0) := Lib.hid (by rw [cmp_anti, hp]; try rfl)
    have hl1 : (FloatKind.f64.format.order x y == some .lt) = false := beq_eq_false_iff_ne.2 hl
    unfold Fl at hl
    have t2 : (keyU x == keyU y) = false := beq_eq_false_iff_ne.2 (fun e => hs (key_inj na nb e))
    have t3 : ((keyU x : Int) == (keyU y : Int)) = false := beq_eq_false_iff_ne.2 (fun e => hs (key_inj na nb (by omega)))
    have e1 : (FloatKind.f64.format.order x y == some .eq) = false := by
      rw [beq_eq_false_iff_ne]; intro e; exact absurd ((eq_rank na nb).1 e) (by intro h; exact hS h.2)
    have e2 : (FloatKind.f64.format.order x x == some .eq) = false := by
      rw [beq_eq_false_iff_ne]; exact hS
    clear hp hS hs hl
    go_enter Try.func4, Try.ntmps4
    go_wp2_with (first | (go_at_call 16; (with_reducible refine (key _ (by assumption) _).mono ?_); rintro e w' ⟨rfl, rfl⟩) | (go_at_call 18; (with_reducible refine (of_ _ nk _).mono ?_); rw [Int.toNat_natCast, OK.out]; rintro e w' ⟨rfl, rfl⟩) | (go_at_call 20; (with_reducible refine (compare_ _ _ (by assumption) (by assumption) _).mono ?_); (try rw [P1.out]); (try rw [P2.out]); rintro e w' ⟨rfl, rfl⟩) | (go_at_call 23; (with_reducible refine (known_ _).mono ?_); rintro e w' ⟨rfl, rfl⟩))
    go_ret
    exact ⟨rfl, by repeat (first | exact Grown.refl _ | apply Grown.drew | apply Grown.alloc)⟩
set_option maxHeartbeats 400000 in
theorem w8_ (x y z : Nat) (na : x < full) (nb : y < full) (nc : z < full) (hl : ¬ Fl x y)(hp : cmpU x y = 1)(hs : x ≠ y) (w : World) :
    Calls Try.prog 4 #[.int .u64 x, .int .u64 y, .int .u64 z] w fun e w' => e = .returned (.bool true) ∧ Grown w w' := by
    have h12 := c12
    have h13 := c13
    have OK := Lib.hid (of_key na)
    have nk := wd_nat (keyU_lt na)
    have P1 := Lib.hid hp
    have P2 : Hid (cmpU y x = -1) := Lib.hid (by rw [cmp_anti, hp]; try rfl)
    have hl1 : (FloatKind.f64.format.order x y == some .lt) = false := beq_eq_false_iff_ne.2 hl
    unfold Fl at hl
    have t2 : (keyU x == keyU y) = false := beq_eq_false_iff_ne.2 (fun e => hs (key_inj na nb e))
    have t3 : ((keyU x : Int) == (keyU y : Int)) = false := beq_eq_false_iff_ne.2 (fun e => hs (key_inj na nb (by omega)))
    have e1 : (FloatKind.f64.format.order x y == some .eq) = false := by
      rw [beq_eq_false_iff_ne]; intro e; exact absurd ((eq_rank na nb).1 e) (by simp [hp])
    clear hp hs hl
    go_enter Try.func4, Try.ntmps4
    go_wp2_with (first | (go_at_call 16; (with_reducible refine (key _ (by assumption) _).mono ?_); rintro e w' ⟨rfl, rfl⟩) | (go_at_call 18; (with_reducible refine (of_ _ nk _).mono ?_); rw [Int.toNat_natCast, OK.out]; rintro e w' ⟨rfl, rfl⟩) | (go_at_call 20; (with_reducible refine (compare_ _ _ (by assumption) (by assumption) _).mono ?_); (try rw [P1.out]); (try rw [P2.out]); rintro e w' ⟨rfl, rfl⟩) | (go_at_call 23; (with_reducible refine (known_ _).mono ?_); rintro e w' ⟨rfl, rfl⟩))
    go_ret
    exact ⟨rfl, by repeat (first | exact Grown.refl _ | apply Grown.drew | apply Grown.alloc)⟩
/-! ### STEP 1: THE WALK: the Go text returns true. 'Grown w w'': the world has at most new blocks (Derived/RowKit3.lean). Part the cases AHEAD of 'go_enter' where a test parts the walk; take each callee by a contract of your own. -/
theorem walk (a0 : Int) (a1 : Int) (a2 : Int) (w0 : (Lit.int .u64 a0).wf = true) (w1 : (Lit.int .u64 a1).wf = true) (w2 : (Lit.int .u64 a2).wf = true) (w : World) :
    Calls Try.prog 4 #[.int .u64 a0, .int .u64 a1, .int .u64 a2] w fun e w' => e = .returned (.bool true) ∧ Grown w w' := by
  have ha : Wd a0 := wd_of_wf w0
  have hb : Wd a1 := wd_of_wf w1
  have hc : Wd a2 := wd_of_wf w2
  have na := ha.nat
  have nb := hb.nat
  have nc := hc.nat
  obtain ⟨x, rfl⟩ := Int.eq_ofNat_of_zero_le ha.1
  obtain ⟨y, rfl⟩ := Int.eq_ofNat_of_zero_le hb.1
  obtain ⟨z, rfl⟩ := Int.eq_ofNat_of_zero_le hc.1
  simp only [Int.toNat_natCast] at na nb nc
  by_cases hl : Fl x y
  · have hp := cmp_of_lt na nb hl
    by_cases hq : cmpU y z = -1
    · exact w0_ x y z na nb nc hl hp hq w
    · exact w1_ x y z na nb nc hl hp hq w
  · by_cases hs : x = y
    · have hp : cmpU x y = 0 := by rw [hs]; exact cmp_eq.2 rfl
      by_cases hS : Fe x x
      · exact w4_ x y z na nb nc hl hp hs hS w
      · exact w5_ x y z na nb nc hl hp hs hS w
    · rcases cmp_three x y with hp | hp | hp
      · by_cases hq : cmpU y z = -1
        · exact w2_ x y z na nb nc hl hp hq hs w
        · exact w3_ x y z na nb nc hl hp hq hs w
      · by_cases hS : Fe x x
        · exact w6_ x y z na nb nc hl hp hs hS w
        · exact w7_ x y z na nb nc hl hp hs hS w
      · exact w8_ x y z na nb nc hl hp hs w

/-! ### THE ROW's STEP: WRITTEN OUT: LEAVE IT -/
set_option maxRecDepth 100000 in
theorem lifted (os : Os) (started : os.Started) (H : Type) (enc : TypeId × Value → H) :
    ReturnsInHanded {} Try.checked os 4 .any (Rows.realOrderSpec.pre6 enc Try.prog Try.f4 Rows.realOrderRow.domain false) (Rows.realOrderSpec.post enc Try.prog Try.f4 false true false false) := by
  refine returnsInHanded_of_change (C := Try.checked) own started (by kernel_rfl) Try.func4
    (ChangeSpec.witness6 (enc := enc) (C := Try.checked) false ⟨#[], #[.int .u64 0, .int .u64 0, .int .u64 0], []⟩ 8 (by kernel_rfl) (by kernel_rfl) (by kernel_rfl) (by kernel_rfl)) ?_
  intro W base args ds gs before hval0 hW hcnd _
  have hval : ∀ (j : Nat) t v, Try.f4.params[j]? = some t → args[j]? = some v → Value.okWide Try.prog W .any base t v := hval0
  have hW' := hW
  obtain ⟨p, q, hA0, hV, rfl, hfz, hnd⟩ := hW
  have hA : DataW.TrodAll enc Try.prog W 0 (fun _ => true) true Try.f4.params.toList args.toList ds p := hA0
  rw [Try.params4] at hA hval
  obtain ⟨v0, vs0, d0, ds0, p0, q0, hargs, rfl, rfl, h0, r0⟩ := trodAll_cons hA
  obtain ⟨v1, vs1, d1, ds1, p1, q1, rfl, rfl, rfl, h1, r1⟩ := trodAll_cons r0
  obtain ⟨v2, vs2, d2, ds2, p2, q2, rfl, rfl, rfl, h2, r2⟩ := trodAll_cons r1
  obtain ⟨rfl, rfl, rfl⟩ := trodAll_nil r2
  obtain rfl : args = #[v0, v1, v2] := by cases args; simp_all
  obtain ⟨rfl, rfl⟩ := trodVars_none hV
  obtain ⟨a0, rfl, rfl, rfl, w0⟩ := open_int Try.underlying22 (hval 0 22 v0 rfl rfl) h0
  obtain ⟨a1, rfl, rfl, rfl, w1⟩ := open_int Try.underlying22 (hval 1 22 v1 rfl rfl) h1
  obtain ⟨a2, rfl, rfl, rfl, w2⟩ := open_int Try.underlying22 (hval 2 22 v2 rfl rfl) h2
  clear hA0 hval0
  simp only [List.append_nil] at hW'
  refine (walk a0 a1 a2 w0 w1 w2 W).mono fun e W' ⟨he, hg⟩ => ?_
  subst he
  exact ⟨_, rfl, post_of_same (pa := []) (pv := []) hW' (fun _ _ _ => (trodAll_cons_mk (shut_bool Try.underlying4 _) trodAll_mk0)) (fun sp _ => (trodAll_cons_mk (shut_int Try.underlying22 w0) (trodAll_cons_mk (shut_int Try.underlying22 w1) (trodAll_cons_mk (shut_int Try.underlying22 w2) trodAll_mk0)))) (fun _ _ => rfl) rfl
    (hg.frame _) hg.2.1 (ok_one (by kernel_rfl) rfl (okWide_bool_mk Try.underlying4 _))⟩

theorem over : Rows.realOrderRow.holds Try.pinned (OpenSpec.ofChange Rows.realOrderSpec) :=
  OpenClaim.holds_of_wide 4 Try.f4 rfl rfl rfl rfl rfl rfl rfl ⟨rfl, rfl, rfl, rfl, rfl⟩ rfl rfl rfl rfl rfl (by kernel_rfl) Try.func4 (by kernel_rfl)
    (of_decide_eq_true (by kernel_rfl)) (by unfold Func.isWrapper; first | (rw [if_pos (by decide +kernel)]; kernel_rfl) | (rw [if_neg (by decide +kernel)]; exact ⟨rfl, rfl⟩))
    (fun os started H enc _ => lifted os started H enc)

/-- ████ THE STATEMENT ████ -/
theorem proved : Rows.RealOrderSaid :=
  over
#print axioms proved
end Go.Proofs.Ytkejjobljiibeaa.realOrder
