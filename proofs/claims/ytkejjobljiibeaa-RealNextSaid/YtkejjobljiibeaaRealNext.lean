/- For every two words a, b the law RealNext returns true: between a number and the one whose key is one more there is none. No condition. -/
/-
  THE SHELL OF A PROOF OF 'Rows.RealNextSaid' ('icehouse/icehouselaw01.RealNext'), WRITTEN BY PROGRAM (proof-skeleton.mjs) off the guide's own print for that function. Not trusted: Lean checks it.
  YOURS ARE THE HOLES MARKED 'HOLE' (each bears 'sorry'). ALL ELSE IS THE GUIDE's TEMPLATE (howto/template/XProofs.lean) at this function's number and types: leave it.
-/
import Derived.Test.YtkejjobljiibeaaC2
import Derived.Test.YtkejjobljiibeaaP4
import Derived.WalkKit
import Derived.ProofKit
import Derived.OpenShut
namespace Go.Proofs.Ytkejjobljiibeaa.realNext
open Dbl Rl Go.ChangeShapes Go.WideShapes Go.ChangeAt Go.RowKit
set_option linter.unusedVariables false      -- a walk need not use every 'w<i>' (that an integer argument fits its kind)

theorem own : ownKnob Try.prog.godebug = none := by kernel_rfl

theorem or_key (a k : Int) : (decide (a ≤ k) || decide (k + 1 ≤ a)) = true := by
  by_cases h : a ≤ k
  · simp [h]
  · simp [h]; omega
set_option maxHeartbeats 1000000 in
theorem w0_ (x y z : Nat) (k : Int) (na : x < full) (nz : z < full) (ny : y < full) (hk : Hid (((keyU x : Nat) : Int) = k)) (hky : Hid (((keyU y : Nat) : Int) = k + 1)) (hyy : Hid (ofU (k + 1).toNat = y)) (hy : Wd (k + 1)) (t0 : (k == 18446744073709551615) = false) (o0 : FloatKind.f64.format.order z x = some .lt) (w : World) :
    Calls Try.prog 5 #[.int .u64 x, .int .u64 z] w fun e w' => e = .returned (.bool true) ∧ Grown w w' := by
  have h12 := c12
  have h13 := c13
  have hp := hy.1
  have hp2 := hy.2
  go_enter Try.func5, Try.ntmps5
  go_wp2_with (first | (go_at_call 16; (with_reducible refine (key _ (by assumption) _).mono ?_); (try rw [hk.out]); (try rw [hky.out]); rintro e w' ⟨rfl, rfl⟩) | (go_at_call 18; (with_reducible refine (of_ _ hy _).mono ?_); rw [hyy.out]; rintro e w' ⟨rfl, rfl⟩) | (go_at_call 23; (with_reducible refine (known_ _).mono ?_); rintro e w' ⟨rfl, rfl⟩))
  all_goals first | (exfalso; omega) | (go_ret; exact ⟨by first | rfl | exact ret_b (or_key _ _), by repeat (first | exact Grown.refl _ | apply Grown.drew | apply Grown.alloc)⟩)
set_option maxHeartbeats 1000000 in
theorem w1_ (x y z : Nat) (k : Int) (na : x < full) (nz : z < full) (ny : y < full) (hk : Hid (((keyU x : Nat) : Int) = k)) (hky : Hid (((keyU y : Nat) : Int) = k + 1)) (hyy : Hid (ofU (k + 1).toNat = y)) (hy : Wd (k + 1)) (t0 : (k == 18446744073709551615) = false) (o0 : FloatKind.f64.format.order z x = some .eq) (w : World) :
    Calls Try.prog 5 #[.int .u64 x, .int .u64 z] w fun e w' => e = .returned (.bool true) ∧ Grown w w' := by
  have h12 := c12
  have h13 := c13
  have hp := hy.1
  have hp2 := hy.2
  go_enter Try.func5, Try.ntmps5
  go_wp2_with (first | (go_at_call 16; (with_reducible refine (key _ (by assumption) _).mono ?_); (try rw [hk.out]); (try rw [hky.out]); rintro e w' ⟨rfl, rfl⟩) | (go_at_call 18; (with_reducible refine (of_ _ hy _).mono ?_); rw [hyy.out]; rintro e w' ⟨rfl, rfl⟩) | (go_at_call 23; (with_reducible refine (known_ _).mono ?_); rintro e w' ⟨rfl, rfl⟩))
  all_goals first | (exfalso; omega) | (go_ret; exact ⟨by first | rfl | exact ret_b (or_key _ _), by repeat (first | exact Grown.refl _ | apply Grown.drew | apply Grown.alloc)⟩)
set_option maxHeartbeats 1000000 in
theorem w2_ (x y z : Nat) (k : Int) (na : x < full) (nz : z < full) (ny : y < full) (hk : Hid (((keyU x : Nat) : Int) = k)) (hky : Hid (((keyU y : Nat) : Int) = k + 1)) (hyy : Hid (ofU (k + 1).toNat = y)) (hy : Wd (k + 1)) (t0 : (k == 18446744073709551615) = false) (o0 : FloatKind.f64.format.order z x = some .gt) (o1 : FloatKind.f64.format.order z y = some .gt) (w : World) :
    Calls Try.prog 5 #[.int .u64 x, .int .u64 z] w fun e w' => e = .returned (.bool true) ∧ Grown w w' := by
  have h12 := c12
  have h13 := c13
  have hp := hy.1
  have hp2 := hy.2
  go_enter Try.func5, Try.ntmps5
  go_wp2_with (first | (go_at_call 16; (with_reducible refine (key _ (by assumption) _).mono ?_); (try rw [hk.out]); (try rw [hky.out]); rintro e w' ⟨rfl, rfl⟩) | (go_at_call 18; (with_reducible refine (of_ _ hy _).mono ?_); rw [hyy.out]; rintro e w' ⟨rfl, rfl⟩) | (go_at_call 23; (with_reducible refine (known_ _).mono ?_); rintro e w' ⟨rfl, rfl⟩))
  all_goals first | (exfalso; omega) | (go_ret; exact ⟨by first | rfl | exact ret_b (or_key _ _), by repeat (first | exact Grown.refl _ | apply Grown.drew | apply Grown.alloc)⟩)
set_option maxHeartbeats 1000000 in
theorem w3_ (x y z : Nat) (k : Int) (na : x < full) (nz : z < full) (ny : y < full) (hk : Hid (((keyU x : Nat) : Int) = k)) (hky : Hid (((keyU y : Nat) : Int) = k + 1)) (hyy : Hid (ofU (k + 1).toNat = y)) (hy : Wd (k + 1)) (t0 : (k == 18446744073709551615) = false) (o0 : FloatKind.f64.format.order z x = some .gt) (o1 : FloatKind.f64.format.order z y = some .eq) (w : World) :
    Calls Try.prog 5 #[.int .u64 x, .int .u64 z] w fun e w' => e = .returned (.bool true) ∧ Grown w w' := by
  have h12 := c12
  have h13 := c13
  have hp := hy.1
  have hp2 := hy.2
  go_enter Try.func5, Try.ntmps5
  go_wp2_with (first | (go_at_call 16; (with_reducible refine (key _ (by assumption) _).mono ?_); (try rw [hk.out]); (try rw [hky.out]); rintro e w' ⟨rfl, rfl⟩) | (go_at_call 18; (with_reducible refine (of_ _ hy _).mono ?_); rw [hyy.out]; rintro e w' ⟨rfl, rfl⟩) | (go_at_call 23; (with_reducible refine (known_ _).mono ?_); rintro e w' ⟨rfl, rfl⟩))
  all_goals first | (exfalso; omega) | (go_ret; exact ⟨by first | rfl | exact ret_b (or_key _ _), by repeat (first | exact Grown.refl _ | apply Grown.drew | apply Grown.alloc)⟩)
set_option maxHeartbeats 1000000 in
theorem w4_ (x y z : Nat) (k : Int) (na : x < full) (nz : z < full) (ny : y < full) (hk : Hid (((keyU x : Nat) : Int) = k)) (hky : Hid (((keyU y : Nat) : Int) = k + 1)) (hyy : Hid (ofU (k + 1).toNat = y)) (hy : Wd (k + 1)) (t0 : (k == 18446744073709551615) = false) (o0 : FloatKind.f64.format.order z x = some .gt) (o1 : FloatKind.f64.format.order z z = some .eq) (o2 : FloatKind.f64.format.order x x = some .eq) (o3 : FloatKind.f64.format.order z y = none) (o4 : FloatKind.f64.format.order y y = none) (w : World) :
    Calls Try.prog 5 #[.int .u64 x, .int .u64 z] w fun e w' => e = .returned (.bool true) ∧ Grown w w' := by
  have h12 := c12
  have h13 := c13
  have hp := hy.1
  have hp2 := hy.2
  go_enter Try.func5, Try.ntmps5
  go_wp2_with (first | (go_at_call 16; (with_reducible refine (key _ (by assumption) _).mono ?_); (try rw [hk.out]); (try rw [hky.out]); rintro e w' ⟨rfl, rfl⟩) | (go_at_call 18; (with_reducible refine (of_ _ hy _).mono ?_); rw [hyy.out]; rintro e w' ⟨rfl, rfl⟩) | (go_at_call 23; (with_reducible refine (known_ _).mono ?_); rintro e w' ⟨rfl, rfl⟩))
  all_goals first | (exfalso; omega) | (go_ret; exact ⟨by first | rfl | exact ret_b (or_key _ _), by repeat (first | exact Grown.refl _ | apply Grown.drew | apply Grown.alloc)⟩)
set_option maxHeartbeats 1000000 in
theorem w5_ (x y z : Nat) (k : Int) (na : x < full) (nz : z < full) (ny : y < full) (hk : Hid (((keyU x : Nat) : Int) = k)) (hky : Hid (((keyU y : Nat) : Int) = k + 1)) (hyy : Hid (ofU (k + 1).toNat = y)) (hy : Wd (k + 1)) (t0 : (k == 18446744073709551615) = false) (o0 : FloatKind.f64.format.order z x = none) (o1 : FloatKind.f64.format.order z y = none) (o2 : FloatKind.f64.format.order z z = none) (w : World) :
    Calls Try.prog 5 #[.int .u64 x, .int .u64 z] w fun e w' => e = .returned (.bool true) ∧ Grown w w' := by
  have h12 := c12
  have h13 := c13
  have hp := hy.1
  have hp2 := hy.2
  go_enter Try.func5, Try.ntmps5
  go_wp2_with (first | (go_at_call 16; (with_reducible refine (key _ (by assumption) _).mono ?_); (try rw [hk.out]); (try rw [hky.out]); rintro e w' ⟨rfl, rfl⟩) | (go_at_call 18; (with_reducible refine (of_ _ hy _).mono ?_); rw [hyy.out]; rintro e w' ⟨rfl, rfl⟩) | (go_at_call 23; (with_reducible refine (known_ _).mono ?_); rintro e w' ⟨rfl, rfl⟩))
  all_goals first | (exfalso; omega) | (go_ret; exact ⟨by first | rfl | exact ret_b (or_key _ _), by repeat (first | exact Grown.refl _ | apply Grown.drew | apply Grown.alloc)⟩)
set_option maxHeartbeats 1000000 in
theorem w6_ (x y z : Nat) (k : Int) (na : x < full) (nz : z < full) (ny : y < full) (hk : Hid (((keyU x : Nat) : Int) = k)) (hky : Hid (((keyU y : Nat) : Int) = k + 1)) (hyy : Hid (ofU (k + 1).toNat = y)) (hy : Wd (k + 1)) (t0 : (k == 18446744073709551615) = false) (o0 : FloatKind.f64.format.order z x = none) (o1 : FloatKind.f64.format.order z y = some .lt) (o2 : FloatKind.f64.format.order z z = some .eq) (o3 : FloatKind.f64.format.order x x = none) (w : World) :
    Calls Try.prog 5 #[.int .u64 x, .int .u64 z] w fun e w' => e = .returned (.bool true) ∧ Grown w w' := by
  have h12 := c12
  have h13 := c13
  have hp := hy.1
  have hp2 := hy.2
  go_enter Try.func5, Try.ntmps5
  go_wp2_with (first | (go_at_call 16; (with_reducible refine (key _ (by assumption) _).mono ?_); (try rw [hk.out]); (try rw [hky.out]); rintro e w' ⟨rfl, rfl⟩) | (go_at_call 18; (with_reducible refine (of_ _ hy _).mono ?_); rw [hyy.out]; rintro e w' ⟨rfl, rfl⟩) | (go_at_call 23; (with_reducible refine (known_ _).mono ?_); rintro e w' ⟨rfl, rfl⟩))
  all_goals first | (exfalso; omega) | (go_ret; exact ⟨by first | rfl | exact ret_b (or_key _ _), by repeat (first | exact Grown.refl _ | apply Grown.drew | apply Grown.alloc)⟩)
set_option maxHeartbeats 1000000 in
theorem w7_ (x y z : Nat) (k : Int) (na : x < full) (nz : z < full) (ny : y < full) (hk : Hid (((keyU x : Nat) : Int) = k)) (hky : Hid (((keyU y : Nat) : Int) = k + 1)) (hyy : Hid (ofU (k + 1).toNat = y)) (hy : Wd (k + 1)) (t0 : (k == 18446744073709551615) = false) (o0 : FloatKind.f64.format.order z x = none) (o1 : FloatKind.f64.format.order z y = some .eq) (o2 : FloatKind.f64.format.order z z = some .eq) (o3 : FloatKind.f64.format.order x x = none) (w : World) :
    Calls Try.prog 5 #[.int .u64 x, .int .u64 z] w fun e w' => e = .returned (.bool true) ∧ Grown w w' := by
  have h12 := c12
  have h13 := c13
  have hp := hy.1
  have hp2 := hy.2
  go_enter Try.func5, Try.ntmps5
  go_wp2_with (first | (go_at_call 16; (with_reducible refine (key _ (by assumption) _).mono ?_); (try rw [hk.out]); (try rw [hky.out]); rintro e w' ⟨rfl, rfl⟩) | (go_at_call 18; (with_reducible refine (of_ _ hy _).mono ?_); rw [hyy.out]; rintro e w' ⟨rfl, rfl⟩) | (go_at_call 23; (with_reducible refine (known_ _).mono ?_); rintro e w' ⟨rfl, rfl⟩))
  all_goals first | (exfalso; omega) | (go_ret; exact ⟨by first | rfl | exact ret_b (or_key _ _), by repeat (first | exact Grown.refl _ | apply Grown.drew | apply Grown.alloc)⟩)
set_option maxHeartbeats 1000000 in
theorem w8_ (x y z : Nat) (k : Int) (na : x < full) (nz : z < full) (ny : y < full) (hk : Hid (((keyU x : Nat) : Int) = k)) (hky : Hid (((keyU y : Nat) : Int) = k + 1)) (hyy : Hid (ofU (k + 1).toNat = y)) (hy : Wd (k + 1)) (t0 : (k == 18446744073709551615) = false) (o0 : FloatKind.f64.format.order z x = none) (o1 : FloatKind.f64.format.order z y = some .gt) (o2 : FloatKind.f64.format.order z z = some .eq) (o3 : FloatKind.f64.format.order x x = none) (w : World) :
    Calls Try.prog 5 #[.int .u64 x, .int .u64 z] w fun e w' => e = .returned (.bool true) ∧ Grown w w' := by
  have h12 := c12
  have h13 := c13
  have hp := hy.1
  have hp2 := hy.2
  go_enter Try.func5, Try.ntmps5
  go_wp2_with (first | (go_at_call 16; (with_reducible refine (key _ (by assumption) _).mono ?_); (try rw [hk.out]); (try rw [hky.out]); rintro e w' ⟨rfl, rfl⟩) | (go_at_call 18; (with_reducible refine (of_ _ hy _).mono ?_); rw [hyy.out]; rintro e w' ⟨rfl, rfl⟩) | (go_at_call 23; (with_reducible refine (known_ _).mono ?_); rintro e w' ⟨rfl, rfl⟩))
  all_goals first | (exfalso; omega) | (go_ret; exact ⟨by first | rfl | exact ret_b (or_key _ _), by repeat (first | exact Grown.refl _ | apply Grown.drew | apply Grown.alloc)⟩)
set_option maxHeartbeats 1000000 in
theorem w9_ (x y z : Nat) (k : Int) (na : x < full) (nz : z < full) (ny : y < full) (hk : Hid (((keyU x : Nat) : Int) = k)) (hky : Hid (((keyU y : Nat) : Int) = k + 1)) (hyy : Hid (ofU (k + 1).toNat = y)) (hy : Wd (k + 1)) (t0 : (k == 18446744073709551615) = false) (o0 : FloatKind.f64.format.order z x = none) (o1 : FloatKind.f64.format.order z y = none) (o2 : FloatKind.f64.format.order z z = some .eq) (o3 : FloatKind.f64.format.order x x = none) (w : World) :
    Calls Try.prog 5 #[.int .u64 x, .int .u64 z] w fun e w' => e = .returned (.bool true) ∧ Grown w w' := by
  have h12 := c12
  have h13 := c13
  have hp := hy.1
  have hp2 := hy.2
  go_enter Try.func5, Try.ntmps5
  go_wp2_with (first | (go_at_call 16; (with_reducible refine (key _ (by assumption) _).mono ?_); (try rw [hk.out]); (try rw [hky.out]); rintro e w' ⟨rfl, rfl⟩) | (go_at_call 18; (with_reducible refine (of_ _ hy _).mono ?_); rw [hyy.out]; rintro e w' ⟨rfl, rfl⟩) | (go_at_call 23; (with_reducible refine (known_ _).mono ?_); rintro e w' ⟨rfl, rfl⟩))
  all_goals first | (exfalso; omega) | (go_ret; exact ⟨by first | rfl | exact ret_b (or_key _ _), by repeat (first | exact Grown.refl _ | apply Grown.drew | apply Grown.alloc)⟩)
set_option maxHeartbeats 400000 in
theorem last (x z : Nat) (na : x < full) (nz : z < full) (t0 : (((keyU x : Nat) : Int) == 18446744073709551615) = true) (w : World) :
    Calls Try.prog 5 #[.int .u64 x, .int .u64 z] w fun e w' => e = .returned (.bool true) ∧ Grown w w' := by
  have h12 := c12
  have h13 := c13
  obtain ⟨k, hk⟩ : ∃ k : Int, ((keyU x : Nat) : Int) = k := ⟨_, rfl⟩
  rw [hk] at t0
  have HK := Lib.hid hk; clear hk
  go_enter Try.func5, Try.ntmps5
  go_wp2_with (first | (go_at_call 16; (with_reducible refine (key _ (by assumption) _).mono ?_); rw [HK.out]; rintro e w' ⟨rfl, rfl⟩) | (go_at_call 23; (with_reducible refine (known_ _).mono ?_); rintro e w' ⟨rfl, rfl⟩))
  go_ret
  exact ⟨rfl, by repeat (first | exact Grown.refl _ | apply Grown.drew | apply Grown.alloc)⟩
/-! ### STEP 1: THE WALK: the Go text returns true. 'Grown w w'': the world has at most new blocks (Derived/RowKit3.lean). Part the cases AHEAD of 'go_enter' where a test parts the walk; take each callee by a contract of your own. -/
theorem walk (a0 : Int) (a1 : Int) (w0 : (Lit.int .u64 a0).wf = true) (w1 : (Lit.int .u64 a1).wf = true) (w : World) :
    Calls Try.prog 5 #[.int .u64 a0, .int .u64 a1] w fun e w' => e = .returned (.bool true) ∧ Grown w w' := by
  have ha : Wd a0 := wd_of_wf w0
  have hb : Wd a1 := wd_of_wf w1
  have na := ha.nat
  have nz := hb.nat
  obtain ⟨x, rfl⟩ := Int.eq_ofNat_of_zero_le ha.1
  obtain ⟨z, rfl⟩ := Int.eq_ofNat_of_zero_le hb.1
  simp only [Int.toNat_natCast] at na nz
  by_cases ht : ((keyU x : Nat) : Int) = 18446744073709551615
  · exact last x z na nz (beq_iff_eq.2 ht) w
  have kl := keyU_lt na
  unfold full at kl
  have hy : Wd (((keyU x : Nat) : Int) + 1) := ⟨by omega, by omega⟩
  have ny := ofU_lt hy.nat
  have hky : ((keyU (ofU (((keyU x : Nat) : Int) + 1).toNat) : Nat) : Int) = ((keyU x : Nat) : Int) + 1 := by rw [key_of hy.nat, hy.cast]
  obtain ⟨y, hyy⟩ : ∃ y, ofU (((keyU x : Nat) : Int) + 1).toNat = y := ⟨_, rfl⟩
  rw [hyy] at ny hky
  have t0 : (((keyU x : Nat) : Int) == 18446744073709551615) = false := beq_eq_false_iff_ne.2 ht
  have A1 := Lib.hid (rfl : ((keyU x : Nat) : Int) = ((keyU x : Nat) : Int))
  have A2 := Lib.hid hky
  have A3 := Lib.hid hyy
  have hbt := fun h1 h2 => between na ny nz (by omega) (z := z) h1 h2
  rcases ord_four z x with h1 | h1 | h1 | h1
  · exact w0_ x y z _ na nz ny A1 A2 A3 hy t0 h1 w
  · exact w1_ x y z _ na nz ny A1 A2 A3 hy t0 h1 w
  · obtain ⟨hz, hx, _⟩ := gt_iff.1 h1
    rcases ord_four z y with h2 | h2 | h2 | h2
    · exact (hbt h1 h2).elim
    · exact w3_ x y z _ na nz ny A1 A2 A3 hy t0 h1 h2 w
    · exact w2_ x y z _ na nz ny A1 A2 A3 hy t0 h1 h2 w
    · have hn : inf < rung y := by rcases none_iff.1 h2 with h | h <;> omega
      exact w4_ x y z _ na nz ny A1 A2 A3 hy t0 h1 (self_eq hz) (self_eq hx) h2 (self_none hn) w
  · by_cases hz : inf < rung z
    · exact w5_ x y z _ na nz ny A1 A2 A3 hy t0 h1 (none_iff.2 (.inl hz)) (self_none hz) w
    · have hn : inf < rung x := by rcases none_iff.1 h1 with h | h <;> omega
      rcases ord_four z y with h2 | h2 | h2 | h2
      · exact w6_ x y z _ na nz ny A1 A2 A3 hy t0 h1 h2 (self_eq (by omega)) (self_none hn) w
      · exact w7_ x y z _ na nz ny A1 A2 A3 hy t0 h1 h2 (self_eq (by omega)) (self_none hn) w
      · exact w8_ x y z _ na nz ny A1 A2 A3 hy t0 h1 h2 (self_eq (by omega)) (self_none hn) w
      · exact w9_ x y z _ na nz ny A1 A2 A3 hy t0 h1 h2 (self_eq (by omega)) (self_none hn) w

/-! ### THE ROW's STEP: WRITTEN OUT: LEAVE IT -/
set_option maxRecDepth 100000 in
theorem lifted (os : Os) (started : os.Started) (H : Type) (enc : TypeId × Value → H) :
    ReturnsInHanded {} Try.checked os 5 .any (Rows.realNextSpec.pre6 enc Try.prog Try.f5 Rows.realNextRow.domain false) (Rows.realNextSpec.post enc Try.prog Try.f5 false true false false) := by
  refine returnsInHanded_of_change (C := Try.checked) own started (by kernel_rfl) Try.func5
    (ChangeSpec.witness6 (enc := enc) (C := Try.checked) false ⟨#[], #[.int .u64 0, .int .u64 0], []⟩ 8 (by kernel_rfl) (by kernel_rfl) (by kernel_rfl) (by kernel_rfl)) ?_
  intro W base args ds gs before hval0 hW hcnd _
  have hval : ∀ (j : Nat) t v, Try.f5.params[j]? = some t → args[j]? = some v → Value.okWide Try.prog W .any base t v := hval0
  have hW' := hW
  obtain ⟨p, q, hA0, hV, rfl, hfz, hnd⟩ := hW
  have hA : DataW.TrodAll enc Try.prog W 0 (fun _ => true) true Try.f5.params.toList args.toList ds p := hA0
  rw [Try.params5] at hA hval
  obtain ⟨v0, vs0, d0, ds0, p0, q0, hargs, rfl, rfl, h0, r0⟩ := trodAll_cons hA
  obtain ⟨v1, vs1, d1, ds1, p1, q1, rfl, rfl, rfl, h1, r1⟩ := trodAll_cons r0
  obtain ⟨rfl, rfl, rfl⟩ := trodAll_nil r1
  obtain rfl : args = #[v0, v1] := by cases args; simp_all
  obtain ⟨rfl, rfl⟩ := trodVars_none hV
  obtain ⟨a0, rfl, rfl, rfl, w0⟩ := open_int Try.underlying22 (hval 0 22 v0 rfl rfl) h0
  obtain ⟨a1, rfl, rfl, rfl, w1⟩ := open_int Try.underlying22 (hval 1 22 v1 rfl rfl) h1
  clear hA0 hval0
  simp only [List.append_nil] at hW'
  refine (walk a0 a1 w0 w1 W).mono fun e W' ⟨he, hg⟩ => ?_
  subst he
  exact ⟨_, rfl, post_of_same (pa := []) (pv := []) hW' (fun _ _ _ => (trodAll_cons_mk (shut_bool Try.underlying4 _) trodAll_mk0)) (fun sp _ => (trodAll_cons_mk (shut_int Try.underlying22 w0) (trodAll_cons_mk (shut_int Try.underlying22 w1) trodAll_mk0))) (fun _ _ => rfl) rfl
    (hg.frame _) hg.2.1 (ok_one (by kernel_rfl) rfl (okWide_bool_mk Try.underlying4 _))⟩

theorem over : Rows.realNextRow.holds Try.pinned (OpenSpec.ofChange Rows.realNextSpec) :=
  OpenClaim.holds_of_wide 5 Try.f5 rfl rfl rfl rfl rfl rfl rfl ⟨rfl, rfl, rfl, rfl, rfl⟩ rfl rfl rfl rfl rfl (by kernel_rfl) Try.func5 (by kernel_rfl)
    (of_decide_eq_true (by kernel_rfl)) (by unfold Func.isWrapper; first | (rw [if_pos (by decide +kernel)]; kernel_rfl) | (rw [if_neg (by decide +kernel)]; exact ⟨rfl, rfl⟩))
    (fun os started H enc _ => lifted os started H enc)

/-- ████ THE STATEMENT ████ -/
theorem proved : Rows.RealNextSaid :=
  over
#print axioms proved
end Go.Proofs.Ytkejjobljiibeaa.realNext
