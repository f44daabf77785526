/- Contract of icehouseref01.Share: the same as real.Share's. Conditions: words of 64 bits. -/
import Derived.Test.YtlifioeeooclfaaC6
namespace Go.Proofs.Ytlifioeeooclfaa.Rl
open Go.ChangeShapes Go.WideShapes Go.ChangeAt Go.RowKit Dbl
set_option linter.unusedVariables false
set_option linter.unusedSimpArgs false
theorem kind_n {a : Nat} (h : a < full) {v : Int} (hv : kindU a = v) (w : World) : Calls Try.prog 25 #[.int .u64 (a : Int)] w fun e w' => e = .returned (.int .i64 v) ∧ w = w' := by
  have := kind (a : Int) (wd_nat h) w
  rw [Int.toNat_natCast, hv] at this
  exact this
theorem kind_pos (a : Nat) : 0 ≤ kindU a ∧ kindU a ≤ 3 := by rcases kind_cases a with h | h | h | h <;> rw [h] <;> decide
set_option maxHeartbeats 1000000 in
theorem rshare (a b : Nat) (ha : a < full) (hb : b < full) (w : World) : Calls Try.prog 42 #[.float .f64 a, .float .f64 b] w (Tup (shareR a b) w) := by
  have h13 := c13
  obtain ⟨x, hx⟩ : ∃ x, kindU a = x := ⟨_, rfl⟩
  obtain ⟨y, hy⟩ : ∃ y, kindU b = y := ⟨_, rfl⟩
  have xb := kind_pos a
  have yb := kind_pos b
  have KA := Lib.hid (fun w => kind_n ha hx w)
  have KB := Lib.hid (fun w => kind_n hb hy w)
  rw [hx] at xb
  rw [hy] at yb
  by_cases h1 : x = 3
  · subst h1
    rw [shareR_none (.inl (kind_nan.1 hx))]
    clear hx hy xb yb
    go_enter Try.func42, Try.ntmps42
    go_wp2_with (first | (go_at_call 25; (with_reducible refine (KA.out _).mono ?_); rintro e w' ⟨rfl, rfl⟩) | (go_at_call 25; (with_reducible refine (KB.out _).mono ?_); rintro e w' ⟨rfl, rfl⟩))
    go_ret2
    exact ⟨rfl, rfl⟩
  have t1 : (x == 3) = false := beq_eq_false_iff_ne.2 h1
  by_cases h2 : y = 3
  · subst h2
    rw [shareR_none (.inr (.inl (kind_nan.1 hy)))]
    clear hx hy xb yb h1
    go_enter Try.func42, Try.ntmps42
    go_wp2_with (first | (go_at_call 25; (with_reducible refine (KA.out _).mono ?_); rintro e w' ⟨rfl, rfl⟩) | (go_at_call 25; (with_reducible refine (KB.out _).mono ?_); rintro e w' ⟨rfl, rfl⟩))
    go_ret2
    exact ⟨rfl, rfl⟩
  have t2 : (y == 3) = false := beq_eq_false_iff_ne.2 h2
  by_cases h3 : y = 0
  · subst h3
    rw [shareR_none (.inr (.inr (.inl (kind_zero.1 hy))))]
    clear hx hy xb yb h1 h2
    go_enter Try.func42, Try.ntmps42
    go_wp2_with (first | (go_at_call 25; (with_reducible refine (KA.out _).mono ?_); rintro e w' ⟨rfl, rfl⟩) | (go_at_call 25; (with_reducible refine (KB.out _).mono ?_); rintro e w' ⟨rfl, rfl⟩))
    go_ret2
    exact ⟨rfl, rfl⟩
  have t3 : (y == 0) = false := beq_eq_false_iff_ne.2 h3
  by_cases h4 : x = 2 ∧ y = 2
  · obtain ⟨rfl, rfl⟩ := h4
    rw [shareR_none (.inr (.inr (.inr ⟨kind_inf.1 hx, kind_inf.1 hy⟩)))]
    clear hx hy xb yb h1 h2 h3
    go_enter Try.func42, Try.ntmps42
    go_wp2_with (first | (go_at_call 25; (with_reducible refine (KA.out _).mono ?_); rintro e w' ⟨rfl, rfl⟩) | (go_at_call 25; (with_reducible refine (KB.out _).mono ?_); rintro e w' ⟨rfl, rfl⟩))
    go_ret2
    exact ⟨rfl, rfl⟩
  have hne : ¬ (inf < rung a ∨ inf < rung b ∨ rung b = 0 ∨ (rung a = inf ∧ rung b = inf)) := by
    rintro (h | h | h | h)
    · exact h1 (hx ▸ kind_nan.2 h)
    · exact h2 (hy ▸ kind_nan.2 h)
    · exact h3 (hy ▸ kind_zero.2 h)
    · exact h4 ⟨hx ▸ kind_inf.2 h.1, hy ▸ kind_inf.2 h.2⟩
  obtain ⟨r, hr, hr1, hr2⟩ := div_some (a := a) (b := b) (by omega) (by omega) (fun h => hne (.inr (.inr (.inl h)))) (fun h => hne (.inr (.inr (.inr h))))
  have hq := run_quo hr
  obtain ⟨z, hz⟩ : ∃ z, kindU r = z := ⟨_, rfl⟩
  have KR := Lib.hid (fun w => kind_n hr2 hz w)
  by_cases hz0 : z = 0
  · subst hz0
    rw [shareR_zero hne hr (kind_zero.1 hz)]
    clear hne hr hz
    by_cases h5 : x = 2
    · subst h5
      have t5 : (y == 2) = false := beq_eq_false_iff_ne.2 (fun h => h4 ⟨rfl, h⟩)
      clear hx hy xb yb h1 h2 h3 h4
      go_enter Try.func42, Try.ntmps42
      go_wp2_with (first | (go_at_call 25; (with_reducible refine (KA.out _).mono ?_); rintro e w' ⟨rfl, rfl⟩) | (go_at_call 25; (with_reducible refine (KB.out _).mono ?_); rintro e w' ⟨rfl, rfl⟩) | (go_at_call 25; (with_reducible refine (KR.out _).mono ?_); rintro e w' ⟨rfl, rfl⟩))
      go_ret2
      exact ⟨rfl, rfl⟩
    · have t5 : (x == 2) = false := beq_eq_false_iff_ne.2 h5
      clear hx hy xb yb h1 h2 h3 h4 h5
      go_enter Try.func42, Try.ntmps42
      go_wp2_with (first | (go_at_call 25; (with_reducible refine (KA.out _).mono ?_); rintro e w' ⟨rfl, rfl⟩) | (go_at_call 25; (with_reducible refine (KB.out _).mono ?_); rintro e w' ⟨rfl, rfl⟩) | (go_at_call 25; (with_reducible refine (KR.out _).mono ?_); rintro e w' ⟨rfl, rfl⟩))
      go_ret2
      exact ⟨rfl, rfl⟩
  · have t6 : (z == 0) = false := beq_eq_false_iff_ne.2 hz0
    rw [shareR_some hne hr (fun h => hz0 (hz ▸ kind_zero.2 h))]
    clear hne hr hz hz0
    by_cases h5 : x = 2
    · subst h5
      have t5 : (y == 2) = false := beq_eq_false_iff_ne.2 (fun h => h4 ⟨rfl, h⟩)
      clear hx hy xb yb h1 h2 h3 h4
      go_enter Try.func42, Try.ntmps42
      go_wp2_with (first | (go_at_call 25; (with_reducible refine (KA.out _).mono ?_); rintro e w' ⟨rfl, rfl⟩) | (go_at_call 25; (with_reducible refine (KB.out _).mono ?_); rintro e w' ⟨rfl, rfl⟩) | (go_at_call 25; (with_reducible refine (KR.out _).mono ?_); rintro e w' ⟨rfl, rfl⟩))
      go_ret2
      exact ⟨rfl, rfl⟩
    · have t5 : (x == 2) = false := beq_eq_false_iff_ne.2 h5
      clear hx hy xb yb h1 h2 h3 h4 h5
      go_enter Try.func42, Try.ntmps42
      go_wp2_with (first | (go_at_call 25; (with_reducible refine (KA.out _).mono ?_); rintro e w' ⟨rfl, rfl⟩) | (go_at_call 25; (with_reducible refine (KB.out _).mono ?_); rintro e w' ⟨rfl, rfl⟩) | (go_at_call 25; (with_reducible refine (KR.out _).mono ?_); rintro e w' ⟨rfl, rfl⟩))
      go_ret2
      exact ⟨rfl, rfl⟩
end Go.Proofs.Ytlifioeeooclfaa.Rl
