/- Contracts of math.IsInf, real.Share and icehouseref01.Share. Conditions: words of 64 bits. -/
import Derived.Test.YtlifioeeooclfaaC2
import Derived.Test.YtlifioeeooclfaaP6
namespace Go.Proofs.Ytlifioeeooclfaa.Rl
open Go.ChangeShapes Go.WideShapes Go.ChangeAt Go.RowKit Dbl
set_option linter.unusedVariables false
set_option linter.unusedSimpArgs false
theorem abs_bits {a : Nat} (h : a < full) : (bits .andNot .u64 (a : Int) 9223372036854775808).toNat = rung a := by
  rw [andNot_top h]; rfl
/-- math.IsInf(x, 0) -/
theorem isinf0 (a : Nat) (h : a < full) (w : World) : Calls Try.prog 39 #[.float .f64 a, .int .i64 0] w fun e w' => e = .returned (.bool (decide (rung a = inf))) ∧ w = w' := by
  have h12 := c12
  have h13 := c13
  have hb := abs_bits h
  have hg := gt_max (rung a)
  rw [rung_rung, neg_rung] at hg
  simp only [true_and] at hg
  clear h
  go_enter Try.func39, Try.ntmps39
  go_wp2_with go_in
  go_ret
  exact ⟨rfl, rfl⟩
def pinf (a : Nat) : Bool := !neg a && decide (rung a = inf)
def ninf (a : Nat) : Bool := neg a && decide (rung a = inf)
theorem isinf1 (a : Nat) (w : World) : Calls Try.prog 39 #[.float .f64 a, .int .i64 1] w fun e w' => e = .returned (.bool (pinf a)) ∧ w = w' := by
  have hg := gt_max a
  unfold pinf
  go_enter Try.func39, Try.ntmps39
  go_wp2_with go_in
  go_ret
  exact ⟨rfl, rfl⟩
theorem flip {a : Nat} (h : a < full) : Op.negFloat .f64 a = if top ≤ a then a - top else a + top := by
  show a ^^^ 2 ^ 63 = _
  have h1 : a ^^^ 2 ^ 63 = (BitVec.ofNat 64 a ^^^ BitVec.ofNat 64 (2 ^ 63)).toNat := by
    rw [BitVec.toNat_xor, BitVec.toNat_ofNat, BitVec.toNat_ofNat, Nat.mod_eq_of_lt (show a < 2 ^ 64 from h)]
  have e : (2 : Nat) ^ 63 = top := rfl
  by_cases ht : top ≤ a
  · rw [if_pos ht]
    have hs := Nat.two_pow_add_eq_or_of_lt (i := 63) (show a - top < 2 ^ 63 by unfold full top at *; omega) 1
    rw [Nat.mul_one, e, show top + (a - top) = a from by omega] at hs
    rw [e]
    conv => lhs; rw [hs]
    apply Nat.eq_of_testBit_eq
    intro i
    rw [Nat.testBit_xor, Nat.testBit_or, ← e, Nat.testBit_two_pow]
    by_cases hi : 63 = i
    · subst hi
      have : (a - 2 ^ 63).testBit 63 = false := Nat.testBit_lt_two_pow (by unfold full top at *; omega)
      simp [this]
    · simp [hi]
  · rw [if_neg ht]
    have hs := Nat.two_pow_add_eq_or_of_lt (i := 63) (show a < 2 ^ 63 by unfold full top at *; omega) 1
    rw [Nat.mul_one, e] at hs
    rw [e, Nat.add_comm a top, hs]
    apply Nat.eq_of_testBit_eq
    intro i
    rw [Nat.testBit_xor, Nat.testBit_or, ← e, Nat.testBit_two_pow]
    by_cases hi : 63 = i
    · subst hi
      have : a.testBit 63 = false := Nat.testBit_lt_two_pow (by unfold full top at *; omega)
      simp [this]
    · simp [hi]
theorem flip_rung {a : Nat} (h : a < full) : rung (Op.negFloat .f64 a) = rung a ∧ neg (Op.negFloat .f64 a) = !neg a := by
  rw [flip h]
  unfold full at h
  split
  · rename_i ht
    rw [neg_lt (a := a) h, neg_lt (by unfold full; omega), decide_eq_true ht]
    exact ⟨by unfold rung top at *; omega, by rw [decide_eq_false (by unfold top at *; omega)]; rfl⟩
  · rename_i ht
    rw [neg_lt (a := a) h, neg_lt (by unfold full top at *; omega), decide_eq_false ht]
    exact ⟨by unfold rung top at *; omega, by rw [decide_eq_true (by omega)]; rfl⟩
theorem isinfm (a : Nat) (h : a < full) (w : World) : Calls Try.prog 39 #[.float .f64 a, .int .i64 (-1)] w fun e w' => e = .returned (.bool (ninf a)) ∧ w = w' := by
  have hg := gt_max (Op.negFloat .f64 a)
  rw [(flip_rung h).1, (flip_rung h).2] at hg
  simp only [Bool.not_eq_false'] at hg
  unfold ninf
  have hn : ∀ w : World, (Op.unary .neg (.float .f64 a)).run Try.prog w = .ok (.float .f64 (Op.negFloat .f64 a)) w := fun _ => rfl
  generalize Op.negFloat .f64 a = b at *
  clear h
  go_enter Try.func39, Try.ntmps39
  go_wp2_with go_in
  go_ret
  exact ⟨ret_b (by simp), rfl⟩
/-- one by another one -/
def shareR (a b : Nat) : Nat × Int := if inf < rung a ∨ inf < rung b ∨ rung b = 0 ∨ (rung a = inf ∧ rung b = inf) then (0, 10) else if rung ((Ieee.double.div a b).getD 0) = 0 then (0, 0) else ((Ieee.double.div a b).getD 0, 0)
theorem shareR_none {a b : Nat} (h : inf < rung a ∨ inf < rung b ∨ rung b = 0 ∨ (rung a = inf ∧ rung b = inf)) : shareR a b = (0, 10) := if_pos h
theorem shareR_zero {a b r : Nat} (h : ¬ (inf < rung a ∨ inf < rung b ∨ rung b = 0 ∨ (rung a = inf ∧ rung b = inf))) (hr : Ieee.double.div a b = some r) (h0 : rung r = 0) : shareR a b = (0, 0) := by
  unfold shareR; rw [if_neg h, hr, Option.getD_some, if_pos h0]
theorem shareR_some {a b r : Nat} (h : ¬ (inf < rung a ∨ inf < rung b ∨ rung b = 0 ∨ (rung a = inf ∧ rung b = inf))) (hr : Ieee.double.div a b = some r) (h0 : rung r ≠ 0) : shareR a b = (r, 0) := by
  unfold shareR; rw [if_neg h, hr, Option.getD_some, if_neg h0]
theorem run_quo {a b r : Nat} (h : Ieee.double.div a b = some r) : ∀ w : World, (binOp .quo 30 (.float .f64 a) (.float .f64 b)).run Try.prog w = .ok (.float .f64 r) w := fun w => run_float_arith w .quo _ .f64 a b r h
def Tup (p : Nat × Int) (w : World) (e : Ending) (w' : World) : Prop := e = .returned (.tuple #[.float .f64 p.1, .int .i64 p.2]) ∧ w = w'
set_option maxHeartbeats 1000000 in
theorem share (a b : Nat) (ha : a < full) (hb : b < full) (w : World) : Calls Try.prog 34 #[.float .f64 a, .float .f64 b] w (Tup (shareR a b) w) := by
  by_cases na : inf < rung a
  · rw [shareR_none (.inl na)]
    have h1 := self_nan na
    clear na
    go_enter Try.func34, Try.ntmps34
    go_wp2_with fail
    go_ret2
    exact ⟨rfl, rfl⟩
  have h1 := self_num (a := a) (by omega)
  by_cases nb : inf < rung b
  · rw [shareR_none (.inr (.inl nb))]
    have h2 := self_nan nb
    clear nb na
    go_enter Try.func34, Try.ntmps34
    go_wp2_with fail
    go_ret2
    exact ⟨rfl, rfl⟩
  have h2 := self_num (a := b) (by omega)
  by_cases zb : rung b = 0
  · rw [shareR_none (.inr (.inr (.inl zb)))]
    have h3 := zero_eq zb
    clear nb na zb
    go_enter Try.func34, Try.ntmps34
    go_wp2_with fail
    go_ret2
    exact ⟨rfl, rfl⟩
  have h3 := zero_ne zb
  have hi1 := isinf0 a ha
  have hi2 := isinf0 b hb
  by_cases hi : rung a = inf ∧ rung b = inf
  · rw [shareR_none (.inr (.inr (.inr hi)))]
    rw [decide_eq_true hi.1] at hi1
    rw [decide_eq_true hi.2] at hi2
    have HI1 := Lib.hid hi1
    have HI2 := Lib.hid hi2
    clear hi na nb zb hi1 hi2
    go_enter Try.func34, Try.ntmps34
    go_wp2_with (first | (go_at_call 39; (with_reducible refine (HI1.out _).mono ?_); rintro e w' ⟨rfl, rfl⟩) | (go_at_call 39; (with_reducible refine (HI2.out _).mono ?_); rintro e w' ⟨rfl, rfl⟩))
    go_ret2
    exact ⟨rfl, rfl⟩
  · obtain ⟨r, hr, hr1, hr2⟩ := div_some (a := a) (b := b) (by omega) (by omega) zb hi
    have hq := run_quo hr
    have hne : ¬ (inf < rung a ∨ inf < rung b ∨ rung b = 0 ∨ (rung a = inf ∧ rung b = inf)) := by
      rintro (h | h | h | h)
      · exact na h
      · exact nb h
      · exact zb h
      · exact hi h
    have h4 : (decide (rung a = inf) && decide (rung b = inf)) = false := by
      rw [← Bool.decide_and]; exact decide_eq_false hi
    by_cases hz : rung r = 0
    · rw [shareR_zero hne hr hz]
      have h5 := zero_eq hz
      by_cases ia : rung a = inf
      · rw [decide_eq_true ia] at hi1
        rw [decide_eq_false (fun ib => hi ⟨ia, ib⟩)] at hi2
        have HI1 := Lib.hid hi1
        have HI2 := Lib.hid hi2
        clear hi na nb zb hi1 hi2 hne hr hz h4 ia
        go_enter Try.func34, Try.ntmps34
        go_wp2_with (first | (go_at_call 39; (with_reducible refine (HI1.out _).mono ?_); rintro e w' ⟨rfl, rfl⟩) | (go_at_call 39; (with_reducible refine (HI2.out _).mono ?_); rintro e w' ⟨rfl, rfl⟩))
        go_ret2
        exact ⟨rfl, rfl⟩
      · rw [decide_eq_false ia] at hi1
        have HI1 := Lib.hid hi1
        clear hi na nb zb hi1 hi2 hne hr hz h4 ia
        go_enter Try.func34, Try.ntmps34
        go_wp2_with (go_at_call 39; (with_reducible refine (HI1.out _).mono ?_); rintro e w' ⟨rfl, rfl⟩)
        go_ret2
        exact ⟨rfl, rfl⟩
    · rw [shareR_some hne hr hz]
      have h5 := zero_ne hz
      by_cases ia : rung a = inf
      · rw [decide_eq_true ia] at hi1
        rw [decide_eq_false (fun ib => hi ⟨ia, ib⟩)] at hi2
        have HI1 := Lib.hid hi1
        have HI2 := Lib.hid hi2
        clear hi na nb zb hi1 hi2 hne hr hz h4 ia
        go_enter Try.func34, Try.ntmps34
        go_wp2_with (first | (go_at_call 39; (with_reducible refine (HI1.out _).mono ?_); rintro e w' ⟨rfl, rfl⟩) | (go_at_call 39; (with_reducible refine (HI2.out _).mono ?_); rintro e w' ⟨rfl, rfl⟩))
        go_ret2
        exact ⟨rfl, rfl⟩
      · rw [decide_eq_false ia] at hi1
        have HI1 := Lib.hid hi1
        clear hi na nb zb hi1 hi2 hne hr hz h4 ia
        go_enter Try.func34, Try.ntmps34
        go_wp2_with (go_at_call 39; (with_reducible refine (HI1.out _).mono ?_); rintro e w' ⟨rfl, rfl⟩)
        go_ret2
        exact ⟨rfl, rfl⟩
end Go.Proofs.Ytlifioeeooclfaa.Rl
