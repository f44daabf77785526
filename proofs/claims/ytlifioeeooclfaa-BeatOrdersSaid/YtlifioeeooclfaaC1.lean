/- Contracts of the real layer's scalar functions (Key, Of, Canon, Same) and of the reference's (Key, Of, Kind, Canon). Conditions: words of 64 bits. -/
import Derived.Test.YtlifioeeooclfaaRows
import Derived.Test.YtlifioeeooclfaaP3
import Derived.WalkKit
import Derived.ProofKit
import Derived.OpenShut
import Derived.WalkLawsBesides
import Derived.Laws.Externs
import Derived.Lib.Hide
namespace Go.Proofs.Ytlifioeeooclfaa.Rl
open Go.ChangeShapes Go.WideShapes Go.ChangeAt Go.RowKit Dbl
theorem c12 (n : Int) (w : World) : (callFunc 22 #[.int .u64 n]).run Try.prog w = .ok (.value (.float .f64 n.toNat)) w := by
  rw [run_callFunc_extern (e := Extern.MathFloatBits.float64frombits) Try.func22 (by kernel_rfl) (by kernel_rfl) (by kernel_rfl) (by kernel_rfl)]
  rfl
theorem c13 (n : Nat) (w : World) : (callFunc 23 #[.float .f64 n]).run Try.prog w = .ok (.value (.int .u64 n)) w := by
  rw [run_callFunc_extern (e := Extern.MathFloatBits.float64bits) Try.func23 (by kernel_rfl) (by kernel_rfl) (by kernel_rfl) (by kernel_rfl)]
  rfl
theorem ret_i {k : IntKind} {a b : Int} (h : a = b) : Ending.returned (.int k a) = .returned (.int k b) := by rw [h]
theorem ret_f {k : FloatKind} {a b : Nat} (h : a = b) : Ending.returned (.float k a) = .returned (.float k b) := by rw [h]
theorem ret_b {a b : Bool} (h : a = b) : Ending.returned (.bool a) = .returned (.bool b) := by rw [h]

/-- real.Key -/
theorem key (a : Nat) (h1 : a < full) (w : World) : Calls Try.prog 50 #[.float .f64 a] w fun e w' => e = .returned (.int .u64 (keyU a : Nat)) ∧ w = w' := by
  have h13 := c13
  have hw := wd_nat h1
  by_cases ht : 9223372036854775808 ≤ (a : Int)
  · have h0 := andI_hi hw ht
    have hf := keyU_xor_hi hw ht
    have HF := Lib.hid hf; clear hf ht h1 hw
    go_enter Try.func50, Try.ntmps50
    go_wp2
    go_ret
    exact ⟨ret_i HF.out, rfl⟩
  · have h0 := andI_lo hw ht
    have hf := orI_lo hw ht
    have HF := Lib.hid hf; clear hf ht h1 hw
    go_enter Try.func50, Try.ntmps50
    go_wp2
    go_ret
    exact ⟨ret_i HF.out, rfl⟩
/-- icehouseref01.Key -/
theorem rkey (a : Int) (h : Wd a) (w : World) : Calls Try.prog 44 #[.int .u64 a] w fun e w' => e = .returned (.int .u64 (keyU a.toNat : Nat)) ∧ w = w' := by
  by_cases ht : 9223372036854775808 ≤ a
  · have HF := Lib.hid (keyU_hi h ht)
    have h0 : decide (9223372036854775808 ≤ a) = true := decide_eq_true ht
    clear h ht
    go_enter Try.func44, Try.ntmps44
    go_wp2
    go_ret
    exact ⟨ret_i HF.out, rfl⟩
  · have HF := Lib.hid (keyU_lo h ht)
    have h0 : decide (9223372036854775808 ≤ a) = false := decide_eq_false ht
    clear h ht
    go_enter Try.func44, Try.ntmps44
    go_wp2
    go_ret
    exact ⟨ret_i HF.out, rfl⟩
/-- icehouseref01.Kind -/
theorem kind (a : Int) (h : Wd a) (w : World) : Calls Try.prog 25 #[.int .u64 a] w fun e w' => e = .returned (.int .i64 (kindU a.toNat)) ∧ w = w' := by
  have hp := h.1
  by_cases h0 : a % 9223372036854775808 = 0
  · rw [kind0 h h0]
    clear h
    go_enter Try.func25, Try.ntmps25
    go_wp2
    go_ret
    exact ⟨rfl, rfl⟩
  · have t0 : (a % 9223372036854775808 == 0) = false := beq_eq_false_iff_ne.2 h0
    by_cases h1 : a % 9223372036854775808 < 9218868437227405312
    · rw [kind1 h h0 h1]
      have t1 := decide_eq_true h1
      clear h h0 h1
      go_enter Try.func25, Try.ntmps25
      go_wp2
      go_ret
      exact ⟨rfl, rfl⟩
    · have t1 := decide_eq_false h1
      by_cases h2 : a % 9223372036854775808 = 9218868437227405312
      · have HF := Lib.hid (kind2 h h2)
        have t2 : (a % 9223372036854775808 == 9218868437227405312) = true := beq_iff_eq.2 h2
        clear h h0 h1 h2
        go_enter Try.func25, Try.ntmps25
        go_wp2
        go_ret
        exact ⟨ret_i HF.out.symm, rfl⟩
      · have HF := Lib.hid (kind3 h (by omega))
        have t2 : (a % 9223372036854775808 == 9218868437227405312) = false := beq_eq_false_iff_ne.2 h2
        clear h h0 h1 h2
        go_enter Try.func25, Try.ntmps25
        go_wp2
        go_ret
        exact ⟨ret_i HF.out.symm, rfl⟩
/-- real.Canon -/
theorem canon (a : Nat) (w : World) : Calls Try.prog 51 #[.float .f64 a] w fun e w' => e = .returned (.float .f64 (canonU a)) ∧ w = w' := by
  have h12 := c12
  by_cases hn : inf < rung a
  · have h0 := self_nan hn
    have hk : canonU a = nan1 := by unfold canonU; rw [if_neg (by have h0 : 0 < inf := (by decide); omega), if_pos hn]
    rw [hk]; clear hk
    go_enter Try.func51, Try.ntmps51
    go_wp2
    go_ret
    exact ⟨rfl, rfl⟩
  · have h0 := self_num (a := a) (by omega)
    by_cases hz : rung a = 0
    · have h2 := zero_eq hz
      have hk : canonU a = 0 := if_pos hz
      rw [hk]; clear hk hz
      go_enter Try.func51, Try.ntmps51
      go_wp2
      go_ret
      exact ⟨rfl, rfl⟩
    · have h2 := zero_ne hz
      have hk : canonU a = a := by unfold canonU; rw [if_neg hz, if_neg hn]
      rw [hk]; clear hk
      go_enter Try.func51, Try.ntmps51
      go_wp2
      go_ret
      exact ⟨rfl, rfl⟩
/-- icehouseref01.Canon -/
theorem rcanon (a : Int) (h : Wd a) (w : World) : Calls Try.prog 45 #[.int .u64 a] w fun e w' => e = .returned (.int .u64 (canonU a.toNat : Nat)) ∧ w = w' := by
  have hc := h.cast
  rcases kind_cases a.toNat with h0 | h0 | h0 | h0
  · rw [canon0 h0]
    have HK := Lib.hid h0; clear h0 hc
    go_enter Try.func45, Try.ntmps45
    go_wp2_with (go_at_call 25; refine (kind a h _).mono ?_; rw [HK.out]; rintro e w' ⟨rfl, rfl⟩)
    go_ret
    exact ⟨rfl, rfl⟩
  · have HF := Lib.hid (canon12 (a := a.toNat) (by omega) (by omega))
    have HK := Lib.hid h0; have HC := Lib.hid hc; clear h0 hc
    go_enter Try.func45, Try.ntmps45
    go_wp2_with (go_at_call 25; refine (kind a h _).mono ?_; rw [HK.out]; rintro e w' ⟨rfl, rfl⟩)
    go_ret
    exact ⟨ret_i (by rw [HF.out, HC.out]), rfl⟩
  · have HF := Lib.hid (canon12 (a := a.toNat) (by omega) (by omega))
    have HK := Lib.hid h0; have HC := Lib.hid hc; clear h0 hc
    go_enter Try.func45, Try.ntmps45
    go_wp2_with (go_at_call 25; refine (kind a h _).mono ?_; rw [HK.out]; rintro e w' ⟨rfl, rfl⟩)
    go_ret
    exact ⟨ret_i (by rw [HF.out, HC.out]), rfl⟩
  · rw [canon3 h0]
    have HK := Lib.hid h0; clear h0 hc
    go_enter Try.func45, Try.ntmps45
    go_wp2_with (go_at_call 25; refine (kind a h _).mono ?_; rw [HK.out]; rintro e w' ⟨rfl, rfl⟩)
    go_ret
    exact ⟨rfl, rfl⟩
/-- real.Same -/
theorem same (a b : Nat) (w : World) : Calls Try.prog 38 #[.float .f64 a, .float .f64 b] w fun e w' => e = .returned (.bool ((a : Int) == (b : Int))) ∧ w = w' := by
  have h13 := c13
  go_enter Try.func38, Try.ntmps38
  go_wp2
  go_ret
  exact ⟨rfl, rfl⟩
end Go.Proofs.Ytlifioeeooclfaa.Rl
