/- Contract of real.Mean. Conditions: a list that fits in memory, words of 64 bits. -/
import Derived.Test.YtlifioeeooclfaaP10
import Derived.Test.YtlifioeeooclfaaHlp
import Derived.Test.YtlifioeeooclfaaOpen
import Derived.Deep.LoopGhost
import Derived.LoopTactic
import Derived.WalkMore
namespace Go.Proofs.Ytlifioeeooclfaa.Rl
open Go.ChangeShapes Go.WideShapes Go.ChangeAt Go.RowKit Dbl
open Go.Proofs.YtlifioeeooclfaaW.PrintWords Go.Proofs.YtlifioeeooclfaaW.PrintLast Go.Proofs.YtlifioeeooclfaaW.PrintMore
set_option linter.unusedVariables false
set_option linter.unusedSimpArgs false
theorem drawn_drew {w w' : World} (h : Drawn0 w w') : Drawn0 w w'.drew := h.step 1
def TupD (p : Nat × Int) (w : World) (e : Ending) (w' : World) : Prop := e = .returned (.tuple #[.float .f64 p.1, .int .i64 p.2]) ∧ Drawn0 w w'
set_option maxHeartbeats 4000000 in
set_option maxRecDepth 100000 in
theorem mean (A : Option Addr) (c : Nat) (l : List Nat) (w : World) (hr : Kd.C Opn.flt w A l.length l) (hc : l.length ≤ c) (hl : l.length ≤ 17592186044415) (hw : ∀ x ∈ l, x < full) :
    Calls Try.prog 33 #[.slice A l.length c] w (TupD (meanR l) w) := by
  by_cases h0 : l.length = 0
  · obtain rfl : l = [] := List.length_eq_zero_iff.1 h0
    clear hr hw h0
    show Calls Try.prog _ #[.slice A 0 c] w _
    go_enter Try.func33, Try.ntmps33
    go_wp2
    go_step3
    go_wp2
    rw [Exit.noGoto_ret]
    go_ret2
    exact ⟨rfl, Drawn0.refl w⟩
  obtain ⟨b, off, hA, hcell⟩ := Hlp.C_block hr (by omega)
  subst hA
  have HC := Aside0.mk hcell
  have HW := Aside0.mk hw
  have t0 : ((l.length : Int) == 0) = false := beq_eq_false_iff_ne.2 (by omega)
  clear hr hcell hw
  go_enter Try.func33, Try.ntmps33
  go_wp2
  go_step3
  go_wp2
  go_step3
  go_wp2
  go_loopg [4, 5, 6, 7, 15] l.length (fun q v4 v5 v6 v7 v15 w' => ∃ (k sv : Nat) (up dn : Bool), k ≤ l.length ∧ v15 = .int .i64 k ∧ q = l.length - k ∧ v4 = .float .f64 sv ∧ v5 = .bool up ∧ v6 = .bool dn ∧ v7 = .bool false ∧ Aside0 ((l.take k).any pinf = up) ∧ Aside0 ((l.take k).any ninf = dn) ∧ Aside0 (SumIs (sumO (l.take k)) sv) ∧ Aside0 (Drawn0 w w'))
  case atStart => exact ⟨0, 0, false, false, Nat.zero_le _, rfl, rfl, rfl, rfl, rfl, rfl, ⟨rfl⟩, ⟨rfl⟩, ⟨sumIs_zero⟩, ⟨Drawn0.refl w⟩⟩
  case round =>
    obtain ⟨k, sv, up, dn, hk, rfl, rfl, rfl, rfl, rfl, rfl, HU, HD, HS, HR⟩ := hrel
    by_cases hlt : k < l.length
    · have hcell := pw_cell_below HR.out.below (HC.out k hlt)
      have hx : l[k] < full := HW.out _ (List.getElem_mem hlt)
      have HU' := Aside0.mk (any_snoc pinf l hlt)
      have HD' := Aside0.mk (any_snoc ninf l hlt)
      have HS' := Aside0.mk (sum_take l hlt)
      have t1 : decide ((k : Int) < (l.length : Int)) = true := decide_eq_true (by omega)
      obtain ⟨x, hxe⟩ : ∃ x, l[k] = x := ⟨_, rfl⟩
      rw [hxe] at hcell hx HU' HD' HS'
      have I1 := Lib.hid (fun w => isinf1 x w)
      have I2 := Lib.hid (fun w => isinfm x hx w)
      clear hxe
      by_cases hn : inf < rung x
      · have h1 := self_nan hn
        have HN : Aside0 (meanR l = (0, 10)) := ⟨meanR_none h0 (sumO_stays (k := k + 1) (by rw [HS'.out]; exact addO_nan _ hn))⟩
        clear hn
        cases up <;> cases dn <;>
        · go_wp2_with (first | (go_at_call 39; (with_reducible refine (I1.out _).mono ?_); rintro e w' ⟨rfl, rfl⟩) | (go_at_call 39; (with_reducible refine (I2.out _).mono ?_); rintro e w' ⟨rfl, rfl⟩))
          go_ret2
          rw [HN.out]
          exact ⟨rfl, HR.out⟩
      · have h1 := self_num (a := x) (by omega)
        clear hn
        cases ha : Ieee.double.add sv x with
        | some r =>
          have HA := Aside0.mk (sumIs_add HS.out ha)
          have hq : ∀ w : World, (binOp .add 30 (.float .f64 sv) (.float .f64 x)).run Try.prog w = .ok (.float .f64 r) w := fun w => run_float_arith w .add _ .f64 sv x r ha
          clear ha
          cases up <;> cases dn <;>
          · go_wp2_with (first | (go_at_call 39; (with_reducible refine (I1.out _).mono ?_); rintro e w' ⟨rfl, rfl⟩) | (go_at_call 39; (with_reducible refine (I2.out _).mono ?_); rintro e w' ⟨rfl, rfl⟩))
            go_roundg (l.length - (k + 1))
            case measure => omega
            case rel => exact ⟨k + 1, r, _, _, by omega, by go_num, rfl, rfl, rfl, rfl, rfl, ⟨by rw [HU'.out, HU.out]; rfl⟩, ⟨by rw [HD'.out, HD.out]; rfl⟩, ⟨by rw [HS'.out]; exact HA.out⟩, HR⟩
        | none =>
          have HA := Aside0.mk (fun t => sumIs_nan (q := 0) (t := t) HS.out ha)
          have hq : ∀ w : World, (binOp .add 30 (.float .f64 sv) (.float .f64 x)).run Try.prog w = .ok (.float .f64 ((Question.nanBits .f64 sv x).cut (w.tape w.drawn (.nanBits .f64 sv x)))) w.drew := fun w => run_add_none w _ sv x ha
          clear ha
          cases up <;> cases dn <;>
          · go_wp2_with (first | (go_at_call 39; (with_reducible refine (I1.out _).mono ?_); rintro e w' ⟨rfl, rfl⟩) | (go_at_call 39; (with_reducible refine (I2.out _).mono ?_); rintro e w' ⟨rfl, rfl⟩))
            go_roundg (l.length - (k + 1))
            case measure => omega
            case rel => exact ⟨k + 1, _, _, _, by omega, by go_num, rfl, rfl, rfl, rfl, rfl, ⟨by rw [HU'.out, HU.out]; rfl⟩, ⟨by rw [HD'.out, HD.out]; rfl⟩, ⟨by rw [HS'.out]; exact HA.out _⟩, ⟨drawn_drew HR.out⟩⟩
    · obtain rfl : k = l.length := by omega
      rw [List.take_length] at HU HD HS
      have t1 : decide ((l.length : Int) < (l.length : Int)) = false := decide_eq_false (by omega)
      cases hs : sumO l with
      | none =>
        have HN := Aside0.mk (meanR_none h0 hs)
        have hv := HS.out
        rw [hs] at hv
        have h1 := self_nan hv.1
        clear hv hs
        cases up <;> cases dn <;>
        · go_wp2_with fail
          go_ret2
          rw [HN.out]
          exact ⟨rfl, HR.out⟩
      | some s =>
        have hv := HS.out
        rw [hs] at hv
        obtain ⟨rfl, h2, h3⟩ := hv
        obtain ⟨r, hr, _, _⟩ := mean_div h2 h0 (by omega)
        have HN := Aside0.mk (meanR_some h0 hs hr)
        have hq := run_mean (n := l.length) (by omega) hr
        have h1 := self_num h2
        have HB : Aside0 (¬ (up = true ∧ dn = true)) := ⟨fun h => by
          have := sum_both (HU.out.trans h.1) (HD.out.trans h.2)
          rw [hs] at this; cases this⟩
        clear hr hs h2 h3
        cases up <;> cases dn
        · go_wp2_with fail
          go_ret2
          rw [HN.out]
          exact ⟨rfl, HR.out⟩
        · go_wp2_with fail
          go_ret2
          rw [HN.out]
          exact ⟨rfl, HR.out⟩
        · go_wp2_with fail
          go_ret2
          rw [HN.out]
          exact ⟨rfl, HR.out⟩
        · exact absurd ⟨rfl, rfl⟩ HB.out
end Go.Proofs.Ytlifioeeooclfaa.Rl
