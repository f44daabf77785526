/- Contract of icehouseref01.Mean: the same as real.Mean's. Conditions: a list that fits in memory, words of 64 bits. -/
import Derived.Test.YtlifioeeooclfaaC8
import Derived.Test.YtlifioeeooclfaaC7
namespace Go.Proofs.Ytlifioeeooclfaa.Rl
open Go.ChangeShapes Go.WideShapes Go.ChangeAt Go.RowKit Dbl
open Go.Proofs.YtlifioeeooclfaaW.PrintWords Go.Proofs.YtlifioeeooclfaaW.PrintLast Go.Proofs.YtlifioeeooclfaaW.PrintMore
set_option linter.unusedVariables false
set_option linter.unusedSimpArgs false
def bi (b : Bool) : Int := if b then 1 else 0
theorem kind_pinf {x : Nat} (h : x < full) (ht : x < top) (hk : kindU x = 2) : pinf x = true ∧ ninf x = false := by
  have hn : neg x = false := by rw [neg_lt h]; exact decide_eq_false (by omega)
  have hr := kind_inf.1 hk
  exact ⟨pinf_iff.2 ⟨hn, hr⟩, by unfold ninf; rw [hn]; rfl⟩
theorem kind_ninf {x : Nat} (h : x < full) (ht : ¬ x < top) (hk : kindU x = 2) : pinf x = false ∧ ninf x = true := by
  have hn : neg x = true := by rw [neg_lt h]; exact decide_eq_true (by omega)
  have hr := kind_inf.1 hk
  exact ⟨by unfold pinf; rw [hn]; rfl, ninf_iff.2 ⟨hn, hr⟩⟩
theorem kind_noinf {x : Nat} (hk : kindU x ≠ 2) : pinf x = false ∧ ninf x = false := by
  have hr : rung x ≠ inf := fun h => hk (kind_inf.2 h)
  unfold pinf ninf
  rw [decide_eq_false hr]; simp
theorem sum_kind {s : Option Nat} {v : Nat} (h : SumIs s v) : v < full ∧ (s = none → kindU v = 3) ∧ (∀ r, s = some r → v = r ∧ kindU v ≠ 3 ∧ rung v ≤ inf) := by
  cases s with
  | none => exact ⟨h.2, fun _ => kind_nan.2 h.1, fun r h => nomatch h⟩
  | some s =>
    obtain ⟨rfl, h2, h3⟩ := h
    refine ⟨h3, ?_, ?_⟩
    · intro h; cases h
    · intro r hr
      exact ⟨Option.some.inj hr, fun e => (by have := kind_nan.1 e; omega), h2⟩
set_option maxHeartbeats 4000000 in
set_option maxRecDepth 100000 in
theorem rmean (A : Option Addr) (c : Nat) (l : List Nat) (w : World) (hr : Kd.C Opn.flt w A l.length l) (hc : l.length ≤ c) (hl : l.length ≤ 17592186044415) (hw : ∀ x ∈ l, x < full) :
    Calls Try.prog 41 #[.slice A l.length c] w (TupD (meanR l) w) := by
  have h13 := c13
  by_cases h0 : l.length = 0
  · obtain rfl : l = [] := List.length_eq_zero_iff.1 h0
    clear hr hw h0
    show Calls Try.prog _ #[.slice A 0 c] w _
    go_enter Try.func41, Try.ntmps41
    go_wp2
    go_ret2
    exact ⟨rfl, Drawn0.refl w⟩
  obtain ⟨b, off, hA, hcell⟩ := Hlp.C_block hr (by omega)
  subst hA
  have HC := Aside0.mk hcell
  have HW := Aside0.mk hw
  have t0 : ((l.length : Int) == 0) = false := beq_eq_false_iff_ne.2 (by omega)
  clear hr hcell hw
  go_enter Try.func41, Try.ntmps41
  go_wp2
  go_loopg [4, 5, 6, 7] l.length (fun q v4 v5 v6 v7 w' => ∃ (k sv : Nat) (up dn : Bool), k ≤ l.length ∧ v7 = .int .i64 k ∧ q = l.length - k ∧ v6 = .float .f64 sv ∧ v4 = .int .i64 (bi up) ∧ v5 = .int .i64 (bi dn) ∧ Aside0 ((l.take k).any pinf = up) ∧ Aside0 ((l.take k).any ninf = dn) ∧ Aside0 (SumIs (sumO (l.take k)) sv) ∧ Aside0 (Drawn0 w w'))
  case atStart => exact ⟨0, 0, false, false, Nat.zero_le _, rfl, rfl, rfl, rfl, rfl, ⟨rfl⟩, ⟨rfl⟩, ⟨sumIs_zero⟩, ⟨Drawn0.refl w⟩⟩
  case round =>
    obtain ⟨k, sv, up, dn, hk, rfl, rfl, rfl, rfl, rfl, HU, HD, HS, HR⟩ := hrel
    by_cases hlt : k < l.length
    · have hcell := pw_cell_below HR.out.below (HC.out k hlt)
      have hx : l[k] < full := HW.out _ (List.getElem_mem hlt)
      have HU' := Aside0.mk (any_snoc pinf l hlt)
      have HD' := Aside0.mk (any_snoc ninf l hlt)
      have HS' := Aside0.mk (sum_take l hlt)
      have t1 : decide ((k : Int) < (l.length : Int)) = true := decide_eq_true (by omega)
      obtain ⟨x, hxe⟩ : ∃ x, l[k] = x := ⟨_, rfl⟩
      rw [hxe] at hcell hx HU' HD' HS'
      clear hxe
      obtain ⟨v, hv⟩ : ∃ v, kindU x = v := ⟨_, rfl⟩
      have KX := Lib.hid (fun w => kind_n hx hv w)
      by_cases hn : v = 3
      · subst hn
        have HN : Aside0 (meanR l = (0, 10)) := ⟨meanR_none h0 (sumO_stays (k := k + 1) (by rw [HS'.out]; exact addO_nan _ (kind_nan.1 hv)))⟩
        clear hv
        go_wp2_with (go_at_call 25; (with_reducible refine (KX.out _).mono ?_); rintro e w' ⟨rfl, rfl⟩)
        go_ret2
        rw [HN.out]
        exact ⟨rfl, HR.out⟩
      · have t3 : (v == 3) = false := beq_eq_false_iff_ne.2 hn
        obtain ⟨pu, hpu⟩ : ∃ b, pinf x = b := ⟨_, rfl⟩
        obtain ⟨pd, hpd⟩ : ∃ b, ninf x = b := ⟨_, rfl⟩
        rw [hpu] at HU'
        rw [hpd] at HD'
        have hcase : (v = 2 ∧ (decide ((x : Int) < 9223372036854775808) = true) ∧ pu = true ∧ pd = false) ∨ (v = 2 ∧ (decide ((x : Int) < 9223372036854775808) = false) ∧ pu = false ∧ pd = true) ∨ ((v == 2) = false ∧ pu = false ∧ pd = false) := by
          by_cases h2 : v = 2
          · by_cases ht : x < top
            · have := kind_pinf hx ht (hv.trans h2)
              exact .inl ⟨h2, decide_eq_true (by unfold top at ht; omega), hpu.symm.trans this.1, hpd.symm.trans this.2⟩
            · have := kind_ninf hx ht (hv.trans h2)
              exact .inr (.inl ⟨h2, decide_eq_false (by unfold top at ht; omega), hpu.symm.trans this.1, hpd.symm.trans this.2⟩)
          · have := kind_noinf (x := x) (by rw [hv]; exact h2)
            exact .inr (.inr ⟨beq_eq_false_iff_ne.2 h2, hpu.symm.trans this.1, hpd.symm.trans this.2⟩)
        clear hn hv hpu hpd
        have hsum : (∃ r, Aside0 (SumIs (addO (sumO (l.take k)) x) r) ∧ ∀ w : World, (binOp .add 30 (.float .f64 sv) (.float .f64 x)).run Try.prog w = .ok (.float .f64 r) w) ∨ (Aside0 (∀ t, SumIs (addO (sumO (l.take k)) x) ((Question.nanBits .f64 sv x).cut t)) ∧ ∀ w : World, (binOp .add 30 (.float .f64 sv) (.float .f64 x)).run Try.prog w = .ok (.float .f64 ((Question.nanBits .f64 sv x).cut (w.tape w.drawn (.nanBits .f64 sv x)))) w.drew) := by
          cases ha : Ieee.double.add sv x with
          | some r => exact .inl ⟨r, ⟨sumIs_add HS.out ha⟩, fun w => run_float_arith w .add _ .f64 sv x r ha⟩
          | none => exact .inr ⟨⟨fun t => sumIs_nan (q := 0) (t := t) HS.out ha⟩, fun w => run_add_none w _ sv x ha⟩
        rcases hcase with ⟨rfl, tt, rfl, rfl⟩ | ⟨rfl, tt, rfl, rfl⟩ | ⟨t2, rfl, rfl⟩
        · have t4 : decide ((9223372036854775808 : Int) ≤ (x : Int)) = false := decide_eq_false (by have := of_decide_eq_true tt; omega)
          rcases hsum with ⟨r, HA, hq⟩ | ⟨HA, hq⟩
          · go_wp2_with (go_at_call 25; (with_reducible refine (KX.out _).mono ?_); rintro e w' ⟨rfl, rfl⟩)
            go_roundg (l.length - (k + 1))
            case measure => omega
            case rel => exact ⟨k + 1, r, true, dn, by omega, by go_num, rfl, rfl, rfl, rfl, ⟨by rw [HU'.out, HU.out, Bool.or_true]⟩, ⟨by rw [HD'.out, HD.out, Bool.or_false]⟩, ⟨by rw [HS'.out]; exact HA.out⟩, HR⟩
          · go_wp2_with (go_at_call 25; (with_reducible refine (KX.out _).mono ?_); rintro e w' ⟨rfl, rfl⟩)
            go_roundg (l.length - (k + 1))
            case measure => omega
            case rel => exact ⟨k + 1, _, true, dn, by omega, by go_num, rfl, rfl, rfl, rfl, ⟨by rw [HU'.out, HU.out, Bool.or_true]⟩, ⟨by rw [HD'.out, HD.out, Bool.or_false]⟩, ⟨by rw [HS'.out]; exact HA.out _⟩, ⟨drawn_drew HR.out⟩⟩
        · have t4 : decide ((9223372036854775808 : Int) ≤ (x : Int)) = true := decide_eq_true (by have := of_decide_eq_false tt; omega)
          rcases hsum with ⟨r, HA, hq⟩ | ⟨HA, hq⟩
          · go_wp2_with (go_at_call 25; (with_reducible refine (KX.out _).mono ?_); rintro e w' ⟨rfl, rfl⟩)
            go_roundg (l.length - (k + 1))
            case measure => omega
            case rel => exact ⟨k + 1, r, up, true, by omega, by go_num, rfl, rfl, rfl, rfl, ⟨by rw [HU'.out, HU.out, Bool.or_false]⟩, ⟨by rw [HD'.out, HD.out, Bool.or_true]⟩, ⟨by rw [HS'.out]; exact HA.out⟩, HR⟩
          · go_wp2_with (go_at_call 25; (with_reducible refine (KX.out _).mono ?_); rintro e w' ⟨rfl, rfl⟩)
            go_roundg (l.length - (k + 1))
            case measure => omega
            case rel => exact ⟨k + 1, _, up, true, by omega, by go_num, rfl, rfl, rfl, rfl, ⟨by rw [HU'.out, HU.out, Bool.or_false]⟩, ⟨by rw [HD'.out, HD.out, Bool.or_true]⟩, ⟨by rw [HS'.out]; exact HA.out _⟩, ⟨drawn_drew HR.out⟩⟩
        · rcases hsum with ⟨r, HA, hq⟩ | ⟨HA, hq⟩
          · go_wp2_with (go_at_call 25; (with_reducible refine (KX.out _).mono ?_); rintro e w' ⟨rfl, rfl⟩)
            go_roundg (l.length - (k + 1))
            case measure => omega
            case rel => exact ⟨k + 1, r, up, dn, by omega, by go_num, rfl, rfl, rfl, rfl, ⟨by rw [HU'.out, HU.out, Bool.or_false]⟩, ⟨by rw [HD'.out, HD.out, Bool.or_false]⟩, ⟨by rw [HS'.out]; exact HA.out⟩, HR⟩
          · go_wp2_with (go_at_call 25; (with_reducible refine (KX.out _).mono ?_); rintro e w' ⟨rfl, rfl⟩)
            go_roundg (l.length - (k + 1))
            case measure => omega
            case rel => exact ⟨k + 1, _, up, dn, by omega, by go_num, rfl, rfl, rfl, rfl, ⟨by rw [HU'.out, HU.out, Bool.or_false]⟩, ⟨by rw [HD'.out, HD.out, Bool.or_false]⟩, ⟨by rw [HS'.out]; exact HA.out _⟩, ⟨drawn_drew HR.out⟩⟩
    · obtain rfl : k = l.length := by omega
      rw [List.take_length] at HU HD HS
      have t1 : decide ((l.length : Int) < (l.length : Int)) = false := decide_eq_false (by omega)
      obtain ⟨sf, k1, k2⟩ := sum_kind HS.out
      have e0 : bi false = 0 := rfl
      have e1 : bi true = 1 := rfl
      obtain ⟨v, hv⟩ : ∃ v, kindU sv = v := ⟨_, rfl⟩
      have KX := Lib.hid (fun w => kind_n sf hv w)
      cases hs : sumO l with
      | none =>
        have HN := Aside0.mk (meanR_none h0 hs)
        obtain rfl : v = 3 := hv.symm.trans (k1 hs)
        clear hs k1 k2 hv
        cases up <;> cases dn <;>
        · go_wp2_with (go_at_call 25; (with_reducible refine (KX.out _).mono ?_); rintro e w' ⟨rfl, rfl⟩)
          go_ret2
          rw [HN.out]
          exact ⟨rfl, HR.out⟩
      | some s =>
        obtain ⟨rfl, k3, k4⟩ := k2 s hs
        obtain ⟨r, hr, _, _⟩ := mean_div k4 h0 (by omega)
        have HN := Aside0.mk (meanR_some h0 hs hr)
        have hq := run_mean (n := l.length) (by omega) hr
        have t3 : (v == 3) = false := beq_eq_false_iff_ne.2 (hv ▸ k3)
        have HB : Aside0 (¬ (up = true ∧ dn = true)) := ⟨fun h => by
          have := sum_both (HU.out.trans h.1) (HD.out.trans h.2)
          rw [hs] at this; cases this⟩
        clear hr hs k1 k2 k3 k4 hv
        cases up <;> cases dn
        · go_wp2_with (go_at_call 25; (with_reducible refine (KX.out _).mono ?_); rintro e w' ⟨rfl, rfl⟩)
          go_ret2
          rw [HN.out]
          exact ⟨rfl, HR.out⟩
        · go_wp2_with (go_at_call 25; (with_reducible refine (KX.out _).mono ?_); rintro e w' ⟨rfl, rfl⟩)
          go_ret2
          rw [HN.out]
          exact ⟨rfl, HR.out⟩
        · go_wp2_with (go_at_call 25; (with_reducible refine (KX.out _).mono ?_); rintro e w' ⟨rfl, rfl⟩)
          go_ret2
          rw [HN.out]
          exact ⟨rfl, HR.out⟩
        · exact absurd ⟨rfl, rfl⟩ HB.out
end Go.Proofs.Ytlifioeeooclfaa.Rl
