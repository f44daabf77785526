/- The sum of doubles one behind the other, and the mean, plain: none where a NaN, or both infinities, occur. Conditions: words of 64 bits. -/
import Derived.Test.YtlifioeeooclfaaC6
import Derived.Test.YtlifioeeooclfaaP9
namespace Go.Proofs.Ytlifioeeooclfaa.Rl
open Dbl Ieee Go
set_option linter.unusedSimpArgs false
set_option linter.unusedVariables false
def addO (s : Option Nat) (x : Nat) : Option Nat := s.bind fun s => double.add s x
def sumO (l : List Nat) : Option Nat := l.foldl addO (some 0)
theorem sumO_snoc (l : List Nat) (x : Nat) : sumO (l ++ [x]) = addO (sumO l) x := by unfold sumO; rw [List.foldl_append]; rfl
theorem fold_none (l : List Nat) : l.foldl addO none = none := by
  induction l with
  | nil => rfl
  | cons a l ih => exact ih
theorem sumO_stays {l : List Nat} {k : Nat} (h : sumO (l.take k) = none) : sumO l = none := by
  have e : l = l.take k ++ l.drop k := (List.take_append_drop k l).symm
  rw [e]
  unfold sumO at *
  rw [List.foldl_append, h]
  exact fold_none _
theorem addO_nan (s : Option Nat) {x : Nat} (h : inf < rung x) : addO s x = none := by
  cases s with
  | none => rfl
  | some s => exact add_nan_right s h
/-- what stands in the sum's place: the sum, or any NaN -/
def SumIs (s : Option Nat) (v : Nat) : Prop := match s with
  | some r => v = r ∧ rung r ≤ inf ∧ r < full
  | none => inf < rung v ∧ v < full
theorem sumIs_zero : SumIs (some 0) 0 := ⟨rfl, by decide, by decide⟩
theorem sumIs_add {s : Option Nat} {v x r : Nat} (h : SumIs s v) (hr : double.add v x = some r) : SumIs (addO s x) r := by
  cases s with
  | none =>
    have := h.1
    have := (add_some hr).2.2.1
    omega
  | some s =>
    obtain ⟨rfl, _, _⟩ := h
    show SumIs (double.add v x) r
    rw [hr]
    have := add_some hr
    exact ⟨rfl, this.1, this.2.1⟩
theorem sumIs_nan {s : Option Nat} {v x q t : Nat} (h : SumIs s v) (hr : double.add v x = none) : SumIs (addO s x) ((Question.nanBits .f64 v x).cut t) := by
  have hn := nan_cut v x t
  cases s with
  | none => exact hn
  | some s =>
    obtain ⟨rfl, _, _⟩ := h
    show SumIs (double.add v x) _
    rw [hr]
    exact hn
theorem neg_word (s : Bool) : neg (double.word s inf) = s := by cases s <;> decide
theorem rung_word (s : Bool) : rung (double.word s inf) = inf := by cases s <;> decide
theorem add_inf {a b r : Nat} (h : rung a = inf ∨ rung b = inf) (hr : double.add a b = some r) : rung r = inf ∧ (rung a = inf → neg r = neg a) ∧ (rung b = inf → neg r = neg b) := by
  have hs := add_some hr
  unfold Format.add at hr
  rcases Nat.lt_or_ge (rung a) inf with ha | ha
  · have hb : rung b = inf := h.resolve_left (by omega)
    rw [read_fin ha, read_inf hb] at hr
    have e : double.word (neg b) inf = r := Option.some.inj hr
    rw [← e, neg_word, rung_word]
    exact ⟨rfl, fun h => by omega, fun _ => rfl⟩
  · have ha : rung a = inf := by omega
    rcases Nat.lt_or_ge (rung b) inf with hb | hb
    · rw [read_inf ha, read_fin hb] at hr
      have e : double.word (neg a) inf = r := Option.some.inj hr
      rw [← e, neg_word, rung_word]
      exact ⟨rfl, fun _ => rfl, fun h => by omega⟩
    · have hb : rung b = inf := by omega
      rw [read_inf ha, read_inf hb] at hr
      simp only [Datum.sum] at hr
      by_cases hn : neg a = neg b
      · rw [if_pos hn] at hr
        have e : double.word (neg a) inf = r := Option.some.inj hr
        rw [← e, neg_word, rung_word]
        exact ⟨rfl, fun _ => rfl, fun _ => hn⟩
      · rw [if_neg hn] at hr; cases hr
theorem pinf_iff {a : Nat} : pinf a = true ↔ neg a = false ∧ rung a = inf := by unfold pinf; simp
theorem ninf_iff {a : Nat} : ninf a = true ↔ neg a = true ∧ rung a = inf := by unfold ninf; simp
/-- where an infinity has been added, the sum is that, or none -/
theorem sum_inf (l : List Nat) : (l.any pinf = true → ∀ r, sumO l = some r → rung r = inf ∧ neg r = false) ∧ (l.any ninf = true → ∀ r, sumO l = some r → rung r = inf ∧ neg r = true) := by
  have main : ∀ (l : List Nat) (up dn : Bool) (s : Option Nat), (up = true → ∀ r, s = some r → rung r = inf ∧ neg r = false) → (dn = true → ∀ r, s = some r → rung r = inf ∧ neg r = true) →
      ((up || l.any pinf) = true → ∀ r, l.foldl addO s = some r → rung r = inf ∧ neg r = false) ∧ ((dn || l.any ninf) = true → ∀ r, l.foldl addO s = some r → rung r = inf ∧ neg r = true) := by
    intro l
    induction l with
    | nil => intro up dn s h1 h2; simpa using ⟨h1, h2⟩
    | cons a l ih =>
      intro up dn s h1 h2
      have := ih (up || pinf a) (dn || ninf a) (addO s a) ?_ ?_
      · simpa [Bool.or_assoc] using this
      · intro h r hr
        obtain ⟨v, hv, hr⟩ := Option.bind_eq_some_iff.1 hr
        rcases Bool.or_eq_true_iff.1 h with h | h
        · obtain ⟨e1, e2⟩ := h1 h v hv
          have := add_inf (.inl e1) hr
          exact ⟨this.1, (this.2.1 e1).trans e2⟩
        · obtain ⟨e1, e2⟩ := pinf_iff.1 h
          have := add_inf (.inr e2) hr
          exact ⟨this.1, (this.2.2 e2).trans e1⟩
      · intro h r hr
        obtain ⟨v, hv, hr⟩ := Option.bind_eq_some_iff.1 hr
        rcases Bool.or_eq_true_iff.1 h with h | h
        · obtain ⟨e1, e2⟩ := h2 h v hv
          have := add_inf (.inl e1) hr
          exact ⟨this.1, (this.2.1 e1).trans e2⟩
        · obtain ⟨e1, e2⟩ := ninf_iff.1 h
          have := add_inf (.inr e2) hr
          exact ⟨this.1, (this.2.2 e2).trans e1⟩
  have := main l false false (some 0) (fun h => by cases h) (fun h => by cases h)
  simpa [sumO] using this
theorem sum_both {l : List Nat} (h1 : l.any pinf = true) (h2 : l.any ninf = true) : sumO l = none := by
  cases e : sumO l with
  | none => rfl
  | some r =>
    have a := (sum_inf l).1 h1 r e
    have b := (sum_inf l).2 h2 r e
    rw [a.2] at b; cases b.2
theorem any_snoc (f : Nat → Bool) (l : List Nat) {k : Nat} (hk : k < l.length) : (l.take (k + 1)).any f = ((l.take k).any f || f l[k]) := by
  rw [List.take_succ_eq_append_getElem hk, List.any_append]; simp
theorem sum_take (l : List Nat) {k : Nat} (hk : k < l.length) : sumO (l.take (k + 1)) = addO (sumO (l.take k)) l[k] := by
  rw [List.take_succ_eq_append_getElem hk, sumO_snoc]
/-- the mean, and the error -/
def meanR (l : List Nat) : Nat × Int := if l.length = 0 then (0, 4) else match sumO l with
  | none => (0, 10)
  | some s => ((double.div s (wi l.length)).getD 0, 0)
theorem meanR_none {l : List Nat} (h0 : l.length ≠ 0) (h : sumO l = none) : meanR l = (0, 10) := by unfold meanR; rw [if_neg h0, h]
theorem meanR_some {l : List Nat} {s r : Nat} (h0 : l.length ≠ 0) (h : sumO l = some s) (hr : double.div s (wi l.length) = some r) : meanR l = (r, 0) := by
  unfold meanR; rw [if_neg h0, h]
  show ((double.div s (wi l.length)).getD 0, (0 : Int)) = _
  rw [hr]; rfl
theorem mean_div {s n : Nat} (hs : rung s ≤ inf) (h0 : n ≠ 0) (hn : n < 9007199254740992) : ∃ r, double.div s (wi n) = some r ∧ rung r ≤ inf ∧ r < full := by
  have hw := wi_rung hn
  have hi := (wi_size hn).2
  exact div_some hs (by rw [hw.1]; omega) (by rw [hw.1]; exact wi_pos hn (by omega)) (by rw [hw.1]; omega)
theorem run_mean {s r n : Nat} (hn : n < 9007199254740992) (h : double.div s (wi n) = some r) : ∀ w : World, (binOp .quo 30 (.float .f64 s) (.float .f64 (floatOfInt .f64 (n : Int)))).run Try.prog w = .ok (.float .f64 r) w := by
  rw [ofInt_eq hn]
  exact run_quo h
end Go.Proofs.Ytlifioeeooclfaa.Rl
