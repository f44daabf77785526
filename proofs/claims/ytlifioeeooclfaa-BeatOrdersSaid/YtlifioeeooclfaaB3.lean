/- What is usual, and the score, plain: they are no NaNs, and not negative. Conditions: each theorem's own. -/
import Derived.Test.YtlifioeeooclfaaB2
namespace Go.Proofs.Ytlifioeeooclfaa.Rl
open Go.ChangeShapes Go.WideShapes Go.ChangeAt Go.RowKit Dbl
set_option linter.unusedVariables false
set_option linter.unusedSimpArgs false
theorem low_word {u : Nat} (h : u ≤ inf) : rung u = u ∧ neg u = false ∧ u < full := by
  have h1 := inf_lt_top
  have e : rung u = u := Nat.mod_eq_of_lt (by omega)
  refine ⟨e, ?_, by unfold full top at *; omega⟩
  have := neg_rung u
  rwa [e] at this
theorem add_low {s x : Nat} (hs : s ≤ inf) (hx : x < inf) : ∃ r, Ieee.double.add s x = some r ∧ r ≤ inf := by
  obtain ⟨s1, s2, s3⟩ := low_word hs
  obtain ⟨x1, x2, x3⟩ := low_word (Nat.le_of_lt hx)
  rcases Nat.lt_or_ge s inf with h | h
  · exact ⟨_, add_pos (by omega) (by omega) s2 x2, Nat.min_le_right _ _⟩
  · obtain rfl : s = inf := by omega
    refine ⟨inf, ?_, Nat.le_refl _⟩
    unfold Ieee.Format.add
    rw [read_inf s1, read_fin (by omega)]
    show some (Ieee.double.word (neg inf) inf) = some inf
    rw [s2]; rfl
theorem sum_low {ts : List Nat} (h : ∀ x ∈ ts, x < inf) : ∃ s, sumO ts = some s ∧ s ≤ inf := by
  have main : ∀ (l : List Nat) (s : Nat), s ≤ inf → (∀ x ∈ l, x < inf) → ∃ r, l.foldl addO (some s) = some r ∧ r ≤ inf := by
    intro l
    induction l with
    | nil => intro s hs _; exact ⟨s, rfl, hs⟩
    | cons a l ih =>
      intro s hs hl
      obtain ⟨r, hr, hi⟩ := add_low hs (hl a List.mem_cons_self)
      have := ih r hi (fun x hx => hl x (List.mem_cons_of_mem _ hx))
      rw [List.foldl_cons]
      show ∃ q, l.foldl addO (Ieee.double.add s a) = some q ∧ _
      rw [hr]; exact this
  exact main ts 0 (Nat.zero_le _) h
theorem div_low {s d : Nat} (hs : s ≤ inf) (hd : d < inf) (h0 : d ≠ 0) : ∃ r, Ieee.double.div s d = some r ∧ r ≤ inf := by
  obtain ⟨s1, s2, s3⟩ := low_word hs
  obtain ⟨d1, d2, d3⟩ := low_word (Nat.le_of_lt hd)
  rcases Nat.lt_or_ge s inf with h | h
  · have hq := div_eq (a := s) (b := d) (by omega) (by omega) (by omega)
    rw [s2, d2, show (false ^^ false) = false from rfl, word_pos] at hq
    exact ⟨_, hq, Nat.min_le_right _ _⟩
  · obtain rfl : s = inf := by omega
    refine ⟨inf, ?_, Nat.le_refl _⟩
    unfold Ieee.Format.div
    rw [read_inf s1, read_fin (by omega)]
    show some (Ieee.double.word (neg inf ^^ neg d) inf) = some inf
    rw [s2, d2]; rfl
theorem mean_low {ts : List Nat} (h : ∀ x ∈ ts, x < inf) (h0 : ts.length ≠ 0) (hl : ts.length < 9007199254740992) : ∃ u, meanR ts = (u, 0) ∧ u ≤ inf := by
  obtain ⟨s, hs, hi⟩ := sum_low h
  obtain ⟨r, hr, hri⟩ := div_low hi (wi_size hl).2 (wi_pos hl (by omega))
  exact ⟨r, meanR_some h0 hs hr, hri⟩
def one : Nat := 4607182418800017408
def usualR (last : Int) (ts : List Nat) : Nat × Int := if okB last ts then (if ts.length = 0 then (one, 0) else meanR ts) else (0, 2)
theorem usual_no {last : Int} {ts : List Nat} (h : ¬ okB last ts) : usualR last ts = (0, 2) := if_neg h
theorem usual_none {last : Int} {ts : List Nat} (h : okB last ts) (h0 : ts.length = 0) : usualR last ts = (one, 0) := by unfold usualR; rw [if_pos h, if_pos h0]
theorem usual_some {last : Int} {ts : List Nat} (h : okB last ts) (h0 : ts.length ≠ 0) : usualR last ts = meanR ts := by unfold usualR; rw [if_pos h, if_neg h0]
theorem usual_low {last : Int} {ts : List Nat} (h : okB last ts) : ∃ u, usualR last ts = (u, 0) ∧ u ≤ inf := by
  by_cases h0 : ts.length = 0
  · exact ⟨one, usual_none h h0, by decide⟩
  · rw [usual_some h h0]
    exact mean_low h.2.2.2 h0 (by have := h.2.2.1; omega)
def inf1 : Nat := 9218868437227405312
theorem inf1_eq : inf1 = inf := rfl
def scoreR (last : Int) (ts : List Nat) (now : Int) : Nat × Int :=
  if okN last ts now then (if now = last then (0, 0) else if (usualR last ts).1 = 0 then (inf1, 0) else ((shareR (wi (now - last).toNat) (usualR last ts).1).1, 0)) else (0, 2)
theorem score_no {last : Int} {ts : List Nat} {now : Int} (h : ¬ okN last ts now) : scoreR last ts now = (0, 2) := if_neg h
theorem score_same {last : Int} {ts : List Nat} {now : Int} (h : okN last ts now) (hn : now = last) : scoreR last ts now = (0, 0) := by unfold scoreR; rw [if_pos h, if_pos hn]
theorem score_inf {last : Int} {ts : List Nat} {now : Int} {u : Nat} (h : okN last ts now) (hn : now ≠ last) (hu : usualR last ts = (u, 0)) (h0 : u = 0) : scoreR last ts now = (inf1, 0) := by
  unfold scoreR; rw [if_pos h, if_neg hn, hu, if_pos h0]
theorem score_share {last : Int} {ts : List Nat} {now : Int} {u s : Nat} {k : Int} (h : okN last ts now) (hn : now ≠ last) (hu : usualR last ts = (u, 0)) (h0 : u ≠ 0) (hs : shareR (wi (now - last).toNat) u = (s, k)) : scoreR last ts now = (s, 0) := by
  unfold scoreR; rw [if_pos h, if_neg hn, hu, if_neg h0, hs]
theorem okN_d {last : Int} {ts : List Nat} {now : Int} (h : okN last ts now) : (((now - last).toNat : Nat) : Int) = now - last ∧ (now - last).toNat < 9007199254740992 := by
  have := h.1.1; have := h.2.1; have := h.2.2
  omega
/-- by a usual time that is not nothing -/
theorem share_low {d u : Nat} (hd : d < 9007199254740992) (hu : u ≤ inf) (h0 : u ≠ 0) : ∃ s, shareR (wi d) u = (s, 0) ∧ s ≤ inf ∧ (d = 0 → s = 0) := by
  obtain ⟨u1, u2, u3⟩ := low_word hu
  have hw := (wi_size hd).2
  obtain ⟨w1, w2, w3⟩ := wi_rung hd
  have hne : ¬ (inf < rung (wi d) ∨ inf < rung u ∨ rung u = 0 ∨ (rung (wi d) = inf ∧ rung u = inf)) := by rw [w1, u1]; omega
  rcases Nat.lt_or_ge u inf with h | h
  · have hq := div_eq (a := wi d) (b := u) (by omega) (by omega) (by omega)
    rw [w2, u2, w1, u1, show (false ^^ false) = false from rfl, word_pos] at hq
    obtain ⟨r, hr⟩ : ∃ r, min (near (size (wi d) * unit) (size u)) inf = r := ⟨_, rfl⟩
    rw [hr] at hq
    have hri : r ≤ inf := by rw [← hr]; exact Nat.min_le_right _ _
    have hz : d = 0 → r = 0 := by
      rintro rfl
      rw [← hr, wi_zero, size_zero, Nat.zero_mul, near_zero _ (by
        have := @size_lt_iff 0 u
        rw [size_zero] at this; omega), Nat.zero_min]
    have r1 := (low_word hri).1
    by_cases hr0 : r = 0
    · exact ⟨0, shareR_zero hne hq (by omega), Nat.zero_le _, fun _ => rfl⟩
    · exact ⟨r, shareR_some hne hq (by omega), hri, hz⟩
  · obtain rfl : u = inf := by omega
    have hq : Ieee.double.div (wi d) inf = some 0 := by
      unfold Ieee.Format.div
      rw [read_fin (by omega), read_inf u1]
      show some (Ieee.double.nearest (neg (wi d) ^^ neg inf) 0 0) = some 0
      rw [w2, u2, nearest_zero, Nat.zero_mul, near_zero 1 (by decide), Nat.zero_min]; rfl
    exact ⟨0, shareR_zero hne hq (by decide), Nat.zero_le _, fun _ => rfl⟩
theorem share_none {d u : Nat} (h0 : u = 0) : shareR (wi d) u = (0, 10) := shareR_none (.inr (.inr (.inl (by rw [h0]; decide))))
theorem score_low {last : Int} {ts : List Nat} {now : Int} (h : okN last ts now) : ∃ s, scoreR last ts now = (s, 0) ∧ s ≤ inf := by
  by_cases hn : now = last
  · exact ⟨0, score_same h hn, Nat.zero_le _⟩
  · obtain ⟨u, hu, hui⟩ := usual_low h.1
    by_cases h0 : u = 0
    · exact ⟨inf1, score_inf h hn hu h0, by rw [inf1_eq]; exact Nat.le_refl _⟩
    · obtain ⟨s, hs, hsi, _⟩ := share_low (okN_d h).2 hui h0
      exact ⟨s, score_share h hn hu h0 hs, hsi⟩
end Go.Proofs.Ytlifioeeooclfaa.Rl
