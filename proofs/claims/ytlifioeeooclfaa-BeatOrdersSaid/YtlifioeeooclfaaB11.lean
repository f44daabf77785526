/- The score rises with the wait, plain; and so does what is suspected. Conditions: each theorem's own. -/
import Derived.Test.YtlifioeeooclfaaBeatScores
namespace Go.Proofs.Ytlifioeeooclfaa.Rl
open Go.ChangeShapes Go.WideShapes Go.ChangeAt Go.RowKit Dbl
set_option linter.unusedVariables false
set_option linter.unusedSimpArgs false
/-- what a share by something is -/
theorem share_val {d u : Nat} (hd : d < 9007199254740992) (hu : u < inf) (h0 : u ≠ 0) : shareR (wi d) u = (min (near (size (wi d) * unit) (size u)) inf, 0) := by
  obtain ⟨u1, u2, u3⟩ := low_word (Nat.le_of_lt hu)
  have hw := (wi_size hd).2
  obtain ⟨w1, w2, w3⟩ := wi_rung hd
  have hne : ¬ (inf < rung (wi d) ∨ inf < rung u ∨ rung u = 0 ∨ (rung (wi d) = inf ∧ rung u = inf)) := by rw [w1, u1]; omega
  have hq := div_eq (a := wi d) (b := u) (by omega) (by omega) (by omega)
  rw [w2, u2, w1, u1, show (false ^^ false) = false from rfl, word_pos] at hq
  have hri : min (near (size (wi d) * unit) (size u)) inf ≤ inf := Nat.min_le_right _ _
  generalize min (near (size (wi d) * unit) (size u)) inf = r at *
  have r1 := (low_word hri).1
  by_cases hr0 : r = 0
  · rw [shareR_zero hne hq (by omega), hr0]
  · exact shareR_some hne hq (by omega)
theorem share_inf {d : Nat} (hd : d < 9007199254740992) : shareR (wi d) inf = (0, 0) := by
  have hw := (wi_size hd).2
  obtain ⟨w1, w2, w3⟩ := wi_rung hd
  obtain ⟨u1, u2, u3⟩ := low_word (Nat.le_refl inf)
  have hi : inf ≠ 0 := by decide
  have hne : ¬ (inf < rung (wi d) ∨ inf < rung inf ∨ rung inf = 0 ∨ (rung (wi d) = inf ∧ rung inf = inf)) := by rw [w1, u1]; omega
  have hq : Ieee.double.div (wi d) inf = some 0 := by
    unfold Ieee.Format.div
    rw [read_fin (by omega), read_inf u1]
    show some (Ieee.double.nearest (neg (wi d) ^^ neg inf) 0 0) = some 0
    rw [w2, u2, nearest_zero, Nat.zero_mul, near_zero 1 (by decide), Nat.zero_min]; rfl
  exact shareR_zero hne hq (by decide)
theorem share_mono {d e u : Nat} (he : e < 9007199254740992) (hde : d ≤ e) (hu : u ≤ inf) (h0 : u ≠ 0) : (shareR (wi d) u).1 ≤ (shareR (wi e) u).1 := by
  rcases Nat.lt_or_ge u inf with h | h
  · rw [share_val (by omega) h h0, share_val he h h0]
    have hp : 0 < size u := by
      have := @size_lt_iff 0 u
      rw [size_zero] at this; omega
    have hm : near (size (wi d) * unit) (size u) ≤ near (size (wi e) * unit) (size u) := by
      refine near_mono hp hp (Nat.mul_le_mul_right _ (Nat.mul_le_mul_right _ ?_))
      rw [(wi_size (n := d) (by omega)).1, (wi_size he).1]
      exact Nat.mul_le_mul_right _ hde
    show min _ inf ≤ min _ inf
    omega
  · obtain rfl : u = inf := by omega
    rw [share_inf (by omega), share_inf he]
    exact Nat.le_refl _
theorem score_mono {last : Int} {ts : List Nat} {n m : Int} (ho : okN last ts m) (h1 : last ≤ n) (h2 : n ≤ m) : (scoreR last ts n).1 ≤ (scoreR last ts m).1 := by
  have hn : okN last ts n := ⟨ho.1, h1, by have := ho.2.2; omega⟩
  by_cases hl : n = last
  · rw [score_same hn hl]; exact Nat.zero_le _
  · have hl2 : m ≠ last := by omega
    obtain ⟨u, hu, hui⟩ := usual_low ho.1
    by_cases h0 : u = 0
    · rw [score_inf hn hl hu h0, score_inf ho hl2 hu h0]; exact Nat.le_refl _
    · have hd1 := okN_d hn
      have hd2 := okN_d ho
      obtain ⟨⟨s1, k1⟩, hs1⟩ : ∃ p, shareR (wi (n - last).toNat) u = p := ⟨_, rfl⟩
      obtain ⟨⟨s2, k2⟩, hs2⟩ : ∃ p, shareR (wi (m - last).toNat) u = p := ⟨_, rfl⟩
      rw [score_share hn hl hu h0 hs1, score_share ho hl2 hu h0 hs2]
      have := share_mono (d := (n - last).toNat) hd2.2 (by omega) hui h0
      rw [hs1, hs2] at this
      exact this
theorem canon_low {s : Nat} (h : s ≤ inf) : canonU s = s := by
  have h1 := (low_word h).1
  unfold canonU
  by_cases h0 : s = 0
  · rw [if_pos (by omega)]; exact h0.symm
  · rw [if_neg (by omega), if_neg (by omega)]
theorem cmp_pos {s m : Nat} : 0 < cmpU s m ↔ keyU (canonU m) < keyU (canonU s) := by
  unfold cmpU
  by_cases h1 : keyU (canonU s) < keyU (canonU m)
  · rw [if_pos h1]; omega
  · rw [if_neg h1]
    by_cases h2 : keyU (canonU m) < keyU (canonU s)
    · rw [if_pos h2]; omega
    · rw [if_neg h2]; omega
theorem susp_mono {s t m : Nat} (hs : s ≤ t) (ht : t ≤ inf) (h : 0 < cmpU s m) : 0 < cmpU t m := by
  rw [cmp_pos] at *
  rw [canon_low ht]
  rw [canon_low (Nat.le_trans hs ht)] at h
  have h1 := inf_lt_top
  unfold keyU at *
  rw [if_neg (show ¬ top ≤ t by omega)]
  rw [if_neg (show ¬ top ≤ s by omega)] at h
  omega
theorem not_less {s t : Nat} (hs : s ≤ t) (ht : t ≤ inf) : (FloatKind.f64.format.order t s == some .lt) = false := by
  obtain ⟨s1, s2, _⟩ := low_word (Nat.le_trans hs ht)
  obtain ⟨t1, t2, _⟩ := low_word ht
  have : FloatKind.f64.format.order t s = some (compare (pos t) (pos s)) := order_num (by omega) (by omega)
  rw [this]
  have e : ¬ compare (pos t) (pos s) = .lt := by
    rw [Int.compare_eq_lt]
    unfold pos
    rw [s2, t2, s1, t1]
    simp; exact hs
  cases hq : compare (pos t) (pos s)
  · exact absurd hq e
  · rfl
  · rfl
theorem not_nan {s : Nat} (hs : s ≤ inf) : (FloatKind.f64.format.order s s != some .eq) = false := self_num (by rw [(low_word hs).1]; exact hs)
end Go.Proofs.Ytlifioeeooclfaa.Rl
