/- The reference's Get and Read read what the reader reads. Plain. Conditions: bytes. -/
import Derived.Test.YtbmbnkoggmeanaaZTagsBack26
namespace Go.Proofs.Ytbmbnkoggmeanaa.Tg
open Go.ChangeShapes Go.WideShapes Go.ChangeAt Go.RowKit Go.Proofs.Ytbmbnkoggmeanaa.Pk Go.Proofs.Ytbmbnkoggmeanaa.EncC Go.Proofs.Ytbmbnkoggmeanaa.Lex
open Go.Proofs.Ytbmbnkoggmeanaa.Hlp Go.Proofs.Ytbmbnkoggmeanaa.Wrd Go.Proofs.YtbmbnkoggmeanaaW.PrintWords Go.Proofs.YtbmbnkoggmeanaaW.PrintLast Go.Proofs.YtbmbnkoggmeanaaW.PrintMore
set_option linter.unusedVariables false
set_option linter.unusedSimpArgs false
theorem getP_bad {l : List Int} {p : Nat} {n t e : Int} (h : getP l p = (n, t, e)) (he : e ≠ 0) : (peekP (l.drop p)).2.2 = e ∧ n = 0 ∧ t = p := by
  unfold getP at h
  by_cases h0 : (peekP (l.drop p)).2.2 = 0
  · rw [if_pos h0] at h
    simp only [Prod.mk.injEq] at h
    exact absurd h.2.2.symm he
  · rw [if_neg h0] at h
    simp only [Prod.mk.injEq] at h
    exact ⟨h.2.2, h.1.symm, h.2.1.symm⟩
theorem row_ok {l r : List Int} {i j : Nat} (hb : ∀ x ∈ l, 0 ≤ x ∧ x < 256) (h : getRowP l i = (r, (j : Int), 0)) : rowS ⟨l.drop i, 0⟩ = (r, ⟨l.drop j, 0⟩) := by
  unfold getRowP at h
  by_cases h0 : (getP l i).2.2 = 0
  · rw [if_pos h0] at h
    by_cases h1 : 0 ≤ (getP l i).1 ∧ (getP l i).1 ≤ 65536
    · rw [if_pos h1] at h
      by_cases h2 : (l.length : Int) - (getP l i).2.1 < (getP l i).1
      · rw [if_pos h2] at h; simp at h
      · rw [if_neg h2] at h
        simp only [Prod.mk.injEq] at h
        have hq : getP l i = ((getP l i).1, (getP l i).2.1, 0) := by rw [← h0]
        obtain ⟨k, hk, e, k1, k2, k3⟩ := getP_ok hq hb
        obtain ⟨m, hm⟩ := Int.eq_ofNat_of_zero_le h1.1
        rw [hm] at hk h2 h1
        rw [e] at h2
        have hjm : j = i + k + m := by have := h.2.1; rw [e, hm] at this; omega
        rw [rowS_ok hk (by omega) (by rw [List.length_drop]; omega), List.drop_drop, List.drop_drop, ← h.1, e, hm]
        rw [hjm, Int.toNat_natCast, show ((i : Int) + (k : Int)).toNat = i + k from by omega, Nat.add_assoc]
    · rw [if_neg h1] at h; simp at h
  · rw [if_neg h0] at h
    simp only [Prod.mk.injEq] at h
    exact absurd h.2.2 h0
theorem row_bad {l r : List Int} {i : Nat} {t e : Int} (hb : ∀ x ∈ l, 0 ≤ x ∧ x < 256) (h : getRowP l i = (r, t, e)) (he : e ≠ 0) : rowS ⟨l.drop i, 0⟩ = ([], ⟨l.drop i, e⟩) := by
  unfold getRowP at h
  by_cases h0 : (getP l i).2.2 = 0
  · rw [if_pos h0] at h
    have hq : getP l i = ((getP l i).1, (getP l i).2.1, 0) := by rw [← h0]
    obtain ⟨k, hk, e1, k1, k2, k3⟩ := getP_ok hq hb
    by_cases h1 : 0 ≤ (getP l i).1 ∧ (getP l i).1 ≤ 65536
    · rw [if_pos h1] at h
      by_cases h2 : (l.length : Int) - (getP l i).2.1 < (getP l i).1
      · rw [if_pos h2] at h
        simp only [Prod.mk.injEq] at h
        rw [rowS_short hk h1 (by rw [List.length_drop]; omega), h.2.2]
      · rw [if_neg h2] at h
        simp only [Prod.mk.injEq] at h
        exact absurd h.2.2.symm he
    · rw [if_neg h1] at h
      simp only [Prod.mk.injEq] at h
      rw [rowS_out hk h1, h.2.2]
  · rw [if_neg h0] at h
    simp only [Prod.mk.injEq] at h
    have h3 : getP l i = ((getP l i).1, (getP l i).2.1, e) := by rw [← h.2.2]
    obtain ⟨b1, _, _⟩ := getP_bad h3 he
    exact rowS_bad (n := (peekP (l.drop i)).1) (k := (peekP (l.drop i)).2.1) (by rw [← b1]) he
theorem num_ok {l : List Int} {i j : Nat} {m n : Int} (hb : ∀ x ∈ l, 0 ≤ x ∧ x < 256) (h : getNumP l i m = (n, (j : Int), 0)) : belowS (m + 1) ⟨l.drop i, 0⟩ = (n, ⟨l.drop j, 0⟩) := by
  obtain ⟨j', e1, h1, hq, h2, h3⟩ := getNumP_ok h hb
  obtain ⟨k, hk, e, k1, k2, k3⟩ := getP_ok hq hb
  rw [belowS_ok hk ⟨h2, by omega⟩, Int.toNat_natCast, List.drop_drop]
  have : j = i + k := by omega
  rw [this]
theorem num_bad {l : List Int} {i : Nat} {m n t e : Int} (hb : ∀ x ∈ l, 0 ≤ x ∧ x < 256) (h : getNumP l i m = (n, t, e)) (he : e ≠ 0) : belowS (m + 1) ⟨l.drop i, 0⟩ = (0, ⟨l.drop i, e⟩) := by
  unfold getNumP at h
  by_cases h0 : (getP l i).2.2 = 0
  · rw [if_pos h0] at h
    have hq : getP l i = ((getP l i).1, (getP l i).2.1, 0) := by rw [← h0]
    obtain ⟨k, hk, e1, k1, k2, k3⟩ := getP_ok hq hb
    by_cases h1 : 0 ≤ (getP l i).1 ∧ (getP l i).1 ≤ m
    · rw [if_pos h1] at h
      simp only [Prod.mk.injEq] at h
      exact absurd h.2.2.symm he
    · rw [if_neg h1] at h
      simp only [Prod.mk.injEq] at h
      rw [belowS_out hk (by omega), h.2.2]
  · rw [if_neg h0] at h
    simp only [Prod.mk.injEq] at h
    have h3 : getP l i = ((getP l i).1, (getP l i).2.1, e) := by rw [← h.2.2]
    obtain ⟨b1, _, _⟩ := getP_bad h3 he
    exact belowS_bad (n := (peekP (l.drop i)).1) (k := (peekP (l.drop i)).2.1) (by rw [← b1]) he
theorem truth_ok {l : List Int} {i j : Nat} {b : Bool} (h : getTruthP l i = (b, (j : Int), 0)) : truthS ⟨l.drop i, 0⟩ = (b, ⟨l.drop j, 0⟩) := by
  unfold getTruthP at h
  unfold truthS
  cases hs : l.drop i with
  | nil => rw [hs] at h; simp at h
  | cons x r =>
    rw [hs] at h
    simp only at h
    by_cases h1 : 1 < x
    · rw [if_pos h1] at h; simp at h
    · rw [if_neg h1] at h
      simp only [Prod.mk.injEq] at h
      have hj : j = i + 1 := by omega
      have hr : l.drop j = r := by rw [hj, ← List.drop_drop, hs]; rfl
      rw [if_pos rfl]
      simp only [if_neg h1, hr, h.1]
theorem truth_bad {l : List Int} {i : Nat} {b : Bool} {t e : Int} (h : getTruthP l i = (b, t, e)) (he : e ≠ 0) : truthS ⟨l.drop i, 0⟩ = (false, ⟨l.drop i, e⟩) := by
  unfold getTruthP at h
  unfold truthS
  cases hs : l.drop i with
  | nil =>
    rw [hs] at h
    simp only [Prod.mk.injEq] at h
    simp [h.2.2]
  | cons x r =>
    rw [hs] at h
    simp only at h
    by_cases h1 : 1 < x
    · rw [if_pos h1] at h
      simp only [Prod.mk.injEq] at h
      simp [h1, h.2.2]
    · rw [if_neg h1] at h
      simp only [Prod.mk.injEq] at h
      exact absurd h.2.2.symm he
theorem truthS_dead {s : St} (h : s.e ≠ 0) : truthS s = (false, s) := by unfold truthS; rw [if_neg h]
theorem failS_dead {s : St} (h : s.e ≠ 0) : failS s = s := by unfold failS; rw [if_neg h]
/-- both read the same -/
theorem rget_eq {l : List Int} {p : Nat} (hb : ∀ x ∈ l, 0 ≤ x ∧ x < 256) (hp : p ≤ l.length) :
    (∃ (en : En) (j : Nat), rgetS l p = (en, (j : Int), 0) ∧ j ≤ l.length ∧ getS ⟨l.drop p, 0⟩ = (en, ⟨l.drop j, 0⟩)) ∨ (∃ (e : Int) (s : St), e ≠ 0 ∧ rgetS l p = (En.zero, (p : Int), e) ∧ s.e = e ∧ getS ⟨l.drop p, 0⟩ = (En.zero, s)) := by
  obtain ⟨k, t1, e1, hq1⟩ : ∃ x y z, getRowP l p = (x, y, z) := ⟨_, _, _, rfl⟩
  by_cases z1 : e1 = 0
  · subst z1
    obtain ⟨i1, rfl, hi1, _⟩ := getRowP_ok hq1 hb
    have s1 := row_ok hb hq1
    obtain ⟨a, t2, e2, hq2⟩ : ∃ x y z, getNumP l i1 1099511627775 = (x, y, z) := ⟨_, _, _, rfl⟩
    have r1 : rgetS l p = rget2 l p k i1 := by unfold rgetS; rw [hq1]; simp only [if_true, Int.toNat_natCast]
    by_cases z2 : e2 = 0
    · subst z2
      obtain ⟨i2, rfl, hi2, _⟩ := getNumP_ok hq2 hb
      have s2 := num_ok hb hq2
      obtain ⟨b, t3, e3, hq3⟩ : ∃ x y z, getNumP l i2 1048575 = (x, y, z) := ⟨_, _, _, rfl⟩
      have r2 : rgetS l p = rget3 l p k a i2 := by rw [r1]; unfold rget2; rw [hq2]; simp only [if_true, Int.toNat_natCast]
      by_cases z3 : e3 = 0
      · subst z3
        obtain ⟨i3, rfl, hi3, _⟩ := getNumP_ok hq3 hb
        have s3 := num_ok hb hq3
        obtain ⟨c, t4, e4, hq4⟩ : ∃ x y z, getNumP l i3 1048575 = (x, y, z) := ⟨_, _, _, rfl⟩
        have r3 : rgetS l p = rget4 l p k a b i3 := by rw [r2]; unfold rget3; rw [hq3]; simp only [if_true, Int.toNat_natCast]
        by_cases z4 : e4 = 0
        · subst z4
          obtain ⟨i4, rfl, hi4, _⟩ := getNumP_ok hq4 hb
          have s4 := num_ok hb hq4
          obtain ⟨h, t5, e5, hq5⟩ : ∃ x y z, getTruthP l i4 = (x, y, z) := ⟨_, _, _, rfl⟩
          have r4 : rgetS l p = rget5 l p k a b c i4 := by rw [r3]; unfold rget4; rw [hq4]; simp only [if_true, Int.toNat_natCast]
          by_cases z5 : e5 = 0
          · subst z5
            obtain ⟨i5, rfl, hi5⟩ := getTruthP_ok hq5 hi4
            have s5 := truth_ok hq5
            have r5 : rgetS l p = rget6 l p k a b c h i5 := by rw [r4]; unfold rget5; rw [hq5]; simp only [if_true, Int.toNat_natCast]
            have g5 : getS ⟨l.drop p, 0⟩ = (let (v, s6) := if h then rowS ⟨l.drop i5, 0⟩ else ([], ⟨l.drop i5, 0⟩); if s6.e = 0 ∧ okEnt (strOfNums k) a b c h v then (⟨k, a, b, c, h, v⟩, s6) else (En.zero, failS s6)) := by
              simp only [show (1099511627775 : Int) + 1 = 1099511627776 from rfl] at s2
              simp only [show (1048575 : Int) + 1 = 1048576 from rfl] at s3 s4
              unfold getS; rw [s1]; simp only [s2, s3, s4, s5]
            have fin : ∀ (v : List Int) (j : Nat), j ≤ l.length → rgetS l p = rget7 p k a b c h v (j : Int) → getS ⟨l.drop p, 0⟩ = (if (0 : Int) = 0 ∧ okEnt (strOfNums k) a b c h v then (⟨k, a, b, c, h, v⟩, (⟨l.drop j, 0⟩ : St)) else (En.zero, failS ⟨l.drop j, 0⟩)) → (∃ (en : En) (j : Nat), rgetS l p = (en, (j : Int), 0) ∧ j ≤ l.length ∧ getS ⟨l.drop p, 0⟩ = (en, ⟨l.drop j, 0⟩)) ∨ (∃ (e : Int) (s : St), e ≠ 0 ∧ rgetS l p = (En.zero, (p : Int), e) ∧ s.e = e ∧ getS ⟨l.drop p, 0⟩ = (En.zero, s)) := by
              intro v j hj e1 e2
              by_cases hk : okEnt (strOfNums k) a b c h v
              · rw [if_pos ⟨rfl, hk⟩] at e2
                exact .inl ⟨_, j, by rw [e1]; unfold rget7; rw [if_pos hk], hj, e2⟩
              · rw [if_neg (by rintro ⟨_, h⟩; exact hk h)] at e2
                exact .inr ⟨11, _, by decide, by rw [e1]; unfold rget7; rw [if_neg hk], rfl, e2⟩
            cases h
            · refine fin [] i5 hi5 ?_ ?_
              · rw [r5]; unfold rget6; rw [if_neg Bool.false_ne_true]
              · rw [g5]; rfl
            · obtain ⟨v, t6, e6, hq6⟩ : ∃ x y z, getRowP l i5 = (x, y, z) := ⟨_, _, _, rfl⟩
              by_cases z6 : e6 = 0
              · subst z6
                obtain ⟨i6, rfl, hi6, _⟩ := getRowP_ok hq6 hb
                refine fin v i6 hi6 ?_ ?_
                · rw [r5]; unfold rget6; rw [if_pos rfl, hq6]; simp only [if_true]
                · rw [g5]; simp only [if_true, row_ok hb hq6]
              · refine .inr ⟨e6, ⟨l.drop i5, e6⟩, z6, ?_, rfl, ?_⟩
                · rw [r5]; unfold rget6; rw [if_pos rfl, hq6]; simp only [if_neg z6]
                · rw [g5]; simp only [if_true, row_bad hb hq6 z6]
                  rw [if_neg (by rintro ⟨h, _⟩; exact z6 h), failS_dead z6]
          · refine .inr ⟨e5, ⟨l.drop i4, e5⟩, z5, ?_, rfl, ?_⟩
            · rw [r4]; unfold rget5; rw [hq5]; simp only [if_neg z5]
            · have s5 := truth_bad hq5 z5
              simp only [show (1099511627775 : Int) + 1 = 1099511627776 from rfl] at s2
              simp only [show (1048575 : Int) + 1 = 1048576 from rfl] at s3 s4
              unfold getS; rw [s1]; simp only [s2, s3, s4, s5]
              simp only [Bool.false_eq_true, if_false]
              rw [if_neg (by rintro ⟨h, _⟩; exact z5 h), failS_dead z5]
        · refine .inr ⟨e4, ⟨l.drop i3, e4⟩, z4, ?_, rfl, ?_⟩
          · rw [r3]; unfold rget4; rw [hq4]; simp only [if_neg z4]
          · have s4 := num_bad hb hq4 z4
            simp only [show (1099511627775 : Int) + 1 = 1099511627776 from rfl] at s2
            simp only [show (1048575 : Int) + 1 = 1048576 from rfl] at s3 s4
            have d1 := truthS_dead (s := ⟨l.drop i3, e4⟩) z4
            unfold getS; rw [s1]; simp only [s2, s3, s4, d1]
            simp only [Bool.false_eq_true, if_false]
            rw [if_neg (by rintro ⟨h, _⟩; exact z4 h), failS_dead z4]
      · refine .inr ⟨e3, ⟨l.drop i2, e3⟩, z3, ?_, rfl, ?_⟩
        · rw [r2]; unfold rget3; rw [hq3]; simp only [if_neg z3]
        · have s3 := num_bad hb hq3 z3
          simp only [show (1099511627775 : Int) + 1 = 1099511627776 from rfl] at s2
          simp only [show (1048575 : Int) + 1 = 1048576 from rfl] at s3
          have d1 := truthS_dead (s := ⟨l.drop i2, e3⟩) z3
          have d2 := belowS_dead (m := 1048576) (s := ⟨l.drop i2, e3⟩) z3
          unfold getS; rw [s1]; simp only [s2, s3, d1, d2]
          simp only [Bool.false_eq_true, if_false]
          rw [if_neg (by rintro ⟨h, _⟩; exact z3 h), failS_dead z3]
    · refine .inr ⟨e2, ⟨l.drop i1, e2⟩, z2, ?_, rfl, ?_⟩
      · rw [r1]; unfold rget2; rw [hq2]; simp only [if_neg z2]
      · have s2 := num_bad hb hq2 z2
        simp only [show (1099511627775 : Int) + 1 = 1099511627776 from rfl] at s2
        have d1 := truthS_dead (s := ⟨l.drop i1, e2⟩) z2
        have d2 := belowS_dead (m := 1048576) (s := ⟨l.drop i1, e2⟩) z2
        unfold getS; rw [s1]; simp only [s2, d1, d2]
        simp only [Bool.false_eq_true, if_false]
        rw [if_neg (by rintro ⟨h, _⟩; exact z2 h), failS_dead z2]
  · refine .inr ⟨e1, ⟨l.drop p, e1⟩, z1, ?_, rfl, ?_⟩
    · unfold rgetS; rw [hq1]; simp only [if_neg z1]
    · have s1 := row_bad hb hq1 z1
      have d1 := truthS_dead (s := ⟨l.drop p, e1⟩) z1
      have d2 := belowS_dead (m := 1048576) (s := ⟨l.drop p, e1⟩) z1
      have d3 := belowS_dead (m := 1099511627776) (s := ⟨l.drop p, e1⟩) z1
      unfold getS; rw [s1]; simp only [d1, d2, d3]
      simp only [Bool.false_eq_true, if_false]
      rw [if_neg (by rintro ⟨h, _⟩; exact z1 h), failS_dead z1]
end Go.Proofs.Ytbmbnkoggmeanaa.Tg
