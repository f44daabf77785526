/- An entry's bytes are read as it was; cut short, or with any behind, they are none; what is read has these bytes. Plain. Conditions: bytes. -/
import Derived.Test.YthaoiamgkpkcbaaDoorZMsgsTwice16
import Derived.Test.YthaoiamgkpkcbaaDoorZMsgsTwice17
namespace Go.Proofs.YthaoiamgkpkcbaaDoor.Tg
open Go Go.RowKit Go.Proofs.YthaoiamgkpkcbaaDoor.Wrd Go.Proofs.YthaoiamgkpkcbaaDoor.Enc Go.Proofs.YthaoiamgkpkcbaaDoor.EncP Go.Proofs.YthaoiamgkpkcbaaDoor.EncC Go.Proofs.YthaoiamgkpkcbaaDoor.Pk Go.Proofs.YthaoiamgkpkcbaaDoor.Seg
set_option linter.unusedVariables false
set_option linter.unusedSimpArgs false
theorem str_of_bytes (k : ByteArray) : strOfNums (bytesOf k) = k := by
  have h : (strOfNums (bytesOf k)).data.toList = k.data.toList := by
    rw [strOfNums_data]
    unfold bytesOf
    rw [List.map_map]
    conv => rhs; rw [← List.map_id k.data.toList]
    apply List.map_congr_left
    intro b _
    simp
  cases hk : strOfNums (bytesOf k) with
  | mk d =>
    cases k with
    | mk d' =>
      rw [hk] at h
      congr 1
      exact Array.toList_inj.1 h
theorem bytes_of_str {l : List Int} (h : Byte l) : bytesOf (strOfNums l) = l := by
  unfold bytesOf
  rw [strOfNums_data, List.map_map]
  conv => rhs; rw [← List.map_id l]
  apply List.map_congr_left
  intro x hx
  have := h x hx
  simp
  omega
theorem bytesOf_byte (k : ByteArray) : Byte (bytesOf k) := bytesOf_range k
theorem tag_range {a b c : Int} (h : okTag a b c) : (0 ≤ a ∧ a < 1099511627776) ∧ (0 ≤ b ∧ b < 1048576) ∧ (0 ≤ c ∧ c < 1048576) := by unfold okTag at h; omega
theorem wide {n m : Int} (h : 0 ≤ n ∧ n < m) (hm : m ≤ 9223372036854775807) : -9223372036854775808 ≤ n ∧ n ≤ 9223372036854775807 := by omega
section
variable {k : ByteArray} {a b c : Int} {h : Bool} {v : List Int}
theorem entB_byte (hv : Byte v) : Byte (entB k a b c h v) := by
  unfold entB
  refine (rowB_byte (bytesOf_byte k)).append ((numB_byte a).append ((numB_byte b).append ((numB_byte c).append ((truthB_byte h).append ?_))))
  split
  · exact rowB_byte hv
  · exact Byte.nil
/-- an entry, ahead of anything -/
theorem get_whole (ok : okEnt k a b c h v) (r : List Int) : getS ⟨entB k a b c h v ++ r, 0⟩ = (⟨bytesOf k, a, b, c, h, v⟩, ⟨r, 0⟩) := by
  obtain ⟨k1, k2, v1, v2, tg, _⟩ := ok
  obtain ⟨ra, rb, rc⟩ := tag_range tg
  have hk : (bytesOf k).length ≤ 65536 := by rw [bytesOf_len]; omega
  have okk : okEnt (strOfNums (bytesOf k)) a b c h v := by rw [str_of_bytes]; exact ⟨k1, k2, v1, v2, tg, ‹_›⟩
  unfold entB getS
  simp only [List.append_assoc]
  rw [row_whole _ _ hk]
  simp only
  rw [below_whole ra (wide ra (by decide))]
  simp only
  rw [below_whole rb (wide rb (by decide))]
  simp only
  rw [below_whole rc (wide rc (by decide))]
  simp only
  rw [truth_whole]
  simp only
  cases h
  · have hv : v = [] := List.length_eq_zero_iff.1 (v2 rfl)
    subst hv
    simp only [Bool.false_eq_true, if_false, List.nil_append]
    rw [if_pos ⟨trivial, okk⟩]
  · simp only [if_true]
    rw [row_whole _ _ (by omega)]
    simp only
    rw [if_pos ⟨trivial, okk⟩]
/-- a dead reader reads nothing -/
theorem get_dead1 {s : St} {k : List Int} {s1 : St} (h1 : rowS s = (k, s1)) (he : s1.e ≠ 0) : getS s = (En.zero, s1) := by
  unfold getS; rw [h1]
  simp only [belowS_dead he, truthS_dead he, Bool.false_eq_true, if_false]
  rw [if_neg (by rintro ⟨h, _⟩; exact he h), failS_dead he]
theorem get_dead2 {s : St} {k : List Int} {a : Int} {s1 s2 : St} (h1 : rowS s = (k, s1)) (h2 : belowS 1099511627776 s1 = (a, s2)) (he : s2.e ≠ 0) : getS s = (En.zero, s2) := by
  unfold getS; rw [h1]; simp only; rw [h2]
  simp only [belowS_dead he, truthS_dead he, Bool.false_eq_true, if_false]
  rw [if_neg (by rintro ⟨h, _⟩; exact he h), failS_dead he]
theorem get_dead3 {s : St} {k : List Int} {a b : Int} {s1 s2 s3 : St} (h1 : rowS s = (k, s1)) (h2 : belowS 1099511627776 s1 = (a, s2)) (h3 : belowS 1048576 s2 = (b, s3)) (he : s3.e ≠ 0) : getS s = (En.zero, s3) := by
  unfold getS; rw [h1]; simp only; rw [h2]; simp only; rw [h3]
  simp only [belowS_dead he, truthS_dead he, Bool.false_eq_true, if_false]
  rw [if_neg (by rintro ⟨h, _⟩; exact he h), failS_dead he]
theorem get_dead4 {s : St} {k : List Int} {a b c : Int} {s1 s2 s3 s4 : St} (h1 : rowS s = (k, s1)) (h2 : belowS 1099511627776 s1 = (a, s2)) (h3 : belowS 1048576 s2 = (b, s3)) (h4 : belowS 1048576 s3 = (c, s4)) (he : s4.e ≠ 0) : getS s = (En.zero, s4) := by
  unfold getS; rw [h1]; simp only; rw [h2]; simp only; rw [h3]; simp only; rw [h4]
  simp only [truthS_dead he, Bool.false_eq_true, if_false]
  rw [if_neg (by rintro ⟨h, _⟩; exact he h), failS_dead he]
theorem get_dead5 {s : St} {k : List Int} {a b c : Int} {t : Bool} {s1 s2 s3 s4 s5 : St} (h1 : rowS s = (k, s1)) (h2 : belowS 1099511627776 s1 = (a, s2)) (h3 : belowS 1048576 s2 = (b, s3)) (h4 : belowS 1048576 s3 = (c, s4)) (h5 : truthS s4 = (t, s5)) (ht : t = false) (he : s5.e ≠ 0) : getS s = (En.zero, s5) := by
  subst ht
  unfold getS; rw [h1]; simp only; rw [h2]; simp only; rw [h3]; simp only; rw [h4]; simp only; rw [h5]
  simp only [Bool.false_eq_true, if_false]
  rw [if_neg (by rintro ⟨h, _⟩; exact he h), failS_dead he]
theorem get_dead6 {s : St} {k : List Int} {a b c : Int} {v : List Int} {s1 s2 s3 s4 s5 s6 : St} (h1 : rowS s = (k, s1)) (h2 : belowS 1099511627776 s1 = (a, s2)) (h3 : belowS 1048576 s2 = (b, s3)) (h4 : belowS 1048576 s3 = (c, s4)) (h5 : truthS s4 = (true, s5)) (h6 : rowS s5 = (v, s6)) (he : s6.e ≠ 0) : getS s = (En.zero, s6) := by
  unfold getS; rw [h1]; simp only; rw [h2]; simp only; rw [h3]; simp only; rw [h4]; simp only; rw [h5]
  simp only [if_true]
  rw [h6]
  simp only
  rw [if_neg (by rintro ⟨h, _⟩; exact he h), failS_dead he]
theorem take_split {x y : List Int} {q : Nat} (h : ¬ q < x.length) : (x ++ y).take q = x ++ y.take (q - x.length) := by
  conv => lhs; rw [show q = x.length + (q - x.length) from by omega]
  rw [List.take_length_add_append]
theorem take_head {x y : List Int} {q : Nat} (h : q < x.length) : (x ++ y).take q = x.take q := List.take_append_of_le_length (Nat.le_of_lt h)
/-- cut short, something is missing -/
theorem get_cut (ok : okEnt k a b c h v) (q : Nat) (hq : q < (entB k a b c h v).length) : ∃ s, getS ⟨(entB k a b c h v).take q, 0⟩ = (En.zero, s) ∧ s.e = 12 := by
  obtain ⟨k1, k2, v1, v2, tg, _⟩ := ok
  obtain ⟨ra, rb, rc⟩ := tag_range tg
  have hk : (bytesOf k).length ≤ 65536 := by rw [bytesOf_len]; omega
  have n12 : (12 : Int) ≠ 0 := by decide
  unfold entB at hq ⊢
  by_cases q1 : q < (rowB (bytesOf k)).length
  · rw [take_head q1]
    exact ⟨_, get_dead1 (row_cut hk q q1) n12, rfl⟩
  rw [take_split q1]
  rw [List.length_append] at hq
  generalize hq2 : q - (rowB (bytesOf k)).length = q' at *
  have hq' : q' < (numB a ++ (numB b ++ (numB c ++ (truthB h ++ if h = true then rowB v else [])))).length := by omega
  clear hq q1 hq2
  by_cases q1 : q' < (numB a).length
  · rw [take_head q1]
    exact ⟨_, get_dead2 (row_whole _ _ hk) (below_cut q' q1) n12, rfl⟩
  rw [take_split q1]
  rw [List.length_append] at hq'
  generalize hq2 : q' - (numB a).length = q2 at *
  have hq3 : q2 < (numB b ++ (numB c ++ (truthB h ++ if h = true then rowB v else []))).length := by omega
  clear hq' q1 hq2
  by_cases q1 : q2 < (numB b).length
  · rw [take_head q1]
    exact ⟨_, get_dead3 (row_whole _ _ hk) (below_whole ra (wide ra (by decide)) _) (below_cut q2 q1) n12, rfl⟩
  rw [take_split q1]
  rw [List.length_append] at hq3
  generalize hq2 : q2 - (numB b).length = q3 at *
  have hq4 : q3 < (numB c ++ (truthB h ++ if h = true then rowB v else [])).length := by omega
  clear hq3 q1 hq2
  by_cases q1 : q3 < (numB c).length
  · rw [take_head q1]
    exact ⟨_, get_dead4 (row_whole _ _ hk) (below_whole ra (wide ra (by decide)) _) (below_whole rb (wide rb (by decide)) _) (below_cut q3 q1) n12, rfl⟩
  rw [take_split q1]
  rw [List.length_append] at hq4
  generalize hq2 : q3 - (numB c).length = q4 at *
  have hq5 : q4 < (truthB h ++ if h = true then rowB v else []).length := by omega
  clear hq4 q1 hq2
  have htl : (truthB h).length = 1 := by cases h <;> rfl
  by_cases q1 : q4 < (truthB h).length
  · have h0 : q4 = 0 := by omega
    subst h0
    rw [List.take_zero]
    refine ⟨_, get_dead5 (row_whole _ _ hk) (below_whole ra (wide ra (by decide)) _) (below_whole rb (wide rb (by decide)) _) (below_whole rc (wide rc (by decide)) []) truth_cut rfl n12, rfl⟩
  rw [take_split q1]
  rw [List.length_append] at hq5
  generalize hq2 : q4 - (truthB h).length = q5 at *
  cases h
  · simp at hq5; omega
  · simp only [if_true] at hq5 ⊢
    have hq6 : q5 < (rowB v).length := by omega
    exact ⟨_, get_dead6 (row_whole _ _ hk) (below_whole ra (wide ra (by decide)) _) (below_whole rb (wide rb (by decide)) _) (below_whole rc (wide rc (by decide)) _) (truth_whole true _) (row_cut (by omega) q5 hq6) n12, rfl⟩
end
/-- what is read has these bytes -/
theorem get_back {l : List Int} {en : En} {s : St} (hb : Byte l) (h : getS ⟨l, 0⟩ = (en, s)) (he : s.e = 0) : l = entB (strOfNums en.k) en.a en.b en.c en.h en.v ++ s.l ∧ okEnt (strOfNums en.k) en.a en.b en.c en.h en.v := by
  obtain ⟨⟨k, s1⟩, h1⟩ : ∃ r, rowS ⟨l, 0⟩ = r := ⟨_, rfl⟩
  by_cases z1 : s1.e = 0
  · obtain ⟨b1, _⟩ := row_back hb h1 z1
    have hb1 : Byte s1.l := by have := hb.drop (rowB k).length; rw [b1, List.drop_left] at this; exact this
    have hbk : Byte k := by
      intro x hx
      exact hb x (by rw [b1]; unfold rowB; simp [hx])
    obtain ⟨l1, e1⟩ := s1
    simp only at z1 hb1 b1
    subst z1
    obtain ⟨⟨a, s2⟩, h2⟩ : ∃ r, belowS 1099511627776 ⟨l1, 0⟩ = r := ⟨_, rfl⟩
    by_cases z2 : s2.e = 0
    · obtain ⟨b2, _, _⟩ := below_back hb1 h2 z2
      have hb2 : Byte s2.l := by have := hb1.drop (numB a).length; rw [b2, List.drop_left] at this; exact this
      obtain ⟨l2, e2⟩ := s2
      simp only at z2 hb2 b2
      subst z2
      obtain ⟨⟨b, s3⟩, h3⟩ : ∃ r, belowS 1048576 ⟨l2, 0⟩ = r := ⟨_, rfl⟩
      by_cases z3 : s3.e = 0
      · obtain ⟨b3, _, _⟩ := below_back hb2 h3 z3
        have hb3 : Byte s3.l := by have := hb2.drop (numB b).length; rw [b3, List.drop_left] at this; exact this
        obtain ⟨l3, e3⟩ := s3
        simp only at z3 hb3 b3
        subst z3
        obtain ⟨⟨c, s4⟩, h4⟩ : ∃ r, belowS 1048576 ⟨l3, 0⟩ = r := ⟨_, rfl⟩
        by_cases z4 : s4.e = 0
        · obtain ⟨b4, _, _⟩ := below_back hb3 h4 z4
          have hb4 : Byte s4.l := by have := hb3.drop (numB c).length; rw [b4, List.drop_left] at this; exact this
          obtain ⟨l4, e4⟩ := s4
          simp only at z4 hb4 b4
          subst z4
          obtain ⟨⟨t, s5⟩, h5⟩ : ∃ r, truthS ⟨l4, 0⟩ = r := ⟨_, rfl⟩
          by_cases z5 : s5.e = 0
          · have b5 := truth_back hb4 h5 z5
            have hb5 : Byte s5.l := by have := hb4.drop (truthB t).length; rw [b5, List.drop_left] at this; exact this
            obtain ⟨l5, e5⟩ := s5
            simp only at z5 hb5 b5
            subst z5
            have g : getS ⟨l, 0⟩ = (let (v, s6) := if t then rowS ⟨l5, 0⟩ else ([], ⟨l5, 0⟩); if s6.e = 0 ∧ okEnt (strOfNums k) a b c t v then (⟨k, a, b, c, t, v⟩, s6) else (En.zero, failS s6)) := by
              unfold getS; rw [h1]; simp only; rw [h2]; simp only; rw [h3]; simp only; rw [h4]; simp only; rw [h5]
            rw [h] at g
            cases t
            · simp only [Bool.false_eq_true, if_false] at g
              by_cases hk : okEnt (strOfNums k) a b c false []
              · rw [if_pos ⟨trivial, hk⟩] at g
                obtain ⟨rfl, rfl⟩ := Prod.mk.inj g
                refine ⟨?_, hk⟩
                unfold entB
                rw [bytes_of_str hbk, b1, b2, b3, b4, b5]
                simp
              · rw [if_neg (by rintro ⟨_, h⟩; exact hk h)] at g
                obtain ⟨_, rfl⟩ := Prod.mk.inj g
                cases he
            · simp only [if_true] at g
              obtain ⟨⟨v, s6⟩, h6⟩ : ∃ r, rowS ⟨l5, 0⟩ = r := ⟨_, rfl⟩
              rw [h6] at g
              simp only at g
              by_cases hk : s6.e = 0 ∧ okEnt (strOfNums k) a b c true v
              · rw [if_pos hk] at g
                obtain ⟨rfl, rfl⟩ := Prod.mk.inj g
                obtain ⟨b6, _⟩ := row_back hb5 h6 hk.1
                refine ⟨?_, hk.2⟩
                unfold entB
                rw [bytes_of_str hbk, b1, b2, b3, b4, b5, b6]
                simp
              · rw [if_neg hk] at g
                obtain ⟨_, rfl⟩ := Prod.mk.inj g
                exact absurd he (by unfold failS; split <;> simp_all)
          · have ht : t = false := by
              unfold truthS at h5
              rw [if_pos rfl] at h5
              cases l4 with
              | nil => obtain ⟨rfl, _⟩ := Prod.mk.inj h5; rfl
              | cons x r =>
                simp only at h5
                by_cases hx : 1 < x
                · rw [if_pos hx] at h5; exact (Prod.mk.inj h5).1.symm
                · rw [if_neg hx] at h5
                  obtain ⟨_, rfl⟩ := Prod.mk.inj h5
                  exact absurd rfl z5
            rw [get_dead5 h1 h2 h3 h4 h5 ht z5] at h
            obtain ⟨_, rfl⟩ := Prod.mk.inj h
            exact absurd he z5
        · rw [get_dead4 h1 h2 h3 h4 z4] at h
          obtain ⟨_, rfl⟩ := Prod.mk.inj h
          exact absurd he z4
      · rw [get_dead3 h1 h2 h3 z3] at h
        obtain ⟨_, rfl⟩ := Prod.mk.inj h
        exact absurd he z3
    · rw [get_dead2 h1 h2 z2] at h
      obtain ⟨_, rfl⟩ := Prod.mk.inj h
      exact absurd he z2
  · rw [get_dead1 h1 z1] at h
    obtain ⟨_, rfl⟩ := Prod.mk.inj h
    exact absurd he z1
end Go.Proofs.YthaoiamgkpkcbaaDoor.Tg
