/- Counts of nodes, plain, and the contracts of quorum.Count's methods. Conditions: a count that quorum.New has made. -/
import Derived.Test.YteocngcojijnkaaQL
import Derived.Test.YteocngcojijnkaaK1
namespace Go.Proofs.Yteocngcojijnkaa.Cn
open Go.ChangeShapes Go.WideShapes Go.ChangeAt Go.RowKit Go.Proofs.Yteocngcojijnkaa.QO Go.Proofs.Yteocngcojijnkaa.QE Go.Proofs.Yteocngcojijnkaa.Lex Go.Proofs.Yteocngcojijnkaa.Cm Go.Proofs.Yteocngcojijnkaa.Ql
open Go.Proofs.YteocngcojijnkaaW.PrintWords Go.Proofs.YteocngcojijnkaaW.PrintLast Go.Proofs.YteocngcojijnkaaW.PrintMore
set_option linter.unusedVariables false
set_option linter.unusedSimpArgs false
/-- which are marked -/
def marks (l seen : List Int) : List Bool := l.map fun y => decide (y ∈ seen)
def gotL : List Int → List Bool → List Int
  | x :: l, b :: bs => if b then x :: gotL l bs else gotL l bs
  | _, _ => []
theorem gotL_marks (l seen : List Int) : gotL l (marks l seen) = keep seen l := by
  induction l with
  | nil => rfl
  | cons x l ih =>
    show (if decide (x ∈ seen) then x :: gotL l (marks l seen) else gotL l (marks l seen)) = _
    rw [ih]
    unfold keep
    rw [List.filter_cons]
theorem gotL_snoc : ∀ (l : List Int) (bs : List Bool) (x : Int) (b : Bool), l.length = bs.length → gotL (l ++ [x]) (bs ++ [b]) = gotL l bs ++ (if b then [x] else [])
  | [], [], x, b, _ => by cases b <;> rfl
  | y :: l, c :: bs, x, b, h => by
    have ih := gotL_snoc l bs x b (by simpa using h)
    show (if c then y :: gotL (l ++ [x]) (bs ++ [b]) else gotL (l ++ [x]) (bs ++ [b])) = (if c then y :: gotL l bs else gotL l bs) ++ _
    rw [ih]
    cases c <;> rfl
  | [], _ :: _, _, _, h => by simp at h
  | _ :: _, [], _, _, h => by simp at h
theorem gotL_len : ∀ (l : List Int) (bs : List Bool), (gotL l bs).length ≤ l.length
  | [], _ => by unfold gotL; simp
  | _ :: _, [] => by unfold gotL; simp
  | y :: l, c :: bs => by
    have := gotL_len l bs
    unfold gotL
    cases c <;> simp <;> omega
theorem marks_len (l seen : List Int) : (marks l seen).length = l.length := List.length_map ..
theorem dd_whole : ∀ (l out : List Int), (dd out l).length = out.length + l.length → dd out l = out ++ l
  | [], out, _ => by simp [dd]
  | y :: t, out, h => by
    unfold dd at *
    split
    · rename_i hy
      rw [if_pos hy] at h
      have := (dd_len t out).1
      simp only [List.length_cons] at h
      omega
    · rename_i hy
      rw [if_neg hy] at h
      rw [dd_whole t (out ++ [y]) (by simp only [List.length_append, List.length_cons, List.length_nil] at *; omega)]
      simp
theorem once_whole {l : List Int} (h : (once l).length = l.length) : once l = l := by
  have := dd_whole l [] (by simpa [once] using h)
  simpa [once] using this
theorem nodup_of_once {l : List Int} (h : (once l).length = l.length) : l.Nodup := by
  have := once_nodup l
  rwa [once_whole h] at this
theorem got_com {l seen : List Int} (h : (once l).length = l.length) : gotL l (marks l seen) = com l seen := by
  rw [gotL_marks, ← keep_once, once_whole h]
theorem marks_get (l seen : List Int) (j : Nat) (h : j < (marks l seen).length) : (marks l seen)[j] = decide (l[j]'(by rw [marks_len] at h; exact h) ∈ seen) := List.getElem_map ..
/-- one more is marked -/
theorem marks_set {l seen : List Int} {x : Int} (hn : l.Nodup) {i : Nat} (hi : i < l.length) (hx : l[i] = x) : (marks l seen).set i true = marks l (seen ++ [x]) := by
  apply List.ext_getElem
  · rw [List.length_set, marks_len, marks_len]
  · intro j h1 h2
    rw [marks_len] at h2
    rw [List.getElem_set]
    rw [marks_get, marks_get]
    by_cases hij : i = j
    · subst hij
      rw [if_pos rfl]
      symm
      refine decide_eq_true ?_
      rw [hx]; simp
    · rw [if_neg hij]
      refine decide_eq_decide.2 ?_
      rw [List.mem_append, List.mem_singleton]
      constructor
      · exact .inl
      · rintro (h | h)
        · exact h
        · exfalso
          exact hij ((List.getElem_inj hn).1 (hx.trans h.symm))
theorem marks_out {l seen : List Int} {x : Int} (hx : x ∉ l) : marks l seen = marks l (seen ++ [x]) := by
  unfold marks
  apply List.map_congr_left
  intro y hy
  refine decide_eq_decide.2 ?_
  rw [List.mem_append, List.mem_singleton]
  constructor
  · exact .inl
  · rintro (h | h)
    · exact h
    · exact absurd (h ▸ hy) hx
/-- where it stands -/
def IdxIs (l : List Int) (x r : Int) : Prop := (r = -1 ∧ x ∉ l) ∨ ∃ (i : Nat) (h : i < l.length), r = (i : Int) ∧ l[i] = x
theorem idx_l0 (l : List Int) (x : Int) (hl : l.length ≤ 9223372036854775807) : ∀ (n i : Nat), l.length - i = n → i ≤ l.length →
    ∃ r, Since (fun k => slices_Index_int_int.l0 k l x (l.length : Int) (i : Int)) r ∧ ((r = -1 ∧ x ∉ l.drop i) ∨ ∃ (j : Nat) (h : j < l.length), r = (j : Int) ∧ l[j] = x) := by
  intro n
  induction n with
  | zero =>
    intro i hn hi
    have hf : ¬ ((i : Int) < (l.length : Int)) := by omega
    exact ⟨-1, Since.none fun k => by simp only [slices_Index_int_int.l0, if_neg hf], .inl ⟨rfl, by rw [List.drop_eq_nil_of_le (by omega)]; simp⟩⟩
  | succ n ih =>
    intro i hn hi
    have h1 : i < l.length := by omega
    have f1 : (i : Int) < (l.length : Int) := by omega
    have f0 : (0 : Int) ≤ (i : Int) := by omega
    have r1 : rd l (i : Int) = l[i] := by simp [rd, h1]
    obtain ⟨r, hr, hm⟩ := ih (i + 1) (by omega) (by omega)
    have d := List.drop_eq_getElem_cons h1
    by_cases he : x = l[i]
    · exact ⟨i, Since.none fun k => by simp only [slices_Index_int_int.l0, if_pos f1, if_pos f0, r1, if_pos he], .inr ⟨i, h1, rfl, he.symm⟩⟩
    · refine ⟨r, Since.one hr fun k h => ?_, ?_⟩
      · simp only [slices_Index_int_int.l0, if_pos f1, if_pos f0, r1, if_neg he, w_succ i (by omega)]
        exact h
      · rcases hm with ⟨h1, h2⟩ | h
        · exact .inl ⟨h1, by rw [d, List.mem_cons]; exact fun h => h.elim he h2⟩
        · exact .inr h
theorem idx_ev (l : List Int) (x : Int) (hl : l.length ≤ 9223372036854775807) : ∃ r, Since (fun k => slices_Index_int_int.f k l x) r ∧ IdxIs l x r := by
  obtain ⟨r, hr, hm⟩ := idx_l0 l x hl _ 0 rfl (Nat.zero_le _)
  rw [List.drop_zero] at hm
  exact ⟨r, hr, hm⟩
/-- a count, in memory -/
def St (w : World) (base g : Nat) (l seen : List Int) : Prop :=
  ∃ A c b d, w.heap[g]? = some (.cells #[.slice A l.length c, .slice (some ⟨b, 0, none⟩) l.length d] 56 (0, 0)) ∧ base ≤ g ∧
    Kd.R (Kd.int .i64) 3 w base (fun _ => True) (.slice A l.length c) l ∧ Kd.R Kd.bool 4 w base (fun _ => True) (.slice (some ⟨b, 0, none⟩) l.length d) (marks l seen)
theorem St.below {w w1 : World} {base g : Nat} {l seen : List Int} (h : St w base g l seen) (hb : Below w.heap.size w w1) : St w1 base g l seen := by
  obtain ⟨A, c, b, d, h1, h2, h3, h4⟩ := h
  exact ⟨A, c, b, d, blk_below h1 hb, h2, Kd.R_below h3 hb, Kd.R_below h4 hb⟩
theorem ptr_ne (g : Nat) (w : World) : True := trivial
set_option maxHeartbeats 4000000 in
set_option maxRecDepth 100000 in
theorem add_ {w0 w : World} {g : Nat} {l seen : List Int} {x : Int} (h : St w w0.heap.size g l seen) (hb : Below w0.heap.size w0 w) (hn : l.Nodup) :
    Calls Try.prog 21 #[.pointer (some ⟨g, 0, none⟩), .int .i64 x] w fun e w' => e = .returned (.int .i64 (if x ∈ l then 0 else 4)) ∧ St w' w0.heap.size g l (seen ++ [x]) ∧ Below w0.heap.size w0 w' := by
  have HS := Aside0.mk h
  obtain ⟨A, c, b, d, h1, h2, h3, h4⟩ := h
  obtain ⟨_, hc, hr⟩ := Kd.R_reads' h3
  have c0 : w.cell? ⟨g, 0, none⟩ = some (.slice A l.length c) := (blk_cell h1 0).trans rfl
  have c1 : w.cell? ⟨g, 1, none⟩ = some (.slice (some ⟨b, 0, none⟩) l.length d) := (blk_cell h1 1).trans rfl
  have HR := Aside0.mk hr
  have HC := Aside0.mk hc
  have H1 := Aside0.mk h1
  have H3 := Aside0.mk h3
  have H4 := Aside0.mk h4
  have H2 := Aside0.mk h2
  have HB := Aside0.mk hb
  obtain ⟨r, hs, hi⟩ := idx_ev l x hr.2.1
  obtain ⟨K, hK⟩ := hs
  have HK := Aside0.mk (hK K (Nat.le_refl K))
  clear h1 h2 h3 h4 hr hc hb hK
  rcases hi with ⟨rfl, hx⟩ | ⟨i, hi, rfl, hx⟩
  · rw [if_neg hx]
    have HM := Aside0.mk (marks_out (seen := seen) hx)
    clear hx
    go_enter Try.func21, Try.ntmps21
    go_wp2_with fail
    (with_reducible refine (slices_Index_int_int.calls K A c l x _ w HR.out HC.out HK.out).mono ?_)
    rintro e w1 ⟨rfl, hd⟩
    have HS1 := Aside0.mk (HS.out.below hd.below)
    have HB1 := Aside0.mk (below_then HB.out HB.out.size hd.below)
    clear hd
    go_wp2_with fail
    go_ret
    refine ⟨rfl, ?_, HB1.out⟩
    obtain ⟨A, c, b, d, h1, h2, h3, h4⟩ := HS1.out
    exact ⟨A, c, b, d, h1, h2, h3, by rw [← HM.out]; exact h4⟩
  · have hxm : x ∈ l := hx ▸ List.getElem_mem hi
    rw [if_pos hxm]
    have HM := Aside0.mk (marks_set (seen := seen) hn hi hx)
    clear hxm hx
    have t1 : decide ((i : Int) < 0) = false := decide_eq_false (by omega)
    have i0 : (0 : Int) ≤ (i : Int) := by omega
    have i1 : (i : Int) < (l.length : Int) := by omega
    go_enter Try.func21, Try.ntmps21
    go_wp2_with fail
    (with_reducible refine (slices_Index_int_int.calls K A c l x _ w HR.out HC.out HK.out).mono ?_)
    rintro e w1 ⟨rfl, hd⟩
    have H1' := Aside0.mk (blk_below H1.out hd.below)
    have H3' := Aside0.mk (Kd.R_below H3.out hd.below)
    have H4' := Aside0.mk (Kd.R_below H4.out hd.below)
    have HB1 := Aside0.mk (below_then HB.out HB.out.size hd.below)
    replace c0 := pw_cell_below hd.below c0
    replace c1 := pw_cell_below hd.below c1
    obtain ⟨hci, hfi⟩ := Kd.R_cell (d := false) (enc := Value.bool) (h1 := fun _ => rfl) (by rw [marks_len]; exact H4'.out) (i : Int) (by omega) (by rw [marks_len]; exact i1)
    rw [show (i : Int).toNat = i from rfl] at hci hfi
    clear hd
    go_wp2_with fail
    go_ret
    obtain ⟨hp1, hp2⟩ := Kd.R_putg H4'.out (i : Int) true
    rw [show (i : Int).toNat = i from rfl] at hp1 hp2
    have hb2 := Kd.R_base H4'.out b rfl
    refine ⟨rfl, ⟨A, c, b, d, ?_, H2.out, ?_, by rw [← HM.out]; exact hp1⟩, pw_below_grown HB1.out _ HB1.out.size hp2 (fun k hk => by injection hk with hk; omega)⟩
    · obtain ⟨cells, hcb⟩ := own_typed (Kd.R_own H4'.out).choose_spec b rfl
      exact blk_far (p := ⟨b, i, none⟩) H1'.out (blk_ne H1'.out hcb (by decide)) _
    · obtain ⟨cells, hcb⟩ := own_typed (Kd.R_own H4'.out).choose_spec b rfl
      exact Kd.R_set H3'.out hcb (by intro q hq; simp [Kd.int, Kd.scalar] at hq; omega) i _
end Go.Proofs.Yteocngcojijnkaa.Cn
