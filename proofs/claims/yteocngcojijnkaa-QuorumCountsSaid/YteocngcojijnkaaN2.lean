/- Contracts of slices.Clone at ints and of quorum.New. Condition: a list that fits in memory. -/
import Derived.Test.YteocngcojijnkaaN1
import Derived.Lib.SliceRun
import Derived.Deep.RegionLaw
import Derived.Deep.RegionHeld3
import Derived.Deep.OwnRows
namespace Go.Proofs.Yteocngcojijnkaa.Cn
open Go.ChangeShapes Go.WideShapes Go.ChangeAt Go.RowKit Go.Proofs.Yteocngcojijnkaa.QO Go.Proofs.Yteocngcojijnkaa.QE Go.Proofs.Yteocngcojijnkaa.Lex Go.Proofs.Yteocngcojijnkaa.Cm Go.Proofs.Yteocngcojijnkaa.Ql
open Go.Proofs.YteocngcojijnkaaW.PrintWords Go.Proofs.YteocngcojijnkaaW.PrintLast Go.Proofs.YteocngcojijnkaaW.PrintMore
set_option linter.unusedVariables false
set_option linter.unusedSimpArgs false
theorem R_lit0 (W : World) (base : Nat) (hb : base ≤ W.heap.size) : Kd.R (Kd.int .i64) 3 (W.alloc (.cells #[] 3)) base (fun _ => True) (.slice (some ⟨W.heap.size, 0, none⟩) 0 0) [] :=
  Kd.R_of_own (World.ownsRow_made W #[] 0 hb (by unfold maxLen; omega) rfl) (fun _ _ => trivial)
set_option maxHeartbeats 4000000 in
theorem clone_ {A : Option Addr} {c : Nat} {l : List Int} {w : World} (h : Kd.C (Kd.int .i64) w A l.length l) (hl : l.length ≤ 17592186044400) :
    Calls Try.prog 35 #[.slice A l.length c] w fun e w' => ∃ v, e = .returned v ∧ Kd.R (Kd.int .i64) 3 w' w.heap.size (fun _ => True) v l ∧ Below w.heap.size w w' := by
  have hq : ∀ w : World, (binOp .eql 22 (.slice A l.length c) (.slice none 0 0)).run Try.prog w = .ok (.bool A.isNone) w := fun w => Go.Lib.run_eql_slice_nil w _ _ A _ _ _ _ Try.underlying22
  cases A with
  | none =>
    have h0 : l = [] := by
      rcases Nat.eq_zero_or_pos l.length with h0 | h0
      · exact List.length_eq_zero_iff.1 h0
      · obtain ⟨_, e, _⟩ := h.2.2 h0; cases e
    subst h0
    simp only [Option.isNone_none, List.length_nil] at hq
    clear h
    show Calls Try.prog _ #[.slice none 0 c] w _
    go_enter Try.func35, Try.ntmps35
    go_wp2_with fail
    go_ret
    exact ⟨_, rfl, Kd.R_nil _ _ _ _ _, Below.refl _ _⟩
  | some ad =>
    simp only [Option.isNone_some] at hq
    have HT := Aside0.mk (Kd.C_alloc h (.cells #[] 3))
    have HO := Aside0.mk (R_lit0 w w.heap.size (Nat.le_refl _))
    have HB := Aside0.mk (below_alloc (Below.refl w.heap.size w) (.cells #[] 3))
    clear h
    go_enter Try.func35, Try.ntmps35
    go_wp2_with ((with_reducible refine gate_builtin (b := .append) rfl ?_); at_builtin; refine Kd.R_append_rows (Kd.int .i64) (Rr := fun x cs => cs = [.int .i64 x]) (w0 := w) w.heap.size rfl (.tmp 5) (.tmp 6) 22 3 (.int .i64 0) 8 rfl Try.underlying22 info3 rfl (by decide) (by omega) _ [] l (some ad) l.length c (fun _ => True) (fun _ => False) rfl rfl HO.out HT.out (fun _ _ h => h) (fun _ hk => hk.elim) (fun _ _ => trivial) HB.out HB.out.size ?aL ?_; (case aL => simp; omega); intro v1 w1 ho hb hg hat; have HO' := Aside0.mk ho; have HB' := Aside0.mk hb; clear ho hb hg hat)
    go_ret
    exact ⟨_, rfl, HO'.out, HB'.out⟩
theorem clone_n {A : Option Addr} {c : Nat} {l : List Int} {w : World} (h : Kd.C (Kd.int .i64) w A l.length l) (hl : l.length ≤ 17592186044400) :
    Calls Try.prog 35 #[.slice A l.length c] w fun e w' => ∃ B d, e = .returned (.slice B l.length d) ∧ Kd.R (Kd.int .i64) 3 w' w.heap.size (fun _ => True) (.slice B l.length d) l ∧ Below w.heap.size w w' := by
  refine (clone_ h hl).mono ?_
  rintro e w' ⟨v, rfl, ho, hb⟩
  obtain ⟨B, d, rfl⟩ := Kd.R_slice ho
  exact ⟨B, d, rfl, ho, hb⟩
theorem marks_nil (l : List Int) : marks l [] = List.replicate l.length false := by
  unfold marks
  simp [List.map_const']
/-- none but new ones -/
theorem R_made (W : World) (base : Nat) (hb : base ≤ W.heap.size) (l : List Int) (hl : l.length ≤ 17592186044400) : Kd.R Kd.bool 4 (W.alloc (.cells (madeCells #[.bool false] l.length) 4)) base (fun _ => True) (.slice (some ⟨W.heap.size, 0, none⟩) l.length l.length) (marks l []) := by
  rw [marks_nil]
  have h3 := Kd.reps_made (R := fun x cs => cs = [Value.bool x]) (z := .bool false) (size := 1) (z0 := false) rfl (by omega) rfl l.length
  have h2 := World.ownsRow_lit (base := base) (e := 4) (size := 1) W (madeCells #[.bool false] l.length) l.length hb (by unfold maxLen; omega) (by rw [size_madeCells]; omega)
  refine Kd.R_of_own (enc := Value.bool) (h1 := fun _ => rfl) ?_ (fun _ _ => trivial)
  have h4 : (madeCells #[Value.bool false] l.length).toList = encs Value.bool (List.replicate l.length false) := by
    unfold madeCells
    apply List.ext_getElem
    · simp [encs]
    · intro i h1 h2
      simp [encs, Nat.mod_one]
  rw [h4] at h2
  rw [List.length_replicate]
  exact h2
theorem size_alloc' (w : World) (o : Obj) : (w.alloc o).heap.size = w.heap.size + 1 := Array.size_push ..
def NewPost (l : List Int) (w : World) (e : Ending) (w' : World) : Prop :=
  if 0 < l.length ∧ (once l).length = l.length then ∃ g, e = .returned (.tuple #[.pointer (some ⟨g, 0, none⟩), .int .i64 0]) ∧ St w' w.heap.size g l [] ∧ Below w.heap.size w w'
  else e = .returned (.tuple #[.pointer none, .int .i64 2]) ∧ Below w.heap.size w w'
set_option maxHeartbeats 4000000 in
set_option maxRecDepth 100000 in
theorem new_ {A : Option Addr} {c : Nat} {l : List Int} {w : World} (h : Kd.C (Kd.int .i64) w A l.length l) (hc : l.length ≤ c) (hl : l.length ≤ 17592186044400) :
    Calls Try.prog 20 #[.slice A l.length c] w (NewPost l w) := by
  have HR := Aside0.mk h
  have HC := Aside0.mk hc
  obtain ⟨K, hK⟩ := once_ev l (by omega)
  have HK := Aside0.mk (hK K (Nat.le_refl K))
  have hle := once_len l
  clear h hc hK
  by_cases h0 : 0 < l.length
  · have t1 : ((l.length : Int) == 0) = false := beq_eq_false_iff_ne.2 (by omega)
    by_cases h1 : (once l).length = l.length
    · have HP : Aside0 (∀ e w', NewPost l w e w' = ∃ g, e = .returned (.tuple #[.pointer (some ⟨g, 0, none⟩), .int .i64 0]) ∧ St w' w.heap.size g l [] ∧ Below w.heap.size w w') := ⟨fun e w' => if_pos ⟨h0, h1⟩⟩
      have t2 : decide (((once l).length : Int) < (l.length : Int)) = false := decide_eq_false (by omega)
      have hmk := run_make_row' (P := Try.prog) 54 4 (.bool false) 1 Try.underlying54 (by kernel_rfl) rfl .i64 .i64 l.length (by omega) (by omega)
      go_enter Try.func20, Try.ntmps20
      go_wp2_with fail
      (with_reducible refine (quorum_once.calls K A c l _ w HR.out HC.out HK.out).mono ?_)
      rintro e w1 ⟨v, rfl, hr1, hb⟩
      obtain ⟨A1, c1, rfl⟩ := Kd.R_slice hr1
      have HB1 := Aside0.mk hb
      have HR1 := Aside0.mk (Kd.C_below HR.out hb)
      have hs1 := HB1.out.size
      clear hr1 hb
      go_wp2_with fail
      go_region_with (first
        | (go_at_call 35; (with_reducible refine (clone_n (A := A) (c := c) (l := l) ?b1 ?b2).mono ?_); (case b1 => repeat (first | exact HR1.out | refine Kd.C_alloc ?_ _ | refine Kd.C_drew ?_)); (case b2 => omega); rintro e w2 ⟨B, d, rfl, ho, hb⟩; have h12 : Aside0 (Below w1.heap.size w1 w2) := ⟨below_then (by first | exact below_drew (Below.refl _ _) | exact below_alloc (below_drew (Below.refl _ _)) _ | exact below_drew (below_alloc (Below.refl _ _) _)) (by simp) hb⟩; have HO2 := Aside0.mk (Kd.R_lower (base' := w1.heap.size) ho (by simp)); (first | (have HM : Aside0 (Kd.R Kd.bool 4 w2 w.heap.size (fun _ => True) (.slice (some ⟨w1.heap.size, 0, none⟩) l.length l.length) (marks l [])) := ?nb; (case nb => exact ⟨Kd.R_below (R_made w1.drew w.heap.size hs1 l hl) hb⟩)) | skip); clear ho hb))
      all_goals
        have hs2 := Nat.le_trans hs1 h12.out.size
        go_wp2_with fail
        go_ret2
        rw [HP.out]
        have HO3 := Aside0.mk (Kd.R_lower (base' := w.heap.size) HO2.out hs1)
        first
          | exact ⟨_, rfl, ⟨B, d, w1.heap.size, l.length, blk_new w2 _, hs2, Kd.R_alloc HO3.out _, Kd.R_alloc HM.out _⟩, below_alloc (below_then HB1.out HB1.out.size h12.out) _⟩
          | (refine ⟨_, rfl, ⟨B, d, w2.heap.size, l.length, ?_, by omega, Kd.R_alloc (Kd.R_alloc HO3.out _) _, Kd.R_alloc (R_made w2 w.heap.size hs2 l hl) _⟩, below_alloc (below_alloc (below_then HB1.out HB1.out.size h12.out) _) _⟩; rw [← size_alloc' w2 (.cells (madeCells #[.bool false] l.length) 4)]; exact blk_new _ _)
    · have t2 : decide (((once l).length : Int) < (l.length : Int)) = true := decide_eq_true (by omega)
      have HP : Aside0 (∀ e w', NewPost l w e w' = (e = .returned (.tuple #[.pointer none, .int .i64 2]) ∧ Below w.heap.size w w')) := ⟨fun e w' => if_neg (fun h => h1 h.2)⟩
      go_enter Try.func20, Try.ntmps20
      go_wp2_with fail
      (with_reducible refine (quorum_once.calls K A c l _ w HR.out HC.out HK.out).mono ?_)
      rintro e w1 ⟨v, rfl, hr1, hb⟩
      obtain ⟨A1, c1, rfl⟩ := Kd.R_slice hr1
      have HB1 := Aside0.mk hb
      clear hr1 hb
      go_wp2_with fail
      go_ret2
      rw [HP.out]
      exact ⟨rfl, HB1.out⟩
  · obtain rfl : l = [] := List.length_eq_zero_iff.1 (by omega)
    have HP : Aside0 (∀ e w', NewPost [] w e w' = (e = .returned (.tuple #[.pointer none, .int .i64 2]) ∧ Below w.heap.size w w')) := ⟨fun e w' => if_neg (fun h => h0 h.1)⟩
    clear h0
    show Calls Try.prog _ #[.slice A 0 c] w _
    go_enter Try.func20, Try.ntmps20
    go_wp2_with fail
    go_ret2
    rw [HP.out]
    exact ⟨rfl, Below.refl _ _⟩
end Go.Proofs.Yteocngcojijnkaa.Cn
