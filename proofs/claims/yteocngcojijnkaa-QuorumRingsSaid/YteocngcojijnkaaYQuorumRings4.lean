/- Lists without repeats, what is in both of two, and majorities: plain. And what quorum's functions come to. · The contract of icehouselaw10.known: it returns true. Conditions: none. · Counts of nodes, plain, and the contracts of quorum.Count's methods. Conditions: a count that quorum.New has made. · Contracts of slices.Clone at ints and of quorum.New. Condition: a list that fits in memory. · Contracts of the closure of quorum.Covers and of the library's search over it. Conditions: rows that are read; lists that fit in memory. · slices.IndexFunc and DeleteFunc over the closure of quorum.Lost, on a row of the call's own (printed by genJ2.py out of C2 and C3). · Contracts of quorum.Covers and quorum.Lost over what ring.Lists returns. Conditions: lists that fit in memory. · Contracts of quorum.Covers and quorum.Lost in the print's form. Conditions: none beyond what .f asks. · Written by a program of this session over the kit's print: functions and their contracts. · Written by a program of this session over the kit's print: functions and their contracts. · Written by a program of this session over the kit's print: functions and their contracts. · Written by a program of this session over the kit's print: functions and their contracts. · Written by a program of this session over the kit's print: functions and their contracts. · Written by a program of this session over the kit's print: functions and their contracts. · Written by a program of this session over the kit's print: functions and their contracts. · Written by a program of this session over the kit's print: functions and their contracts. · What the reference's functions of layer 10 come to (over the print QA). · For every list, nodes and number the law QuorumEnough comes to true, plain. No condition. · Plain: of a ring that may be, what quorum.Covers and quorum.Lost come to, and the reference's. Conditions: a ring that may be. · Written by a program of this session over the kit's print: functions and their contracts. -/
import Derived.Test.YteocngcojijnkaaYQuorumRings3
import Derived.Lib.SliceRun
import Derived.Deep.RegionLaw
import Derived.Deep.RegionHeld3
import Derived.Deep.OwnRows
import Derived.Test.YteocngcojijnkaaProg
import Derived.Below
import Derived.Deep.Draws
import Derived.Deep.AppendLies
import Derived.Maps.AppendAt
import Derived.OwnWalk
import Derived.Laws.BytesArg
import Derived.Laws.MakeOwn
import Derived.Laws.OwnMore
import Derived.Tactics
import Derived.Lib.ConvBytes
import Derived.Laws.Slices
import Derived.WalkKit
import Derived.KernelRfl
import Derived.RowKit3
import Derived.Deep.LoopGhost
import Derived.Deep.QuietTactic
import Derived.BigQuiet
import Derived.WideLaws
import Derived.Deep.DeepCutAuto
import Derived.Deep.CutBlock
import Derived.Laws.Rows
import Derived.Lib.AppendStr
import Derived.ArgAppend
import Derived.Laws.IdiomCopy
import Derived.OrdersHeld
import Derived.Laws.BitsLemmas
import Derived.RowKit
import Derived.Test.YteocngcojijnkaaYQuorumRings0
import Derived.Test.YteocngcojijnkaaYQuorumRings2

namespace Go.Proofs.Yteocngcojijnkaa.Ql
open Go.RowKit Go.Proofs.Yteocngcojijnkaa.QO Go.Proofs.Yteocngcojijnkaa.QE Go.Proofs.Yteocngcojijnkaa.Lex Go.Proofs.Yteocngcojijnkaa.Cm
open Go.Proofs.YteocngcojijnkaaW.PrintWords
set_option linter.unusedVariables false
def dd : List Int → List Int → List Int
  | out, [] => out
  | out, x :: t => if x ∈ out then dd out t else dd (out ++ [x]) t
def cm (b : List Int) : List Int → List Int → List Int
  | out, [] => out
  | out, x :: t => if x ∈ b then (if x ∈ out then cm b out t else cm b (out ++ [x]) t) else cm b out t
def once (l : List Int) : List Int := dd [] l
def com (a b : List Int) : List Int := cm b [] a
theorem mem_dd {x : Int} : ∀ (l out : List Int), x ∈ dd out l ↔ x ∈ out ∨ x ∈ l
  | [], out => by simp [dd]
  | y :: t, out => by
    unfold dd
    split
    · rename_i h
      rw [mem_dd t out]
      constructor
      · rintro (h | h)
        · exact .inl h
        · exact .inr (List.mem_cons_of_mem _ h)
      · rintro (h1 | h1)
        · exact .inl h1
        · rcases List.mem_cons.1 h1 with rfl | h1
          · exact .inl h
          · exact .inr h1
    · rw [mem_dd t, List.mem_append, List.mem_singleton, List.mem_cons, or_assoc]
theorem mem_once {x : Int} {l : List Int} : x ∈ once l ↔ x ∈ l := by rw [once, mem_dd]; simp
theorem dd_len : ∀ (l out : List Int), (dd out l).length ≤ out.length + l.length ∧ out.length ≤ (dd out l).length
  | [], out => by simp [dd]
  | y :: t, out => by
    unfold dd
    split
    · have := dd_len t out; simp only [List.length_cons]; omega
    · have := dd_len t (out ++ [y]); simp only [List.length_cons, List.length_append, List.length_nil] at *; omega
theorem once_len (l : List Int) : (once l).length ≤ l.length := by have := (dd_len l []).1; simpa [once] using this
theorem dd_nodup : ∀ (l out : List Int), out.Nodup → (dd out l).Nodup
  | [], out, h => h
  | y :: t, out, h => by
    unfold dd
    split
    · exact dd_nodup t out h
    · rename_i hn
      refine dd_nodup t _ ?_
      rw [List.nodup_append]
      refine ⟨h, by simp, ?_⟩
      intro a ha b hb
      rw [List.mem_singleton.1 hb]
      rintro rfl
      exact hn ha
theorem mem_keep {b m : List Int} {x : Int} : x ∈ keep b m ↔ x ∈ m ∧ x ∈ b := by unfold keep; rw [List.mem_filter, decide_eq_true_iff]
theorem keep_dd (b : List Int) : ∀ (l out : List Int), keep b (dd out l) = cm b (keep b out) l
  | [], out => rfl
  | x :: t, out => by
    unfold dd cm
    by_cases hb : x ∈ b
    · rw [if_pos hb]
      by_cases ho : x ∈ out
      · rw [if_pos ho, if_pos (mem_keep.2 ⟨ho, hb⟩)]; exact keep_dd b t out
      · rw [if_neg ho, if_neg (fun h => ho (mem_keep.1 h).1), keep_dd b t, keep_app]
        congr 1
        simp [keep, hb]
    · rw [if_neg hb]
      by_cases ho : x ∈ out
      · rw [if_pos ho]; exact keep_dd b t out
      · rw [if_neg ho, keep_dd b t, keep_app]
        congr 1
        simp [keep, hb]
theorem keep_once (a b : List Int) : keep b (once a) = com a b := keep_dd b a []
theorem com_self (l : List Int) : com l l = once l := by
  rw [← keep_once]
  exact keep_all fun x hx => mem_once.1 hx
theorem com_len (a b : List Int) : (com a b).length ≤ (once a).length := by rw [← keep_once]; exact List.length_filter_le _ _
def need (n : Int) : Int := if n < 1 then 0 else n / 2 + 1
def enough (l g : List Int) : Bool := decide (0 < (once l).length) && decide ((once l).length < 2 * (com l g).length)
/-! #### the printed functions -/
theorem need_eq (n : Int) (h : n ≤ 9223372036854775807) : quorum_Need.f n = some (need n) := by
  unfold quorum_Need.f need
  by_cases h1 : n < 1
  · rw [if_pos h1, if_pos h1]
  · rw [if_neg h1, if_neg h1, Int.tdiv_eq_ediv_of_nonneg (by omega)]
    congr 1
    unfold wrap64; omega
theorem once_l0 (l : List Int) (hl : l.length < 17592186044416) : ∀ (n i : Nat) (out : List Int), l.length - i = n → i ≤ l.length → out.length ≤ i →
    Since (fun k => quorum_once.l0 k out l (l.length : Int) (i : Int)) (dd out (l.drop i)) := by
  intro n
  induction n with
  | zero =>
    intro i out hn hi ho
    have hf : ¬ ((i : Int) < (l.length : Int)) := by omega
    refine Since.none fun k => ?_
    simp only [quorum_once.l0, if_neg hf]
    rw [List.drop_eq_nil_of_le (by omega)]; rfl
  | succ n ih =>
    intro i out hn hi ho
    have h1 : i < l.length := by omega
    have f1 : (i : Int) < (l.length : Int) := by omega
    have f0 : (0 : Int) ≤ (i : Int) := by omega
    have r1 : rd l (i : Int) = l[i] := by simp [rd, h1]
    have d := List.drop_eq_getElem_cons h1
    have hc := contains_ev out l[i] (by omega)
    by_cases he : l[i] ∈ out
    · have hr := ih (i + 1) out (by omega) (by omega) (by omega)
      refine Since.two hc hr fun k h1 h2 => ?_
      simp only [quorum_once.l0, if_pos f1, if_pos f0, r1]
      rw [h1, Option.bind_some, if_pos (decide_eq_true he), w_succ i (by omega), d, dd, if_pos he]
      exact h2
    · have hr := ih (i + 1) (out ++ [l[i]]) (by omega) (by omega) (by simp; omega)
      refine Since.two hc hr fun k h1 h2 => ?_
      simp only [quorum_once.l0, if_pos f1, if_pos f0, r1]
      rw [h1, Option.bind_some, if_neg (by simp [he]), if_pos (by omega), w_succ i (by omega), d, dd, if_neg he]
      exact h2
theorem once_ev (l : List Int) (hl : l.length < 17592186044416) : Since (fun k => quorum_once.f k l) (once l) := once_l0 l hl _ 0 [] rfl (Nat.zero_le _) (Nat.le_refl _)
theorem com_ev (a b : List Int) (ha : a.length < 17592186044416) : Since (fun k => common.f k a b) (com a b) := by
  refine (once_ev a ha).map fun k h => ?_
  rw [common.f, h, Option.bind_some, keep_once]
theorem enough_ev (l g : List Int) (hl : l.length < 17592186044416) : Since (fun k => quorum_Enough.f k l g) (enough l g) := by
  refine (once_ev l hl).and (com_ev l g hl) fun k h1 h2 => ?_
  have hlen := once_len l
  rw [quorum_Enough.f, h1, Option.bind_some]
  by_cases h0 : 0 < (once l).length
  · rw [if_pos (by omega), h2, Option.bind_some, need_eq _ (by omega), Option.bind_some]
    congr 1
    unfold enough need
    rw [if_neg (by omega), decide_eq_true h0, Bool.true_and]
    exact decide_eq_decide.2 (by omega)
  · rw [if_neg (by omega)]
    unfold enough
    rw [decide_eq_false h0, Bool.false_and]
end Go.Proofs.Yteocngcojijnkaa.Ql
namespace Go.Proofs.Yteocngcojijnkaa.Fk
open Go.ChangeShapes Go.WideShapes Go.ChangeAt Go.RowKit Go.Proofs.Yteocngcojijnkaa.QO Go.Proofs.Yteocngcojijnkaa.QE Go.Proofs.Yteocngcojijnkaa.Lex
open Go.Proofs.Yteocngcojijnkaa.Hlp Go.Proofs.YteocngcojijnkaaW.PrintWords Go.Proofs.YteocngcojijnkaaW.PrintLast Go.Proofs.YteocngcojijnkaaW.PrintMore
set_option linter.unusedVariables false
set_option linter.unusedSimpArgs false
theorem need3 : quorum_Need.f 3 = some 2 := by decide +kernel
theorem need4 : quorum_Need.f 4 = some 3 := by decide +kernel
theorem enough_k : quorum_Enough.f 9 [1, 2, 3] [3, 9, 1] = some true := by decide +kernel
theorem C_three {w : World} {g : Nat} {a b c : Int} (h : w.heap[g]? = some (.cells #[.int .i64 a, .int .i64 b, .int .i64 c] 3 (0, 0))) : Kd.C (Kd.int .i64) w (some ⟨g, 0, none⟩) [a, b, c].length [a, b, c] := C_blk (enc := Value.int .i64) (h1 := fun _ => rfl) (xs := [a, b, c]) (by simp) h rfl
theorem size_alloc (w : World) (o : Obj) : (w.alloc o).heap.size = w.heap.size + 1 := Array.size_push ..
theorem enough_call {w : World} {g g' : Nat} (h : w.heap[g]? = some (.cells #[.int .i64 1, .int .i64 2, .int .i64 3] 3 (0, 0))) (h' : w.heap[g']? = some (.cells #[.int .i64 3, .int .i64 9, .int .i64 1] 3 (0, 0))) :
    Calls Try.prog 13 #[.slice (some ⟨g, 0, none⟩) 3 3, .slice (some ⟨g', 0, none⟩) 3 3] w fun e w' => e = .returned (.bool true) ∧ Below w.heap.size w w' :=
  quorum_Enough.calls 9 _ 3 [1, 2, 3] _ 3 [3, 9, 1] _ _ (C_three h) (by decide) (C_three h') (by decide) enough_k
set_option maxHeartbeats 4000000 in
theorem add_nil (n : Int) (w : World) : Calls Try.prog 21 #[.pointer none, .int .i64 n] w fun e w' => e = .returned (.int .i64 1) ∧ w = w' := by
  go_enter Try.func21, Try.ntmps21
  go_wp2_with fail
  go_ret
  exact ⟨rfl, rfl⟩
set_option maxHeartbeats 4000000 in
set_option maxRecDepth 100000 in
theorem known_ (w : World) : Calls Try.prog 10 #[] w fun e w' => e = .returned (.bool true) ∧ Below w.heap.size w w' := by
  go_enter Try.func10, Try.ntmps10
  go_wp2_with fail
  (with_reducible refine (quorum_Need.calls 3 _ _ need3).mono ?_)
  rintro x w1 ⟨rfl, hb⟩
  have HB := Aside0.mk hb.below
  clear hb
  go_wp2_with fail
  (with_reducible refine (quorum_Need.calls 4 _ _ need4).mono ?_)
  rintro x w2 ⟨rfl, hb⟩
  have HB := Aside0.mk (below_then HB.out HB.out.size hb.below)
  clear hb
  go_wp2_with fail
  have HX := Aside0.mk (blk_alloc (blk_new w2 (.cells #[.int .i64 1, .int .i64 2, .int .i64 3] 3)) (.cells #[.int .i64 3, .int .i64 9, .int .i64 1] 3))
  have HY := Aside0.mk (blk_new (w2.alloc (.cells #[.int .i64 1, .int .i64 2, .int .i64 3] 3)) (.cells #[.int .i64 3, .int .i64 9, .int .i64 1] 3))
  rw [size_alloc] at HY
  have HB := Aside0.mk (below_alloc (below_alloc HB.out (.cells #[.int .i64 1, .int .i64 2, .int .i64 3] 3)) (.cells #[.int .i64 3, .int .i64 9, .int .i64 1] 3))
  (with_reducible refine (enough_call HX.out HY.out).mono ?_)
  rintro x w3 ⟨rfl, hb⟩
  have HB := Aside0.mk (below_then HB.out HB.out.size hb)
  clear hb
  go_wp2_with fail
  (with_reducible refine (add_nil 1 _).mono ?_)
  rintro x w4 ⟨rfl, rfl⟩
  go_wp2_with fail
  go_ret
  exact ⟨rfl, HB.out⟩
/-- for the print -/
def known.f : Option Bool := some true
theorem known.calls (r : Bool) (w : World) (h : known.f = some r) : Calls Try.prog 10 #[] w fun e w' => e = .returned (.bool r) ∧ Below w.heap.size w w' := by
  obtain rfl := Option.some.inj h
  exact known_ w
end Go.Proofs.Yteocngcojijnkaa.Fk
namespace Go.Proofs.Yteocngcojijnkaa.Cn
open Go.ChangeShapes Go.WideShapes Go.ChangeAt Go.RowKit Go.Proofs.Yteocngcojijnkaa.QO Go.Proofs.Yteocngcojijnkaa.QE Go.Proofs.Yteocngcojijnkaa.Lex Go.Proofs.Yteocngcojijnkaa.Cm Go.Proofs.Yteocngcojijnkaa.Ql
open Go.Proofs.YteocngcojijnkaaW.PrintWords Go.Proofs.YteocngcojijnkaaW.PrintLast Go.Proofs.YteocngcojijnkaaW.PrintMore
set_option linter.unusedVariables false
set_option linter.unusedSimpArgs false
/-- which are marked -/
def marks (l seen : List Int) : List Bool := l.map fun y => decide (y ∈ seen)
/-- a count, in memory -/
def St (w : World) (base g : Nat) (l seen : List Int) : Prop :=
  ∃ A c b d, w.heap[g]? = some (.cells #[.slice A l.length c, .slice (some ⟨b, 0, none⟩) l.length d] 56 (0, 0)) ∧ base ≤ g ∧
    Kd.R (Kd.int .i64) 3 w base (fun _ => True) (.slice A l.length c) l ∧ Kd.R Kd.bool 4 w base (fun _ => True) (.slice (some ⟨b, 0, none⟩) l.length d) (marks l seen)
theorem St.below {w w1 : World} {base g : Nat} {l seen : List Int} (h : St w base g l seen) (hb : Below w.heap.size w w1) : St w1 base g l seen := by
  obtain ⟨A, c, b, d, h1, h2, h3, h4⟩ := h
  exact ⟨A, c, b, d, blk_below h1 hb, h2, Kd.R_below h3 hb, Kd.R_below h4 hb⟩
end Go.Proofs.Yteocngcojijnkaa.Cn
namespace Go.Proofs.Yteocngcojijnkaa.Cn
open Go.ChangeShapes Go.WideShapes Go.ChangeAt Go.RowKit Go.Proofs.Yteocngcojijnkaa.QO Go.Proofs.Yteocngcojijnkaa.QE Go.Proofs.Yteocngcojijnkaa.Lex Go.Proofs.Yteocngcojijnkaa.Cm Go.Proofs.Yteocngcojijnkaa.Ql
open Go.Proofs.YteocngcojijnkaaW.PrintWords Go.Proofs.YteocngcojijnkaaW.PrintLast Go.Proofs.YteocngcojijnkaaW.PrintMore
set_option linter.unusedVariables false
set_option linter.unusedSimpArgs false
theorem R_lit0 (W : World) (base : Nat) (hb : base ≤ W.heap.size) : Kd.R (Kd.int .i64) 3 (W.alloc (.cells #[] 3)) base (fun _ => True) (.slice (some ⟨W.heap.size, 0, none⟩) 0 0) [] :=
  Kd.R_of_own (World.ownsRow_made W #[] 0 hb (by unfold maxLen; omega) rfl) (fun _ _ => trivial)
set_option maxHeartbeats 4000000 in
theorem clone_ {A : Option Addr} {c : Nat} {l : List Int} {w : World} (h : Kd.C (Kd.int .i64) w A l.length l) (hl : l.length ≤ 17592186044400) :
    Calls Try.prog 35 #[.slice A l.length c] w fun e w' => ∃ v, e = .returned v ∧ Kd.R (Kd.int .i64) 3 w' w.heap.size (fun _ => True) v l ∧ Below w.heap.size w w' := by
  have hq : ∀ w : World, (binOp .eql 22 (.slice A l.length c) (.slice none 0 0)).run Try.prog w = .ok (.bool A.isNone) w := fun w => Go.Lib.run_eql_slice_nil w _ _ A _ _ _ _ Try.underlying22
  cases A with
  | none =>
    have h0 : l = [] := by
      rcases Nat.eq_zero_or_pos l.length with h0 | h0
      · exact List.length_eq_zero_iff.1 h0
      · obtain ⟨_, e, _⟩ := h.2.2 h0; cases e
    subst h0
    simp only [Option.isNone_none, List.length_nil] at hq
    clear h
    show Calls Try.prog _ #[.slice none 0 c] w _
    go_enter Try.func35, Try.ntmps35
    go_wp2_with fail
    go_ret
    exact ⟨_, rfl, Kd.R_nil _ _ _ _ _, Below.refl _ _⟩
  | some ad =>
    simp only [Option.isNone_some] at hq
    have HT := Aside0.mk (Kd.C_alloc h (.cells #[] 3))
    have HO := Aside0.mk (R_lit0 w w.heap.size (Nat.le_refl _))
    have HB := Aside0.mk (below_alloc (Below.refl w.heap.size w) (.cells #[] 3))
    clear h
    go_enter Try.func35, Try.ntmps35
    go_wp2_with ((with_reducible refine gate_builtin (b := .append) rfl ?_); at_builtin; refine Kd.R_append_rows (Kd.int .i64) (Rr := fun x cs => cs = [.int .i64 x]) (w0 := w) w.heap.size rfl (.tmp 5) (.tmp 6) 22 3 (.int .i64 0) 8 rfl Try.underlying22 info3 rfl (by decide) (by omega) _ [] l (some ad) l.length c (fun _ => True) (fun _ => False) rfl rfl HO.out HT.out (fun _ _ h => h) (fun _ hk => hk.elim) (fun _ _ => trivial) HB.out HB.out.size ?aL ?_; (case aL => simp; omega); intro v1 w1 ho hb hg hat; have HO' := Aside0.mk ho; have HB' := Aside0.mk hb; clear ho hb hg hat)
    go_ret
    exact ⟨_, rfl, HO'.out, HB'.out⟩
theorem clone_n {A : Option Addr} {c : Nat} {l : List Int} {w : World} (h : Kd.C (Kd.int .i64) w A l.length l) (hl : l.length ≤ 17592186044400) :
    Calls Try.prog 35 #[.slice A l.length c] w fun e w' => ∃ B d, e = .returned (.slice B l.length d) ∧ Kd.R (Kd.int .i64) 3 w' w.heap.size (fun _ => True) (.slice B l.length d) l ∧ Below w.heap.size w w' := by
  refine (clone_ h hl).mono ?_
  rintro e w' ⟨v, rfl, ho, hb⟩
  obtain ⟨B, d, rfl⟩ := Kd.R_slice ho
  exact ⟨B, d, rfl, ho, hb⟩
end Go.Proofs.Yteocngcojijnkaa.Cn
namespace Go.Proofs.Yteocngcojijnkaa.Cv
open Go.ChangeShapes Go.WideShapes Go.ChangeAt Go.RowKit Go.Proofs.Yteocngcojijnkaa.QO Go.Proofs.Yteocngcojijnkaa.QE Go.Proofs.Yteocngcojijnkaa.Lex Go.Proofs.Yteocngcojijnkaa.Cm Go.Proofs.Yteocngcojijnkaa.Ql
open Go.Proofs.YteocngcojijnkaaW.PrintWords Go.Proofs.YteocngcojijnkaaW.PrintLast Go.Proofs.YteocngcojijnkaaW.PrintMore
set_option linter.unusedVariables false
set_option linter.unusedSimpArgs false
abbrev kL : Kd (List Int) := Kd.slice 3 (Kd.int .i64)
theorem C_rowI {w : World} {A : Option Addr} {l : List (List Int)} (h : kL.C w A l.length l) (k : Nat) (hk : k < l.length) :
    ∃ ad A0 c0, A = some ad ∧ w.cell? (ad.add k) = some (.slice A0 l[k].length c0) ∧ l[k].length ≤ c0 ∧ (Kd.int .i64).C w A0 l[k].length l[k] := by
  obtain ⟨ad, c, e, _, hK, hc0⟩ := Kd.C_get h ([] : List Int) (k : Int) (by omega) (by omega)
  have hg : l.getD (k : Int).toNat [] = l[k] := by rw [show (k : Int).toNat = k from rfl]; simp [hk]
  rw [hg] at hK
  obtain ⟨A0, c0, rfl, l0, g0⟩ := hK
  have hq := hc0 0 _ rfl
  rw [show kL.sz = 1 from rfl, Nat.mul_one, Nat.add_zero] at hq
  exact ⟨ad, A0, c0, e, hq, l0, g0⟩
set_option maxHeartbeats 4000000 in
set_option maxRecDepth 100000 in
theorem clo_ {w : World} {g : Nat} {A : Option Addr} {c : Nat} {got : List Int} {A1 : Option Addr} {c1 : Nat} {l : List Int} (hg : w.heap[g]? = some (.cells #[.slice A got.length c] 22 (0, 0))) (hr : Kd.C (Kd.int .i64) w A got.length got) (hc : got.length ≤ c)
    (hr1 : Kd.C (Kd.int .i64) w A1 l.length l) (hc1 : l.length ≤ c1) (hl : l.length < 17592186044416) :
    Calls Try.prog 39 #[.slice A1 l.length c1, .pointer (some ⟨g, 0, none⟩)] w fun e w' => e = .returned (.bool (!enough l got)) ∧ Below w.heap.size w w' := by
  have h0 : w.cell? ⟨g, 0, none⟩ = some (.slice A got.length c) := (blk_cell hg 0).trans rfl
  have HR := Aside0.mk hr
  have HR1 := Aside0.mk hr1
  obtain ⟨K, hK⟩ := enough_ev l got hl
  have HK := Aside0.mk (hK K (Nat.le_refl K))
  have HC := Aside0.mk hc
  have HC1 := Aside0.mk hc1
  clear hr hg hK hc hr1 hc1
  go_enter Try.func39, Try.ntmps39
  go_wp2_with fail
  (with_reducible refine (quorum_Enough.calls K A1 c1 l A c got _ w HR1.out HC1.out HR.out HC.out HK.out).mono ?_)
  rintro e w1 ⟨rfl, hd⟩
  have HD := Aside0.mk hd
  clear hd
  go_wp2_with fail
  go_ret
  exact ⟨rfl, HD.out⟩
/-- the first list of which there are not enough, or -1 -/
def idxQ (got : List Int) (L : List (List Int)) (r : Int) : Prop := (r = -1 ∧ ∀ x ∈ L, enough x got = true) ∨ ∃ (i : Nat) (h : i < L.length), r = (i : Int) ∧ enough L[i] got = false
set_option maxHeartbeats 4000000 in
set_option maxRecDepth 100000 in
theorem index_ {w : World} {g : Nat} {A : Option Addr} {c : Nat} {got : List Int} {A1 : Option Addr} {c1 : Nat} {L : List (List Int)} (hg : w.heap[g]? = some (.cells #[.slice A got.length c] 22 (0, 0))) (hr : Kd.C (Kd.int .i64) w A got.length got) (hc : got.length ≤ c)
    (hr1 : kL.C w A1 L.length L) (hc1 : L.length ≤ c1) (hL : ∀ x ∈ L, x.length < 17592186044416) :
    Calls Try.prog 46 #[.slice A1 L.length c1, .func (.func 39) #[] #[.pointer (some ⟨g, 0, none⟩)]] w fun e w' => ∃ r, e = .returned (.int .i64 r) ∧ idxQ got L r ∧ Below w.heap.size w w' := by
  have HG := Aside0.mk hg
  have HR := Aside0.mk hr
  have HC := Aside0.mk hc
  have HR1 := Aside0.mk hr1
  have HL := Aside0.mk hL
  have hm := hr1.2.1
  clear hg hr hc hr1 hL
  go_enter Try.func46, Try.ntmps46
  go_wp2_with fail
  go_loopg [8] L.length (fun n v w' => ∃ k : Nat, k ≤ L.length ∧ v = .int .i64 k ∧ n = L.length - k ∧ (∀ x ∈ L.take k, enough x got = true) ∧ Below w.heap.size w w')
  case atStart => exact ⟨0, Nat.zero_le _, rfl, by simp, by simp, Below.refl _ w⟩
  case round =>
    obtain ⟨k, hk, rfl, rfl, hall, hd⟩ := hrel
    have HD := Aside0.mk hd
    have HAL := Aside0.mk hall
    by_cases hlt : k < L.length
    · obtain ⟨ad, A0, c0, hA, hcell, hc0, hrow⟩ := C_rowI HR1.out k hlt
      subst hA
      have t7 : decide ((k : Int) < (L.length : Int)) = true := decide_eq_true (by omega)
      have hcellr := pw_cell_below HD.out hcell
      have HRow := Aside0.mk (Kd.C_below hrow HD.out)
      have HC0 := Aside0.mk hc0
      have HLL := Aside0.mk (HL.out _ (List.getElem_mem hlt))
      clear hall hd hcell hrow hc0
      obtain ⟨x, hx⟩ : ∃ x, L[k] = x := ⟨_, rfl⟩
      have HX := Aside0.mk hx
      rw [hx] at hcellr HRow HC0 HLL
      clear hx
      have HGr := Aside0.mk (blk_below HG.out HD.out)
      have HRr := Aside0.mk (Kd.C_below HR.out HD.out)
      by_cases hin : enough x got = true
      · have HIN := Aside0.mk hin
        have hv : (!enough x got) = false := by simp [hin]
        have HV := Aside0.mk hv
        clear hin hv
        go_wp2_with fail
        (with_reducible refine (clo_ HGr.out HRr.out HC.out HRow.out HC0.out HLL.out).mono ?_)
        rw [HV.out]
        rintro e w1 ⟨rfl, hd1⟩
        have HD1 := Aside0.mk (below_then HD.out HD.out.size hd1)
        clear hd1
        go_wp2_with fail
        go_roundg (L.length - (k + 1))
        case measure => omega
        case rel => exact ⟨k + 1, by omega, by go_num, rfl, by
          intro y hy
          rw [List.take_succ_eq_append_getElem hlt] at hy
          rcases List.mem_append.1 hy with h | h
          · exact HAL.out y h
          · rw [List.mem_singleton.1 h, HX.out]; exact HIN.out, HD1.out⟩
      · have hin : enough x got = false := by simpa using hin
        have HIN := Aside0.mk hin
        have hv : (!enough x got) = true := by simp [hin]
        have HV := Aside0.mk hv
        clear hin hv
        go_wp2_with fail
        (with_reducible refine (clo_ HGr.out HRr.out HC.out HRow.out HC0.out HLL.out).mono ?_)
        rw [HV.out]
        rintro e w1 ⟨rfl, hd1⟩
        have HD1 := Aside0.mk (below_then HD.out HD.out.size hd1)
        clear hd1
        go_wp2_with fail
        go_ret
        exact ⟨_, rfl, .inr ⟨k, hlt, rfl, by rw [HX.out]; exact HIN.out⟩, HD1.out⟩
    · obtain rfl : k = L.length := by omega
      have t7 : decide ((L.length : Int) < (L.length : Int)) = false := decide_eq_false (by omega)
      rw [List.take_length] at HAL
      clear hall hd
      go_wp2_with fail
      go_ret
      exact ⟨_, rfl, .inl ⟨rfl, HAL.out⟩, HD.out⟩
/-- enough of each -/
def cov (L : List (List Int)) (got : List Int) : Bool := L.all fun x => enough x got
set_option maxHeartbeats 4000000 in
set_option maxRecDepth 100000 in
theorem contains_ {w : World} {g : Nat} {A : Option Addr} {c : Nat} {got : List Int} {A1 : Option Addr} {c1 : Nat} {L : List (List Int)} (hg : w.heap[g]? = some (.cells #[.slice A got.length c] 22 (0, 0))) (hr : Kd.C (Kd.int .i64) w A got.length got) (hc : got.length ≤ c)
    (hr1 : kL.C w A1 L.length L) (hc1 : L.length ≤ c1) (hL : ∀ x ∈ L, x.length < 17592186044416) :
    Calls Try.prog 38 #[.slice A1 L.length c1, .func (.func 39) #[] #[.pointer (some ⟨g, 0, none⟩)]] w fun e w' => e = .returned (.bool (!cov L got)) ∧ Below w.heap.size w w' := by
  have HG := Aside0.mk hg
  have HR := Aside0.mk hr
  have HC := Aside0.mk hc
  have HR1 := Aside0.mk hr1
  have HC1 := Aside0.mk hc1
  have HL := Aside0.mk hL
  clear hg hr hc hr1 hL hc1
  go_enter Try.func38, Try.ntmps38
  go_wp2_with fail
  (with_reducible refine (index_ HG.out HR.out HC.out HR1.out HC1.out HL.out).mono ?_)
  rintro e w1 ⟨r, rfl, hq, hd⟩
  have HD := Aside0.mk hd
  have HQ : Aside0 (decide (0 ≤ r) = !cov L got) := ⟨by
    unfold cov
    rcases hq with ⟨rfl, h⟩ | ⟨i, hi, rfl, h⟩
    · rw [show (L.all fun x => enough x got) = true from List.all_eq_true.2 h]; rfl
    · rw [show (L.all fun x => enough x got) = false from List.all_eq_false.2 ⟨_, List.getElem_mem hi, by rw [h]; decide⟩]
      exact decide_eq_true (by omega)⟩
  clear hd hq
  go_wp2_with fail
  go_ret
  rw [← HQ.out]
  exact ⟨rfl, HD.out⟩
end Go.Proofs.Yteocngcojijnkaa.Cv
namespace Go.Proofs.Yteocngcojijnkaa.Ld
open Go.ChangeShapes Go.WideShapes Go.ChangeAt Go.RowKit Go.Proofs.Yteocngcojijnkaa.QO Go.Proofs.Yteocngcojijnkaa.Lex
open Go.Proofs.Yteocngcojijnkaa.Cm (contains_ev drawn_trans clear_rest)
open Go.Proofs.YteocngcojijnkaaW.PrintWords Go.Proofs.YteocngcojijnkaaW.PrintLast Go.Proofs.YteocngcojijnkaaW.PrintMore
set_option linter.unusedVariables false
set_option linter.unusedSimpArgs false
def Out (l : List Int) (x : Int) : Prop := x ∉ l
instance (l : List Int) (x : Int) : Decidable (Out l x) := inferInstanceAs (Decidable (¬ (x ∈ l)))
theorem clo_ {w : World} {g : Nat} {A : Option Addr} {c : Nat} {l : List Int} (x : Int) (hg : w.heap[g]? = some (.cells #[.slice A l.length c] 22 (0, 0))) (hr : Kd.C (Kd.int .i64) w A l.length l) (hc : l.length ≤ c) :
    Calls Try.prog 40 #[.int .i64 x, .pointer (some ⟨g, 0, none⟩)] w fun e w' => e = .returned (.bool (!decide (Out l x))) ∧ Drawn0 w w' := by
  have h0 : w.cell? ⟨g, 0, none⟩ = some (.slice A l.length c) := (blk_cell hg 0).trans rfl
  have HR := Aside0.mk hr
  obtain ⟨K, hK⟩ := contains_ev l x hr.2.1
  have e : decide (x ∈ l) = !decide (Out l x) := by by_cases h : x ∈ l <;> simp [Out, h]
  rw [← e]
  have HK := Aside0.mk (hK K (Nat.le_refl K))
  have HC := Aside0.mk hc
  clear hr hg hK hc e
  go_enter Try.func40, Try.ntmps40
  go_wp2_with fail
  (with_reducible refine (slices_Contains_int_int.calls K A c l x _ w HR.out HC.out HK.out).mono ?_)
  rintro e w1 ⟨rfl, hd⟩
  go_wp2_with fail
  go_ret
  exact ⟨rfl, hd⟩
/-- the first that is not in l, or -1 -/
def idxP (l m : List Int) (r : Int) : Prop := (r = -1 ∧ ∀ x ∈ m, Out l (x)) ∨ ∃ (i : Nat) (h : i < m.length), r = (i : Int) ∧ ¬ Out l (m[i]) ∧ ∀ x ∈ m.take i, Out l (x)
set_option maxHeartbeats 2000000 in
theorem index_ {w : World} {g : Nat} {A : Option Addr} {c : Nat} {l : List Int} {A1 : Option Addr} {c1 : Nat} {m : List Int} (hg : w.heap[g]? = some (.cells #[.slice A l.length c] 22 (0, 0))) (hr : Kd.C (Kd.int .i64) w A l.length l) (hc : l.length ≤ c)
    (hr1 : Kd.C (Kd.int .i64) w A1 m.length m) (hc1 : m.length ≤ c1) :
    Calls Try.prog 42 #[.slice A1 m.length c1, .func (.func 40) #[] #[.pointer (some ⟨g, 0, none⟩)]] w fun e w' => ∃ r, e = .returned (.int .i64 r) ∧ idxP l m r ∧ Drawn0 w w' := by
  have HG := Aside0.mk hg
  have HR := Aside0.mk hr
  have HC := Aside0.mk hc
  have HR1 := Aside0.mk hr1
  have hm := hr1.2.1
  clear hg hr hc hr1
  go_enter Try.func42, Try.ntmps42
  go_wp2_with fail
  go_loopg [8] m.length (fun n v w' => ∃ k : Nat, k ≤ m.length ∧ v = .int .i64 k ∧ n = m.length - k ∧ (∀ x ∈ m.take k, Out l (x)) ∧ Drawn0 w w')
  case atStart => exact ⟨0, Nat.zero_le _, rfl, by simp, by simp, Drawn0.refl w⟩
  case round =>
    obtain ⟨k, hk, rfl, rfl, hall, hd⟩ := hrel
    have HD := Aside0.mk hd
    have HAL := Aside0.mk hall
    by_cases hlt : k < m.length
    · obtain ⟨b, off, hA, hcl⟩ := Hlp.C_block HR1.out (by omega)
      have hcell := hcl k hlt
      subst hA
      have t7 : decide ((k : Int) < (m.length : Int)) = true := decide_eq_true (by omega)
      have hcellr := pw_cell_below HD.out.below hcell
      clear hcl hall hd hcell
      obtain ⟨x, hx⟩ : ∃ x, m[k] = x := ⟨_, rfl⟩
      have HX := Aside0.mk hx
      rw [hx] at hcellr
      clear hx
      have HGr := Aside0.mk (blk_below HG.out HD.out.below)
      have HRr := Aside0.mk (Kd.C_below HR.out HD.out.below)
      by_cases hin : Out l (x)
      · have HIN := Aside0.mk hin
        have hv : (!decide (Out l (x))) = false := by simp [hin]
        have HV := Aside0.mk hv
        clear hin hv
        go_wp2_with fail
        (with_reducible refine (clo_ x HGr.out HRr.out HC.out).mono ?_)
        rw [HV.out]
        rintro e w1 ⟨rfl, hd1⟩
        have HD1 := Aside0.mk hd1
        clear hd1
        go_wp2_with fail
        go_roundg (m.length - (k + 1))
        case measure => omega
        case rel => exact ⟨k + 1, by omega, by go_num, rfl, by
          intro y hy
          rw [List.take_succ_eq_append_getElem hlt] at hy
          rcases List.mem_append.1 hy with h | h
          · exact HAL.out y h
          · rw [List.mem_singleton.1 h, HX.out]; exact HIN.out, drawn_trans HD.out HD1.out⟩
      · have HIN := Aside0.mk hin
        have hv : (!decide (Out l (x))) = true := by simp [hin]
        have HV := Aside0.mk hv
        clear hin hv
        go_wp2_with fail
        (with_reducible refine (clo_ x HGr.out HRr.out HC.out).mono ?_)
        rw [HV.out]
        rintro e w1 ⟨rfl, hd1⟩
        have HD1 := Aside0.mk hd1
        clear hd1
        go_wp2_with fail
        go_ret
        exact ⟨_, rfl, .inr ⟨k, hlt, rfl, by rw [HX.out]; exact HIN.out, HAL.out⟩, drawn_trans HD.out HD1.out⟩
    · obtain rfl : k = m.length := by omega
      have t7 : decide ((m.length : Int) < (m.length : Int)) = false := decide_eq_false (by omega)
      rw [List.take_length] at HAL
      clear hall hd
      go_wp2_with fail
      go_ret
      exact ⟨_, rfl, .inl ⟨rfl, HAL.out⟩, HD.out⟩
def keep (l m : List Int) : List Int := m.filter (fun x => decide (Out l (x)))
theorem keep_all {l m : List Int} (h : ∀ x ∈ m, Out l (x)) : keep l m = m := by
  unfold keep
  rw [List.filter_eq_self]
  intro x hx
  exact decide_eq_true (h x hx)
theorem keep_app (l m n : List Int) : keep l (m ++ n) = keep l m ++ keep l n := List.filter_append ..
/-- one more is looked at, and kept -/
theorem keep_in {l m ys : List Int} {i j : Nat} (hj : j < m.length) (hij : i ≤ j) (hlen : ys.length = m.length) (h1 : ys.take i = keep l (m.take j)) (h2 : ys.drop j = m.drop j) (hin : Out l (m[j])) :
    (ys.set i m[j]).take (i + 1) = keep l (m.take (j + 1)) ∧ (ys.set i m[j]).drop (j + 1) = m.drop (j + 1) := by
  constructor
  · rw [List.take_succ_eq_append_getElem hj, keep_app, ← h1]
    have hi : i < (ys.set i m[j]).length := by rw [List.length_set]; omega
    rw [List.take_succ_eq_append_getElem hi, List.getElem_set_self, List.take_set_of_le (Nat.le_refl i)]
    congr 1
    simp [keep, hin]
  · rw [List.drop_set_of_lt (by omega)]
    have := congrArg (List.drop 1) h2
    rwa [List.drop_drop, List.drop_drop] at this
theorem keep_out {l m ys : List Int} {i j : Nat} (hj : j < m.length) (h1 : ys.take i = keep l (m.take j)) (h2 : ys.drop j = m.drop j) (hin : ¬ Out l (m[j])) :
    ys.take i = keep l (m.take (j + 1)) ∧ ys.drop (j + 1) = m.drop (j + 1) := by
  constructor
  · rw [List.take_succ_eq_append_getElem hj, keep_app, ← h1]
    simp [keep, hin]
  · have := congrArg (List.drop 1) h2
    rwa [List.drop_drop, List.drop_drop] at this
set_option maxHeartbeats 4000000 in
set_option maxRecDepth 100000 in
theorem delete_ {w0 w : World} {g : Nat} {A : Option Addr} {c : Nat} {l : List Int} {v : Value} {m : List Int} (hg : w0.heap[g]? = some (.cells #[.slice A l.length c] 22 (0, 0))) (hr : Kd.C (Kd.int .i64) w0 A l.length l) (hc : l.length ≤ c)
    (ho : Kd.R (Kd.int .i64) 3 w w0.heap.size (fun _ => True) v m) (hb : Below w0.heap.size w0 w) :
    Calls Try.prog 32 #[v, .func (.func 40) #[] #[.pointer (some ⟨g, 0, none⟩)]] w fun e w' => ∃ v', e = .returned v' ∧ Kd.R (Kd.int .i64) 3 w' w0.heap.size (fun _ => True) v' (keep l m) ∧ Below w0.heap.size w0 w' := by
  obtain ⟨A1, c1, rfl, hc1, hr1⟩ := Kd.R_reads ho
  have HG := Aside0.mk hg
  have HR := Aside0.mk hr
  have HC := Aside0.mk hc
  have HO := Aside0.mk ho
  have HB := Aside0.mk hb
  have HR1 := Aside0.mk hr1
  have HF := Aside0.mk (fun (h : 0 < m.length) => Kd.R_form ho h)
  have HC1 := Aside0.mk hc1
  have hm := hr1.2.1
  clear hg hr hc ho hb hr1 hc1
  go_enter Try.func32, Try.ntmps32
  go_wp2_with fail
  (with_reducible refine (index_ (blk_below HG.out HB.out) (Kd.C_below HR.out HB.out) HC.out HR1.out HC1.out).mono ?_)
  rintro e w1 ⟨r, rfl, hr, hd⟩
  have HO1 := Aside0.mk (Kd.R_below HO.out hd.below)
  have HB1 := Aside0.mk (below_then HB.out HB.out.size hd.below)
  clear hd
  rcases hr with ⟨rfl, hall⟩ | ⟨i, hi, rfl, hni, hpre⟩
  · have HK := Aside0.mk (keep_all hall)
    clear hall
    go_wp2_with fail
    go_ret
    exact ⟨_, rfl, by rw [HK.out]; exact HO1.out, HB1.out⟩
  · have HP := Aside0.mk hpre
    have HN := Aside0.mk hni
    have t1 : ((i : Int) == -1) = false := beq_eq_false_iff_ne.2 (by omega)
    clear hpre hni
    obtain ⟨g2, cap, hv, hg2, _, _⟩ := HF.out (by omega)
    injection hv with hv1 hv2 hv3
    subst hv1 hv3
    have HG2 := Aside0.mk hg2
    clear hg2
    go_wp2_with fail
    go_loopg [5, 6] (m.length - (i + 1)) (fun n vi vj w' => ∃ (ic jc : Nat) (ys : List Int), vi = .int .i64 ic ∧ vj = .int .i64 jc ∧ ic < jc ∧ jc ≤ m.length ∧ n = m.length - jc ∧ Aside0 (ys.length = m.length ∧ ys.take ic = keep l (m.take jc) ∧ ys.drop jc = m.drop jc) ∧ Aside0 (Kd.R (Kd.int .i64) 3 w' w0.heap.size (fun _ => True) (.slice (some ⟨g2, 0, none⟩) m.length c1) ys) ∧ Aside0 (Below w0.heap.size w0 w'))
    case atStart =>
      exact ⟨i, i + 1, m, rfl, by go_num, Nat.lt_succ_self _, hi, rfl, ⟨rfl, (keep_out hi (keep_all HP.out).symm rfl HN.out).1, rfl⟩, HO1, HB1⟩
    case round =>
      obtain ⟨ic, jc, ys, rfl, rfl, hij, hjm, rfl, HY, HOr, HBr⟩ := hrel
      clear HP HN HO1 HB1
      by_cases hlt : jc < m.length
      · have t2 : decide ((jc : Int) < (m.length : Int)) = true := decide_eq_true (by omega)
        have hly := HY.out.1
        have hjy : jc < ys.length := by omega
        have hyx : ys[jc] = m[jc] := by
          have h := HY.out.2.2
          rw [List.drop_eq_getElem_cons hjy, List.drop_eq_getElem_cons hlt] at h
          exact (List.cons.inj h).1
        obtain ⟨hcell0, _⟩ := Kd.R_cell (0 : Int) (by rw [hly]; exact HOr.out) (jc : Int) (by omega) (by omega)
        have hcell : wr.cell? ⟨g2, jc, none⟩ = some (.int .i64 m[jc]) := by
          rw [show (jc : Int).toNat = jc from rfl] at hcell0
          rw [hcell0, ← hyx]
          simp [rdOf, hjy]
        have HGr := Aside0.mk (blk_below HG.out HBr.out)
        have HRr := Aside0.mk (Kd.C_below HR.out HBr.out)
        clear hcell0 hyx hly hjy
        by_cases hin : Out l (m[jc])
        · have HIN := Aside0.mk hin
          have HV := Aside0.mk (show (!decide (Out l (m[jc]))) = false by simp [hin])
          obtain ⟨x, hx⟩ : ∃ x, m[jc] = x := ⟨_, rfl⟩
          have HX := Aside0.mk hx
          rw [hx] at hcell HV
          clear hin hx
          go_wp2_with fail
          (with_reducible refine (clo_ x HGr.out HRr.out HC.out).mono ?_)
          rw [HV.out]
          rintro e w1 ⟨rfl, hd1⟩
          have HO2 := Aside0.mk (Kd.R_below HOr.out hd1.below)
          have HB2 := Aside0.mk (below_then HBr.out HBr.out.size hd1.below)
          clear hd1
          obtain ⟨hci, hfi⟩ := Kd.R_cell (0 : Int) (by rw [HY.out.1]; exact HO2.out) (ic : Int) (by omega) (by have := HY.out.1; omega)
          rw [show (ic : Int).toNat = ic from rfl] at hci hfi
          have t3 : decide ((ic : Int) < (m.length : Int)) = true := decide_eq_true (by omega)
          go_wp2_with fail
          go_roundg (m.length - (jc + 1))
          case measure => omega
          case rel =>
            have hp := Kd.R_putg HO2.out (ic : Int) x
            have hk := keep_in hlt (Nat.le_of_lt hij) HY.out.1 HY.out.2.1 HY.out.2.2 (by rw [HX.out]; rw [HX.out] at HIN; exact HIN.out)
            rw [HX.out] at hk
            exact ⟨ic + 1, jc + 1, ys.set ic x, by go_num, by go_num, by omega, hlt, rfl, ⟨by rw [List.length_set]; exact HY.out.1, hk.1, hk.2⟩, ⟨hp.1⟩, ⟨pw_below_grown HB2.out _ HB2.out.size hp.2 (by intro k hk; injection hk with hk; subst hk; exact HG2.out)⟩⟩
        · have HIN := Aside0.mk hin
          have HV := Aside0.mk (show (!decide (Out l (m[jc]))) = true by simp [hin])
          obtain ⟨x, hx⟩ : ∃ x, m[jc] = x := ⟨_, rfl⟩
          rw [hx] at hcell HV
          clear hin hx
          go_wp2_with fail
          (with_reducible refine (clo_ x HGr.out HRr.out HC.out).mono ?_)
          rw [HV.out]
          rintro e w1 ⟨rfl, hd1⟩
          have HO2 := Aside0.mk (Kd.R_below HOr.out hd1.below)
          have HB2 := Aside0.mk (below_then HBr.out HBr.out.size hd1.below)
          clear hd1
          go_wp2_with fail
          go_roundg (m.length - (jc + 1))
          case measure => omega
          case rel =>
            have hk := keep_out hlt HY.out.2.1 HY.out.2.2 HIN.out
            exact ⟨ic, jc + 1, ys, rfl, by go_num, by omega, hlt, rfl, ⟨HY.out.1, hk.1, hk.2⟩, HO2, HB2⟩
      · obtain rfl : jc = m.length := by omega
        have t2 : decide ((m.length : Int) < (m.length : Int)) = false := decide_eq_false (by omega)
        have hc9 := HC1.out
        have t4 : (c1 == ic) = false := beq_eq_false_iff_ne.2 (by omega)
        have t8 : ¬ (c1 = ic) := by omega
        have t9 : ic ≤ c1 := by omega
        have t10 : decide ((c1 : Int) < (ic : Int)) = false := decide_eq_false (by omega)
        have t5 : decide ((ic : Int) < 0) = false := decide_eq_false (by omega)
        have t6 : decide ((m.length : Int) < (ic : Int)) = false := decide_eq_false (by omega)
        have t7 : decide (m.length < ic) = false := decide_eq_false (by omega)
        have HIJ := Aside0.mk hij
        clear hc9
        have hz : ∀ w, (zeroValue 3).run Try.prog w = .ok (.int .i64 0) w := fun w => by first | rfl | (simp [zeroValue]; rfl)
        have hcl := Go.Lib.run_clear_slice wr 22 3 0 (.int .i64 0) Try.underlying22 hz rfl rfl g2 ic (m.length - ic) (c1 - ic) (by omega) (fun j hj => by
          obtain ⟨h, _⟩ := Kd.R_cell (0 : Int) (by rw [HY.out.1]; exact HOr.out) ((ic + j : Nat) : Int) (by omega) (by have := HY.out.1; omega)
          rw [show ((ic + j : Nat) : Int).toNat = ic + j from rfl] at h
          rw [h]; rfl) (fun j hj => by
          obtain ⟨_, h⟩ := Kd.R_cell (0 : Int) (by rw [HY.out.1]; exact HOr.out) ((ic + j : Nat) : Int) (by omega) (by have := HY.out.1; omega)
          exact h)
        go_wp2_with fail
        go_ret
        obtain ⟨zs, z1, z2, z3, z4⟩ := clear_rest HG2.out (m.length - ic) ic wr ys HOr.out HBr.out HBr.out.size
        have hk := HY.out.2.1
        rw [List.take_length] at hk
        rw [← hk, ← z3]
        exact ⟨_, rfl, Kd.R_take z1 (by rw [z2, HY.out.1]; omega), z4⟩
end Go.Proofs.Yteocngcojijnkaa.Ld
namespace Go.Proofs.Yteocngcojijnkaa.Cv
open Go.ChangeShapes Go.WideShapes Go.ChangeAt Go.RowKit Go.Proofs.Yteocngcojijnkaa.QO Go.Proofs.Yteocngcojijnkaa.QE Go.Proofs.Yteocngcojijnkaa.Lex Go.Proofs.Yteocngcojijnkaa.Ql
open Go.Proofs.YteocngcojijnkaaW.PrintWords Go.Proofs.YteocngcojijnkaaW.PrintLast Go.Proofs.YteocngcojijnkaaW.PrintMore
open Go.Proofs.Yteocngcojijnkaa.Cn (clone_n)
set_option linter.unusedVariables false
set_option linter.unusedSimpArgs false
abbrev TR : TypeId := 42
theorem ring_cells {w : World} {g : Nat} {v : Value} {each keep : Int} (h : w.heap[g]? = some (.cells #[v, .int .i64 each, .int .i64 keep] TR (0, 0))) :
    w.cell? ⟨g, 0, none⟩ = some v ∧ w.cell? ⟨g, 1, none⟩ = some (.int .i64 each) ∧ w.cell? ⟨g, 2, none⟩ = some (.int .i64 keep) := ⟨(blk_cell h 0).trans rfl, (blk_cell h 1).trans rfl, (blk_cell h 2).trans rfl⟩
/-- what ring.Lists returns of a ring -/
def Lst (A : Option Addr) (c : Nat) (l : List Int) (each keep : Int) (L : List (List Int)) (e2 : Int) : Prop := ∀ w : World, Kd.C (Kd.int .i64) w A l.length l → l.length ≤ c →
  Calls Try.prog 37 #[.agg #[.slice A l.length c, .int .i64 each, .int .i64 keep]] w fun e w' => ∃ v : Value, e = .returned (.tuple #[v, .int .i64 e2]) ∧ Kd.S kL 22 w' w.heap.size (fun _ => True) v L ∧ Below w.heap.size w w'
theorem Lst.at {A : Option Addr} {c : Nat} {l : List Int} {each keep : Int} {L : List (List Int)} {e2 : Int} (h : Lst A c l each keep L e2) (w : World) (hr : Kd.C (Kd.int .i64) w A l.length l) (hc : l.length ≤ c) :
    Calls Try.prog 37 #[.agg #[.slice A l.length c, .int .i64 each, .int .i64 keep]] w fun e w' => ∃ v : Value, e = .returned (.tuple #[v, .int .i64 e2]) ∧ Kd.S kL 22 w' w.heap.size (fun _ => True) v L ∧ Below w.heap.size w w' := h w hr hc
set_option maxHeartbeats 4000000 in
set_option maxRecDepth 100000 in
theorem covers_ {A : Option Addr} {c : Nat} {l : List Int} {each keep : Int} {A1 : Option Addr} {c1 : Nat} {got : List Int} {L : List (List Int)} {e2 : Int} {w : World} (H : Lst A c l each keep L e2) (hr : Kd.C (Kd.int .i64) w A l.length l) (hc : l.length ≤ c)
    (hr1 : Kd.C (Kd.int .i64) w A1 got.length got) (hc1 : got.length ≤ c1) (hL : ∀ x ∈ L, x.length < 17592186044416) :
    Calls Try.prog 26 #[.agg #[.slice A l.length c, .int .i64 each, .int .i64 keep], .slice A1 got.length c1] w fun e w' => e = .returned (.tuple #[.bool (if e2 = 0 then cov L got else false), .int .i64 e2]) ∧ Below w.heap.size w w' := by
  have hu := Try.underlying42
  have HR := Aside0.mk (Kd.C_alloc (Kd.C_alloc hr (.cells #[.slice A l.length c, .int .i64 each, .int .i64 keep] TR)) (.cells #[.slice A1 got.length c1] 22))
  have HR1 := Aside0.mk (Kd.C_alloc (Kd.C_alloc hr1 (.cells #[.slice A l.length c, .int .i64 each, .int .i64 keep] TR)) (.cells #[.slice A1 got.length c1] 22))
  have HB := Aside0.mk (below_alloc (below_alloc (Below.refl w.heap.size w) (.cells #[.slice A l.length c, .int .i64 each, .int .i64 keep] TR)) (.cells #[.slice A1 got.length c1] 22))
  have BK := Aside0.mk (blk_alloc (blk_new w (.cells #[.slice A l.length c, .int .i64 each, .int .i64 keep] TR)) (.cells #[.slice A1 got.length c1] 22))
  have BG := Aside0.mk (blk_new (w.alloc (.cells #[.slice A l.length c, .int .i64 each, .int .i64 keep] TR)) (.cells #[.slice A1 got.length c1] 22))
  rw [show (w.alloc (.cells #[.slice A l.length c, .int .i64 each, .int .i64 keep] TR)).heap.size = w.heap.size + 1 from Array.size_push ..] at BG
  have HC := Aside0.mk hc
  have HC1 := Aside0.mk hc1
  have HL := Aside0.mk hL
  have HH := Aside0.mk H
  have hmf : ∀ (fn : Fn) (first cap : Array Value) (w : World), (Instr.makeFunc fn first cap).run Try.prog w = .ok (.func fn first cap) w := fun _ _ _ _ => rfl
  clear hr hr1 hc hc1 hL H
  go_enter Try.func26, Try.ntmps26
  go_upto_region 1 with fail
  generalize hg2 : w.heap.size + 1 = g2 at *
  generalize ((w.alloc (.cells #[.slice A l.length c, .int .i64 each, .int .i64 keep] TR)).alloc (.cells #[.slice A1 got.length c1] 22)) = W at *
  obtain ⟨c0, c1', c2⟩ := ring_cells BK.out
  clear hg2
  go_wp2_with fail
  (with_reducible refine (HH.out.at _ HR.out HC.out).mono ?_)
  rintro e w1 ⟨v, rfl, hv, hb⟩
  obtain ⟨B, d, rfl, hd, hC⟩ := Kd.S_reads hv
  have HB1 := Aside0.mk (below_then HB.out HB.out.size hb)
  have HRG := Aside0.mk (Kd.C_below HR1.out hb)
  have BG1 := Aside0.mk (blk_below BG.out hb)
  have HCL := Aside0.mk hC
  have HD := Aside0.mk hd
  clear hb hv hC hd c0 c1' c2
  by_cases he : e2 = 0
  · subst he
    go_wp2_with fail
    (with_reducible refine (contains_ BG1.out HRG.out HC1.out HCL.out HD.out HL.out).mono ?_)
    rintro e w2 ⟨rfl, hb⟩
    have HB2 := Aside0.mk (below_then HB1.out HB1.out.size hb)
    clear hb
    go_wp2_with fail
    go_ret2
    exact ⟨rfl, HB2.out⟩
  · have t1 : (e2 == 0) = false := beq_eq_false_iff_ne.2 he
    have HE := Aside0.mk he
    go_wp2_with fail
    go_ret2
    exact ⟨rfl, HB1.out⟩
/-- those lists, by number, of which there are not enough -/
def lostF (a : List Int) : Nat → List (List Int) → List Int
  | _, [] => []
  | i, x :: L => if enough x a = true then lostF a (i + 1) L else (i : Int) :: lostF a (i + 1) L
theorem lostF_len (a : List Int) : ∀ (L : List (List Int)) (i : Nat), (lostF a i L).length ≤ L.length
  | [], i => Nat.le_refl _
  | x :: L, i => by
    have := lostF_len a L (i + 1)
    unfold lostF
    split
    · rw [List.length_cons]; omega
    · rw [List.length_cons, List.length_cons]; omega
def lost (L : List (List Int)) (a : List Int) : List Int := lostF a 0 L
set_option maxHeartbeats 8000000 in
set_option maxRecDepth 100000 in
theorem lost_ {A : Option Addr} {c : Nat} {l : List Int} {each keep : Int} {A1 : Option Addr} {c1 : Nat} {got : List Int} {L : List (List Int)} {e2 : Int} {w : World} (H : Lst A c l each keep L e2) (hr : Kd.C (Kd.int .i64) w A l.length l) (hc : l.length ≤ c)
    (hr1 : Kd.C (Kd.int .i64) w A1 got.length got) (hc1 : got.length ≤ c1) (hL : ∀ x ∈ L, x.length < 17592186044416) (hll : L.length ≤ 17592186044400) (hl : l.length ≤ 17592186044400) :
    Calls Try.prog 27 #[.agg #[.slice A l.length c, .int .i64 each, .int .i64 keep], .slice A1 got.length c1] w fun e w' => ∃ v : Value, e = .returned (.tuple #[v, .int .i64 e2]) ∧ Kd.R (Kd.int .i64) 3 w' w.heap.size (fun _ => True) v (if e2 = 0 then lost L (Ld.keep got l) else []) ∧ Below w.heap.size w w' := by
  have hu := Try.underlying42
  have HR := Aside0.mk (Kd.C_alloc (Kd.C_alloc hr (.cells #[.slice A l.length c, .int .i64 each, .int .i64 keep] TR)) (.cells #[.slice A1 got.length c1] 22))
  have HR1 := Aside0.mk (Kd.C_alloc (Kd.C_alloc hr1 (.cells #[.slice A l.length c, .int .i64 each, .int .i64 keep] TR)) (.cells #[.slice A1 got.length c1] 22))
  have HB := Aside0.mk (below_alloc (below_alloc (Below.refl w.heap.size w) (.cells #[.slice A l.length c, .int .i64 each, .int .i64 keep] TR)) (.cells #[.slice A1 got.length c1] 22))
  have BK := Aside0.mk (blk_alloc (blk_new w (.cells #[.slice A l.length c, .int .i64 each, .int .i64 keep] TR)) (.cells #[.slice A1 got.length c1] 22))
  have BG := Aside0.mk (blk_new (w.alloc (.cells #[.slice A l.length c, .int .i64 each, .int .i64 keep] TR)) (.cells #[.slice A1 got.length c1] 22))
  rw [show (w.alloc (.cells #[.slice A l.length c, .int .i64 each, .int .i64 keep] TR)).heap.size = w.heap.size + 1 from Array.size_push ..] at BG
  have HC := Aside0.mk hc
  have HC1 := Aside0.mk hc1
  have HL := Aside0.mk hL
  have HLL := Aside0.mk hll
  have HLn := Aside0.mk hl
  have HH := Aside0.mk H
  have hmf : ∀ (fn : Fn) (first cap : Array Value) (w : World), (Instr.makeFunc fn first cap).run Try.prog w = .ok (.func fn first cap) w := fun _ _ _ _ => rfl
  clear hr hr1 hc hc1 hL H hll hl
  go_enter Try.func27, Try.ntmps27
  go_upto_region 1 with fail
  generalize hg2 : w.heap.size + 1 = g2 at *
  generalize ((w.alloc (.cells #[.slice A l.length c, .int .i64 each, .int .i64 keep] TR)).alloc (.cells #[.slice A1 got.length c1] 22)) = W at *
  obtain ⟨c0, c1', c2⟩ := ring_cells BK.out
  clear hg2
  go_step3
  go_wp2_with fail
  (with_reducible refine (HH.out.at _ HR.out HC.out).mono ?_)
  rintro e w1 ⟨v, rfl, hv, hb⟩
  obtain ⟨B, d, rfl, hd, hC⟩ := Kd.S_reads hv
  have HB1 := Aside0.mk (below_then HB.out HB.out.size hb)
  have HRa := Aside0.mk (Kd.C_below HR.out hb)
  have HRG := Aside0.mk (Kd.C_below HR1.out hb)
  have BG1 := Aside0.mk (blk_below BG.out hb)
  have BK1 := Aside0.mk (blk_below BK.out hb)
  have HCL := Aside0.mk hC
  have HD := Aside0.mk hd
  clear hb hv hC hd c0 c1' c2
  obtain ⟨c0, c1', c2⟩ := ring_cells BK1.out
  by_cases he : e2 = 0
  · subst he
    go_wp2_with fail
    (with_reducible refine (clone_n HRa.out HLn.out).mono ?_)
    rintro e w2 ⟨C, f, rfl, hR, hb⟩
    have HB2 := Aside0.mk hb
    have HO2 := Aside0.mk hR
    clear hb hR c0 c1' c2
    go_wp2_with fail
    (with_reducible refine (Ld.delete_ BG1.out HRG.out HC1.out HO2.out HB2.out).mono ?_)
    rintro e w3 ⟨v3, rfl, hR3, hb3⟩
    obtain ⟨C3, f3, rfl, hf3, hC3⟩ := Kd.R_reads hR3
    have HB3 := Aside0.mk (below_then HB1.out HB1.out.size hb3)
    have HCL3 := Aside0.mk (Kd.C_below HCL.out hb3)
    have HA := Aside0.mk hC3
    have HF := Aside0.mk hf3
    have HZ : Aside0 (Kd.R (Kd.int .i64) 3 w3 w3.heap.size (fun _ => True) (.slice none 0 0) ([] : List Int)) := ⟨Kd.R_nil _ _ _ _ _⟩
    obtain ⟨al, hal⟩ : ∃ al, Ld.keep got l = al := ⟨_, rfl⟩
    have HAl := Aside0.mk hal
    rw [hal] at HA HF ⊢
    clear hb3 hR3 hC3 hf3 hal
    go_wp2_with fail
    go_step3
    go_wp2_with fail
    go_loopg [9, 27] L.length (fun n v9 v27 w' => ∃ (k : Nat) (out : List Int), k ≤ L.length ∧ v27 = .int .i64 k ∧ n = L.length - k ∧ Aside0 (out.length ≤ k ∧ out ++ lostF al k (L.drop k) = lost L al) ∧ Aside0 (Kd.R (Kd.int .i64) 3 w' w3.heap.size (fun _ => True) v9 out) ∧ Aside0 (Below w3.heap.size w3 w'))
    case atStart => exact ⟨0, [], Nat.zero_le _, rfl, rfl, ⟨Nat.le_refl _, rfl⟩, HZ, ⟨Below.refl _ _⟩⟩
    case round =>
      obtain ⟨k, out, hk, rfl, rfl, HS, HO, HBw⟩ := hrel
      have hll := HLL.out
      obtain ⟨Ao, co, eo⟩ := Kd.R_slice HO.out
      subst eo
      by_cases hlt : k < L.length
      · obtain ⟨ad, A0, k0, hA, hcell, hc0, hrow⟩ := C_rowI HCL3.out k hlt
        subst hA
        have t1 : decide ((k : Int) < (L.length : Int)) = true := decide_eq_true (by omega)
        have hcellr := pw_cell_below HBw.out hcell
        have HRow := Aside0.mk (Kd.C_below hrow HBw.out)
        have HAr := Aside0.mk (Kd.C_below HA.out HBw.out)
        have HC0 := Aside0.mk hc0
        have HT : Aside0 (lostF al k (L.drop k) = if enough L[k] al = true then lostF al (k + 1) (L.drop (k + 1)) else (k : Int) :: lostF al (k + 1) (L.drop (k + 1))) := ⟨by rw [List.drop_eq_getElem_cons hlt]; rfl⟩
        obtain ⟨K, hK⟩ := enough_ev L[k] al (HL.out _ (List.getElem_mem hlt))
        have HK := Aside0.mk (hK K (Nat.le_refl K))
        clear hcell hrow hc0 hK
        obtain ⟨x, hx⟩ : ∃ x, L[k] = x := ⟨_, rfl⟩
        rw [hx] at hcellr HRow HC0 HT HK
        clear hx
        go_wp2_with fail
        (with_reducible refine (quorum_Enough.calls K A0 k0 x C3 f3 al _ wr HRow.out HC0.out HAr.out HF.out HK.out).mono ?_)
        rintro e w4 ⟨rfl, hb⟩
        have HW4 := Aside0.mk (below_then HBw.out HBw.out.size hb)
        have HO4 := Aside0.mk (Kd.R_below HO.out hb)
        clear hb hcellr
        obtain ⟨q, hq⟩ : ∃ q, enough x al = q := ⟨_, rfl⟩
        rw [hq] at HT ⊢
        clear hq HK
        cases q with
        | true =>
          rw [if_pos rfl] at HT
          go_wp2_with fail
          go_roundg (L.length - (k + 1))
          case measure => omega
          case rel => exact ⟨k + 1, out, hlt, by go_num, rfl, ⟨Nat.le_succ_of_le HS.out.1, by rw [← HT.out]; exact HS.out.2⟩, HO4, HW4⟩
        | false =>
          rw [if_neg (by decide)] at HT
          go_wp2_with ((with_reducible refine gate_builtin (b := .append) (xs := #[.tmp 35, .tmp 37]) rfl ?_); at_builtin; refine Kd.R_append (Kd.int .i64) (w0 := w3) w3.heap.size rfl (.tmp 35) (.tmp 37) 22 3 (.int .i64 0) 8 rfl Try.underlying22 info3 rfl (by decide) (by omega) _ _ (k : Int) [.int .i64 k] (fun _ => True) (fun _ => False) rfl rfl rfl (fun _ hk => hk.elim) (fun _ _ => trivial) HO4.out HW4.out HW4.out.size ?aL ?_; (case aL => have := HS.out.1; have := HLL.out; omega); intro v5 w5 ho hb hg hat; have HO5 := Aside0.mk ho; have HB5 := Aside0.mk hb; clear ho hb hg hat)
          go_roundg (L.length - (k + 1))
          case measure => omega
          case rel => exact ⟨k + 1, out ++ [(k : Int)], hlt, by go_num, rfl, ⟨by rw [List.length_append]; exact Nat.succ_le_succ HS.out.1, by rw [List.append_assoc, ← HS.out.2, HT.out]; rfl⟩, HO5, HB5⟩
      · obtain rfl : k = L.length := by omega
        have t1 : decide ((L.length : Int) < (L.length : Int)) = false := decide_eq_false (by omega)
        go_wp2_with fail
        rw [Exit.noGoto_ret]
        go_ret2
        refine ⟨_, rfl, ?_, below_then HB3.out HB3.out.size HBw.out⟩
        have e := HS.out.2
        rw [List.drop_length] at e
        rw [if_pos rfl, HAl.out, ← e, lostF, List.append_nil]
        exact Kd.R_lower HO.out HB3.out.size
  · have t1 : (e2 == 0) = false := beq_eq_false_iff_ne.2 he
    have HE := Aside0.mk he
    go_wp2_with fail
    rw [Exit.noGoto_ret]
    go_ret2
    rw [if_neg he]
    exact ⟨_, rfl, Kd.R_nil _ _ _ _ _, HB1.out⟩
end Go.Proofs.Yteocngcojijnkaa.Cv
namespace Go.Proofs.Yteocngcojijnkaa.Cv
open Go.ChangeShapes Go.WideShapes Go.ChangeAt Go.RowKit Go.Proofs.Yteocngcojijnkaa.Lex
open Go.Proofs.YteocngcojijnkaaW.PrintWords Go.Proofs.YteocngcojijnkaaW.PrintLast Go.Proofs.YteocngcojijnkaaW.PrintMore
set_option linter.unusedVariables false
set_option linter.unusedSimpArgs false
theorem lst_of {k : Nat} {A : Option Addr} {c : Nat} {l : List Int} {each keep : Int} {p : List (List Int) × Int} (h : QR.ring_Lists.f k l each keep = some p) : Lst A c l each keep p.1 p.2 := fun w hr hc => QR.ring_Lists.calls k A c l each keep p.1 p.2 w hr hc h
def covers.f (k : Nat) (l : List Int) (each keep : Int) (got : List Int) : Option (Bool × Int) := (QR.ring_Lists.f k l each keep).bind fun p => if ∀ x ∈ p.1, x.length < 17592186044416 then some (if p.2 = 0 then cov p.1 got else false, p.2) else none
theorem covers.mono : ∀ a0 a1 a2 a3 k, LeO (covers.f k a0 a1 a2 a3) (covers.f (k + 1) a0 a1 a2 a3) := fun a0 a1 a2 a3 k => LeO.bind (QR.ring_Lists.mono a0 a1 a2 k) (fun _ => LeO.refl _)
theorem covers.calls (k : Nat) (A0_0 : Option Addr) (c0_0 : Nat) (l0_0 : List Int) (a0_1 : Int) (a0_2 : Int) (A1 : Option Addr) (c1 : Nat) (l1 : List Int) (r1 : Bool) (r2 : Int) (w : World) (hr0_0 : Kd.C (Kd.int .i64) w A0_0 l0_0.length l0_0) (hc0_0 : l0_0.length ≤ c0_0) (hr1 : Kd.C (Kd.int .i64) w A1 l1.length l1) (hc1 : l1.length ≤ c1) (h : covers.f k l0_0 a0_1 a0_2 l1 = some (r1, r2)) :
    Calls Try.prog 26 #[.agg #[.slice A0_0 l0_0.length c0_0, .int .i64 a0_1, .int .i64 a0_2], .slice A1 l1.length c1] w fun e w' => e = .returned (.tuple #[.bool r1, .int .i64 r2]) ∧ Below w.heap.size w w' := by
  obtain ⟨p, hp, h⟩ := Option.bind_eq_some_iff.1 h
  split at h
  · rename_i hL
    have h := Option.some.inj h
    injection h with e1 e2
    subst e1; subst e2
    exact covers_ (lst_of hp) hr0_0 hc0_0 hr1 hc1 hL
  · cases h
def lost.f (k : Nat) (l : List Int) (each keep : Int) (got : List Int) : Option (List Int × Int) := (QR.ring_Lists.f k l each keep).bind fun p => if (∀ x ∈ p.1, x.length < 17592186044416) ∧ p.1.length ≤ 17592186044400 ∧ l.length ≤ 17592186044400 then some (if p.2 = 0 then lost p.1 (Ld.keep got l) else [], p.2) else none
theorem lost.mono : ∀ a0 a1 a2 a3 k, LeO (lost.f k a0 a1 a2 a3) (lost.f (k + 1) a0 a1 a2 a3) := fun a0 a1 a2 a3 k => LeO.bind (QR.ring_Lists.mono a0 a1 a2 k) (fun _ => LeO.refl _)
theorem lost.calls (k : Nat) (A0_0 : Option Addr) (c0_0 : Nat) (l0_0 : List Int) (a0_1 : Int) (a0_2 : Int) (A1 : Option Addr) (c1 : Nat) (l1 : List Int) (r1 : List Int) (r2 : Int) (w : World) (hr0_0 : Kd.C (Kd.int .i64) w A0_0 l0_0.length l0_0) (hc0_0 : l0_0.length ≤ c0_0) (hr1 : Kd.C (Kd.int .i64) w A1 l1.length l1) (hc1 : l1.length ≤ c1) (h : lost.f k l0_0 a0_1 a0_2 l1 = some (r1, r2)) :
    Calls Try.prog 27 #[.agg #[.slice A0_0 l0_0.length c0_0, .int .i64 a0_1, .int .i64 a0_2], .slice A1 l1.length c1] w fun e w' => ∃ v0_ : Value, e = .returned (.tuple #[v0_, .int .i64 r2]) ∧ Kd.R (Kd.int .i64) 3 w' w.heap.size (fun _ => True) v0_ r1 ∧ Below w.heap.size w w' := by
  obtain ⟨p, hp, h⟩ := Option.bind_eq_some_iff.1 h
  split at h
  · rename_i hL
    have h := Option.some.inj h
    injection h with e1 e2
    subst e1; subst e2
    exact lost_ (lst_of hp) hr0_0 hc0_0 hr1 hc1 hL.1 hL.2.1 hL.2.2
  · cases h
end Go.Proofs.Yteocngcojijnkaa.Cv
namespace Go.Proofs.Yteocngcojijnkaa.QA
open Go.RowKit Go.Proofs.YteocngcojijnkaaW.PrintWords Go.Proofs.YteocngcojijnkaaW.PrintLast Go.Proofs.YteocngcojijnkaaW.PrintMore
attribute [local go_sem] max2_int min2_int max_two min_two max_three min_three max_four min_four   -- for this text's walks alone
set_option linter.unusedVariables false
set_option linter.unusedSimpArgs false
def errW : Option Int → Value
  | none => .nilIface
  | some c => .iface 0 (.int .i64 c)
theorem errW_none : errW none = .nilIface := rfl
theorem errW_some (c : Int) : errW (some c) = .iface 0 (.int .i64 c) := rfl
theorem info3 : (Try.prog.info? 3).map (fun i => (i.zero, i.size, i.bytes)) = some (some (.int .i64 0), 1, 8) := by kernel_rfl
-- the values' own types
end Go.Proofs.Yteocngcojijnkaa.QA
namespace Go.Proofs.Yteocngcojijnkaa.QA
open Go.RowKit Go.Proofs.YteocngcojijnkaaW.PrintWords Go.Proofs.YteocngcojijnkaaW.PrintLast Go.Proofs.YteocngcojijnkaaW.PrintMore
attribute [local go_sem] max2_int min2_int max_two min_two max_three min_three max_four min_four   -- for this text's walks alone
set_option linter.unusedVariables false
set_option linter.unusedSimpArgs false
/-! ### icehouseref10_Need: function 11 -/
def icehouseref10_Need.l0 : Nat → Int → Int → Option (Int)
  | 0, _, _ => none
  | k + 1, x0, x3 => if (wrap64 (2 * x3)) ≤ x0 then (icehouseref10_Need.l0 k x0 (wrap64 (x3 + 1))) else (some x3)
def icehouseref10_Need.f (k : Nat) (a0 : Int) : Option (Int) := if a0 < 1 then (some 0) else (icehouseref10_Need.l0 k a0 0)
theorem icehouseref10_Need.mono_l : ∀ k, (∀ y0 y1, LeO (icehouseref10_Need.l0 k y0 y1) (icehouseref10_Need.l0 (k + 1) y0 y1))
  | 0 => fun _ _ r h => by simp [icehouseref10_Need.l0] at h
  | k + 1 => by
    have ih0 := icehouseref10_Need.mono_l k
    · intro y0 y1
      unfold icehouseref10_Need.l0
      repeat' first
      | (with_reducible exact ih0 _ _)
      | (with_reducible exact LeO.refl _)
      | (with_reducible exact LeO.none _)
      | (with_reducible refine LeO.ite ?_ ?_)
      | (with_reducible refine LeO.bind ?_ (fun _ => ?_))
      | exact ih0 _ _
      | exact LeO.none _
      | refine LeO.ite ?_ ?_
      | refine LeO.bind ?_ (fun _ => ?_)
theorem icehouseref10_Need.mono : ∀ a0 k, LeO (icehouseref10_Need.f k a0) (icehouseref10_Need.f (k + 1) a0) := by
  intro a0 k
  have ih0 := icehouseref10_Need.mono_l k
  unfold icehouseref10_Need.f
  repeat' first
      | (with_reducible exact ih0 _ _)
      | (with_reducible exact LeO.refl _)
      | (with_reducible exact LeO.none _)
      | (with_reducible refine LeO.ite ?_ ?_)
      | (with_reducible refine LeO.bind ?_ (fun _ => ?_))
      | exact ih0 _ _
      | exact LeO.none _
      | refine LeO.ite ?_ ?_
      | refine LeO.bind ?_ (fun _ => ?_)
/-! ### icehouseref09_Has: function 22 -/
def icehouseref09_Has.l0 : Nat → List Int → Int → Int → Option (Bool)
  | 0, _, _, _ => none
  | k + 1, x0, x1, x5 => if x5 < (x0.length : Int) then (if 0 ≤ x5 then (if (rd x0 x5) = x1 then (some true) else (icehouseref09_Has.l0 k x0 x1 (wrap64 (x5 + 1)))) else (none)) else (some false)
def icehouseref09_Has.f (k : Nat) (l0 : List Int) (a1 : Int) : Option (Bool) := icehouseref09_Has.l0 k l0 a1 0
theorem icehouseref09_Has.mono_l : ∀ k, (∀ y0 y1 y2, LeO (icehouseref09_Has.l0 k y0 y1 y2) (icehouseref09_Has.l0 (k + 1) y0 y1 y2))
  | 0 => fun _ _ _ r h => by simp [icehouseref09_Has.l0] at h
  | k + 1 => by
    have ih0 := icehouseref09_Has.mono_l k
    · intro y0 y1 y2
      unfold icehouseref09_Has.l0
      repeat' first
      | (with_reducible exact ih0 _ _ _)
      | (with_reducible exact LeO.refl _)
      | (with_reducible exact LeO.none _)
      | (with_reducible refine LeO.ite ?_ ?_)
      | (with_reducible refine LeO.bind ?_ (fun _ => ?_))
      | exact ih0 _ _ _
      | exact LeO.none _
      | refine LeO.ite ?_ ?_
      | refine LeO.bind ?_ (fun _ => ?_)
theorem icehouseref09_Has.mono : ∀ a0 a1 k, LeO (icehouseref09_Has.f k a0 a1) (icehouseref09_Has.f (k + 1) a0 a1) := by
  intro a0 a1 k
  have ih0 := icehouseref09_Has.mono_l k
  unfold icehouseref09_Has.f
  repeat' first
      | (with_reducible exact ih0 _ _ _)
      | (with_reducible exact LeO.refl _)
      | (with_reducible exact LeO.none _)
      | (with_reducible refine LeO.ite ?_ ?_)
      | (with_reducible refine LeO.bind ?_ (fun _ => ?_))
      | exact ih0 _ _ _
      | exact LeO.none _
      | refine LeO.ite ?_ ?_
      | refine LeO.bind ?_ (fun _ => ?_)
set_option maxHeartbeats 8000000 in
set_option maxRecDepth 100000 in
theorem icehouseref09_Has.calls (k : Nat) (A0 : Option Addr) (c0 : Nat) (l0 : List Int) (a1 : Int) (r : Bool) (w : World) (hr0 : Kd.C (Kd.int .i64) w A0 l0.length l0) (hc0 : l0.length ≤ c0) (h : icehouseref09_Has.f k l0 a1 = some r) :
    Calls Try.prog 22 #[.slice A0 l0.length c0, .int .i64 a1] w fun e w' => e = .returned (.bool r) ∧ Drawn0 w w' := by
  have HR0 := Aside0.mk hr0
  have HC0 := Aside0.mk hc0
  clear hr0 hc0
  have H : (icehouseref09_Has.l0 k l0 a1 0) = some r := h
  clear h
  have H' := Aside0.mk H
  clear H
  go_enter Try.func22, Try.ntmps22
  go_wp2
  go_loopg [5] k (fun kq v5 w' => ∃ (x5_1 : Int), v5 = .int .i64 x5_1 ∧ Aside0 (icehouseref09_Has.l0 kq l0 a1 x5_1 = some r) ∧ Aside0 (kq ≤ k) ∧ Drawn0 w w')
  case atStart => exact ⟨(0), (by first | rfl | (simp; done) | (simp [*]; done)), H', ⟨Nat.le_refl _⟩, by repeat (first | exact Drawn0.refl _ | apply Drawn0.step)⟩
  case round =>
    clear H'
    try clear c2
    try clear p2
    obtain ⟨x5_1, rfl, HA, HK1, ⟨m1, rfl⟩⟩ := hrel
    cases gk with
    | zero => exact absurd HA.out (by simp [icehouseref09_Has.l0])
    | succ k1 =>
      have H := HA.out
      clear HA
      simp only [icehouseref09_Has.l0] at H
      by_cases c3 : x5_1 < (l0.length : Int)
      · rw [if_pos c3] at H
        have c3b0 : decide (x5_1 < (l0.length : Int)) = true := decide_eq_true c3
        clear c3
        by_cases c4 : 0 ≤ x5_1
        · rw [if_pos c4] at H
          have c4b0 : decide (0 ≤ x5_1) = true := decide_eq_true c4
          clear c4
          by_cases c5 : (rd l0 x5_1) = a1
          · rw [if_pos c5] at H
            have c5b0 : ((rd l0 x5_1) == a1) = true := beq_iff_eq.mpr c5
            have c5b1 : ((rd l0 x5_1) != a1) = false := bne_eq_false_iff_eq.mpr c5
            clear c5
            obtain rfl := Option.some.inj H
            have p101 : 0 ≤ (x5_1 : Int) := of_decide_eq_true (by first | (with_reducible assumption) | assumption)
            have q101 : x5_1 < (l0.length : Int) := of_decide_eq_true (by first | (with_reducible assumption) | assumption)
            obtain ⟨ad101, e101, hx101_0⟩ := Kd.at_int HR0.out x5_1 p101 q101
            cases e101
            replace p101 := eq_true p101
            replace q101 := eq_true q101
            go_wp2
            go_ret
            exact ⟨by first | rfl | (simp; done) | (simp [*]; done), by repeat (first | exact Drawn0.refl _ | apply Drawn0.step)⟩
          · rw [if_neg c5] at H
            have c5b0 : ((rd l0 x5_1) == a1) = false := beq_eq_false_iff_ne.mpr c5
            have c5b1 : ((rd l0 x5_1) != a1) = true := bne_iff_ne.mpr c5
            have H' := Aside0.mk H
            clear H
            have p101 : 0 ≤ (x5_1 : Int) := of_decide_eq_true (by first | (with_reducible assumption) | assumption)
            have q101 : x5_1 < (l0.length : Int) := of_decide_eq_true (by first | (with_reducible assumption) | assumption)
            obtain ⟨ad101, e101, hx101_0⟩ := Kd.at_int HR0.out x5_1 p101 q101
            cases e101
            replace p101 := eq_true p101
            replace q101 := eq_true q101
            go_wp2
            go_roundg k1
            case measure => have := HK1.out; omega
            case rel => exact ⟨(wrap64 (x5_1 + 1)), (by first | rfl | (simp; done) | (simp [*]; done)), H', ⟨by have := HK1.out; omega⟩, by repeat (first | exact Drawn0.refl _ | apply Drawn0.step)⟩
        · rw [if_neg c4] at H
          exact absurd H (by simp)
      · rw [if_neg c3] at H
        have c3b0 : decide (x5_1 < (l0.length : Int)) = false := decide_eq_false c3
        clear c3
        obtain rfl := Option.some.inj H
        go_wp2
        go_ret
        exact ⟨by first | rfl | (simp; done) | (simp [*]; done), by repeat (first | exact Drawn0.refl _ | apply Drawn0.step)⟩
/-! ### icehouseref10_Common: function 17 -/
def icehouseref10_Common.l0 : Nat → List Int → List Int → List Int → Int → Option (List Int)
  | 0, _, _, _, _ => none
  | k + 1, x0, x1, x5, x6 => if x6 < (x0.length : Int) then (if 0 ≤ x6 then ((icehouseref09_Has.f k x1 (rd x0 x6)).bind fun t103 => (if t103 = true then ((icehouseref09_Has.f k x5 (rd x0 x6)).bind fun t105 => (if t105 = true then (icehouseref10_Common.l0 k x0 x1 x5 (wrap64 (x6 + 1))) else (if x5.length < 17592186044416 then (icehouseref10_Common.l0 k x0 x1 (x5 ++ [rd x0 x6]) (wrap64 (x6 + 1))) else (none)))) else (icehouseref10_Common.l0 k x0 x1 x5 (wrap64 (x6 + 1))))) else (none)) else (some x5)
def icehouseref10_Common.f (k : Nat) (l0 : List Int) (l1 : List Int) : Option (List Int) := icehouseref10_Common.l0 k l0 l1 ([] : List Int) 0
theorem icehouseref10_Common.mono_l : ∀ k, (∀ y0 y1 y2 y3, LeO (icehouseref10_Common.l0 k y0 y1 y2 y3) (icehouseref10_Common.l0 (k + 1) y0 y1 y2 y3))
  | 0 => fun _ _ _ _ r h => by simp [icehouseref10_Common.l0] at h
  | k + 1 => by
    have ih0 := icehouseref10_Common.mono_l k
    · intro y0 y1 y2 y3
      unfold icehouseref10_Common.l0
      repeat' first
      | (with_reducible exact ih0 _ _ _ _)
      | (with_reducible exact icehouseref09_Has.mono _ _ _)
      | (with_reducible exact LeO.refl _)
      | (with_reducible exact LeO.none _)
      | (with_reducible refine LeO.ite ?_ ?_)
      | (with_reducible refine LeO.bind ?_ (fun _ => ?_))
      | exact ih0 _ _ _ _
      | exact icehouseref09_Has.mono _ _ _
      | exact LeO.none _
      | refine LeO.ite ?_ ?_
      | refine LeO.bind ?_ (fun _ => ?_)
theorem icehouseref10_Common.mono : ∀ a0 a1 k, LeO (icehouseref10_Common.f k a0 a1) (icehouseref10_Common.f (k + 1) a0 a1) := by
  intro a0 a1 k
  have ih0 := icehouseref10_Common.mono_l k
  unfold icehouseref10_Common.f
  repeat' first
      | (with_reducible exact ih0 _ _ _ _)
      | (with_reducible exact icehouseref09_Has.mono _ _ _)
      | (with_reducible exact LeO.refl _)
      | (with_reducible exact LeO.none _)
      | (with_reducible refine LeO.ite ?_ ?_)
      | (with_reducible refine LeO.bind ?_ (fun _ => ?_))
      | exact ih0 _ _ _ _
      | exact icehouseref09_Has.mono _ _ _
      | exact LeO.none _
      | refine LeO.ite ?_ ?_
      | refine LeO.bind ?_ (fun _ => ?_)
set_option maxHeartbeats 8000000 in
set_option maxRecDepth 100000 in
theorem icehouseref10_Common.calls (k : Nat) (A0 : Option Addr) (c0 : Nat) (l0 : List Int) (A1 : Option Addr) (c1 : Nat) (l1 : List Int) (r : List Int) (w : World) (hr0 : Kd.C (Kd.int .i64) w A0 l0.length l0) (hc0 : l0.length ≤ c0) (hr1 : Kd.C (Kd.int .i64) w A1 l1.length l1) (hc1 : l1.length ≤ c1) (h : icehouseref10_Common.f k l0 l1 = some r) :
    Calls Try.prog 17 #[.slice A0 l0.length c0, .slice A1 l1.length c1] w fun e w' => ∃ v0_ : Value, e = .returned (v0_) ∧ Kd.R (Kd.int .i64) 3 w' w.heap.size (fun _ => True) v0_ r ∧ Below w.heap.size w w' := by
  have HR0 := Aside0.mk hr0
  have HC0 := Aside0.mk hc0
  clear hr0 hc0
  have HR1 := Aside0.mk hr1
  have HC1 := Aside0.mk hc1
  clear hr1 hc1
  have HB := Aside0.mk (Below.refl w.heap.size w)
  have H : (icehouseref10_Common.l0 k l0 l1 ([] : List Int) 0) = some r := h
  clear h
  have H' := Aside0.mk H
  clear H
  go_enter Try.func17, Try.ntmps17
  go_wp2
  go_loopg [5, 6] k (fun kq v5 v6 w' => ∃ (x5_1 : List Int) (x6_1 : Int), v6 = .int .i64 x6_1 ∧ Aside0 (icehouseref10_Common.l0 kq l0 l1 x5_1 x6_1 = some r) ∧ Aside0 (kq ≤ k) ∧ Aside0 (Kd.R (Kd.int .i64) 3 w' w.heap.size (fun _ => True) v5 x5_1) ∧ Aside0 (Below w.heap.size w w'))
  case atStart => exact ⟨(([] : List Int)), (0), (by first | rfl | (simp; done) | (simp [*]; done)), H', ⟨Nat.le_refl _⟩, ⟨by first | exact Kd.R_nil _ _ _ _ _ | exact Kd.N_nil _ _ _ _ _ | exact Kd.V_nil _ _ _ _ _ | exact Kd.Q_nil _ _ _ _ _ | exact Kd.S_nil _ _ _ _ _⟩, ⟨by repeat (first | (with_reducible first | exact HB.out | apply below_alloc | apply pw_below_drewN | apply below_drew1) | exact HB.out)⟩⟩
  case round =>
    clear H'
    try clear c1
    try clear p2
    obtain ⟨x5_1, x6_1, rfl, HA, HK1, HO_5, HB⟩ := hrel
    cases gk with
    | zero => exact absurd HA.out (by simp [icehouseref10_Common.l0])
    | succ k1 =>
      have H := HA.out
      clear HA
      simp only [icehouseref10_Common.l0] at H
      by_cases c3 : x6_1 < (l0.length : Int)
      · rw [if_pos c3] at H
        have c3b0 : decide (x6_1 < (l0.length : Int)) = true := decide_eq_true c3
        clear c3
        by_cases c4 : 0 ≤ x6_1
        · rw [if_pos c4] at H
          have c4b0 : decide (0 ≤ x6_1) = true := decide_eq_true c4
          clear c4
          replace H := Option.bind_eq_some_iff.mp H
          obtain ⟨t103, A50, H⟩ := H
          replace H : (if t103 = true then ((icehouseref09_Has.f k1 x5_1 (rd l0 x6_1)).bind fun t105 => (if t105 = true then (icehouseref10_Common.l0 k1 l0 l1 x5_1 (wrap64 (x6_1 + 1))) else (if x5_1.length < 17592186044416 then (icehouseref10_Common.l0 k1 l0 l1 (x5_1 ++ [rd l0 x6_1]) (wrap64 (x6_1 + 1))) else (none)))) else (icehouseref10_Common.l0 k1 l0 l1 x5_1 (wrap64 (x6_1 + 1)))) = some r := H
          have A5 := Aside0.mk A50
          clear A50
          by_cases c6 : t103 = true
          · subst c6
            have H1 : ((icehouseref09_Has.f k1 x5_1 (rd l0 x6_1)).bind fun t105 => (if t105 = true then (icehouseref10_Common.l0 k1 l0 l1 x5_1 (wrap64 (x6_1 + 1))) else (if x5_1.length < 17592186044416 then (icehouseref10_Common.l0 k1 l0 l1 (x5_1 ++ [rd l0 x6_1]) (wrap64 (x6_1 + 1))) else (none)))) = some r := by rw [if_pos rfl] at H; exact H
            clear H
            have H := H1
            clear H1
            replace H := Option.bind_eq_some_iff.mp H
            obtain ⟨t105, A70, H⟩ := H
            replace H : (if t105 = true then (icehouseref10_Common.l0 k1 l0 l1 x5_1 (wrap64 (x6_1 + 1))) else (if x5_1.length < 17592186044416 then (icehouseref10_Common.l0 k1 l0 l1 (x5_1 ++ [rd l0 x6_1]) (wrap64 (x6_1 + 1))) else (none))) = some r := H
            have A7 := Aside0.mk A70
            clear A70
            by_cases c8 : t105 = true
            · subst c8
              have H1 : (icehouseref10_Common.l0 k1 l0 l1 x5_1 (wrap64 (x6_1 + 1))) = some r := by rw [if_pos rfl] at H; exact H
              clear H
              have H := H1
              clear H1
              have H' := Aside0.mk H
              clear H
              have p102 : 0 ≤ (x6_1 : Int) := of_decide_eq_true (by first | (with_reducible assumption) | assumption)
              have q102 : x6_1 < (l0.length : Int) := of_decide_eq_true (by first | (with_reducible assumption) | assumption)
              obtain ⟨ad102, e102, hx102_0⟩ := Kd.at_int HR0.out x6_1 p102 q102
              cases e102
              replace hx102_0 := (HB.out.cell (World.block_lt_of_cell? w _ hx102_0)).trans hx102_0
              replace p102 := eq_true p102
              replace q102 := eq_true q102
              go_wp2_with (first | ((with_reducible refine gate_callee (f := 22) rfl ?_); refine goesL_ (some 18) rfl rfl Try.func22 (by kernel_rfl) rfl #[.slice A1 l1.length c1, .int .i64 (rd l0 x6_1)] rfl (by (try simp only [List.map_toArray, List.map_cons, List.map_nil]); first | done | rfl | (simp only [List.length_drop, List.length_take]; rfl)) ?_; (with_reducible refine (icehouseref09_Has.calls k1 _ _ l1 (rd l0 x6_1) true _ ?side1 ?side2 A5.out).mono ?_); (case side1 => repeat (first | exact (Kd.C_below HR1.out HB.out) | (with_reducible refine Kd.C_alloc ?_ _) | (with_reducible refine Kd.C_drewN ?_ _) | (with_reducible refine Kd.C_drew ?_))); (case side2 => exact HC1.out); rintro e w' ⟨rfl, ⟨nd, rfl⟩⟩; refine ⟨_, rfl, ?_⟩; have p104 : 0 ≤ (x6_1 : Int) := of_decide_eq_true (by first | (with_reducible assumption) | assumption); have q104 : x6_1 < (l0.length : Int) := of_decide_eq_true (by first | (with_reducible assumption) | assumption); obtain ⟨ad104, e104, hx104_0⟩ := Kd.at_int HR0.out x6_1 p104 q104; obtain rfl : ad102 = ad104 := (by injection e104); replace hx104_0 := (HB.out.cell (World.block_lt_of_cell? w _ hx104_0)).trans hx104_0; replace p104 := eq_true p104; replace q104 := eq_true q104; obtain ⟨Ao9, co9, eo9⟩ := Kd.R_slice HO_5.out; subst eo9) | (go_at_call 22; (with_reducible refine (icehouseref09_Has.calls k1 _ _ x5_1 (rd l0 x6_1) true _ ?side1 ?side2 A7.out).mono ?_); (case side1 => repeat (first | exact (Kd.R_reads' HO_5.out).2.2 | (with_reducible refine Kd.C_alloc ?_ _) | (with_reducible refine Kd.C_drewN ?_ _) | (with_reducible refine Kd.C_drew ?_))); (case side2 => exact (Kd.R_reads' HO_5.out).2.1); rintro e w' ⟨rfl, ⟨nd, rfl⟩⟩))
              go_roundg k1
              case measure => have := HK1.out; omega
              case rel => exact ⟨(x5_1), (wrap64 (x6_1 + 1)), (by first | rfl | (simp; done) | (simp [*]; done)), H', ⟨by have := HK1.out; omega⟩, ⟨by (with_reducible repeat (first | apply Kd.R_alloc | apply Kd.R_drewN | apply Kd.R_drew)); exact HO_5.out⟩, ⟨by repeat (first | (with_reducible first | exact HB.out | apply below_alloc | apply pw_below_drewN | apply below_drew1) | exact HB.out)⟩⟩
            · replace c8 := Bool.eq_false_iff.mpr c8
              subst c8
              have H1 : (if x5_1.length < 17592186044416 then (icehouseref10_Common.l0 k1 l0 l1 (x5_1 ++ [rd l0 x6_1]) (wrap64 (x6_1 + 1))) else (none)) = some r := by rw [if_neg (show ¬ (false = true) by decide)] at H; exact H
              clear H
              have H := H1
              clear H1
              by_cases c10 : x5_1.length < 17592186044416
              · rw [if_pos c10] at H
                have LMc10 := Aside0.mk c10
                clear c10
                obtain ⟨y107, hy107⟩ : ∃ y_ : List Int, y_ = (x5_1 ++ [rd l0 x6_1]) := ⟨_, rfl⟩
                replace H : (icehouseref10_Common.l0 k1 l0 l1 y107 (wrap64 (x6_1 + 1))) = some r := by first | (rw [hy107]; with_reducible exact H) | (have H2_ := (Option.bind_some _ _).symm.trans H; rw [hy107]; with_reducible exact H2_) | (have H2_ := (Option.bind_some _ _).symm.trans H; with_reducible exact H2_) | with_reducible exact H | (rw [hy107]; exact H) | exact H
                have Ny107 := Aside0.mk hy107
                clear hy107
                have H' := Aside0.mk H
                clear H
                have p102 : 0 ≤ (x6_1 : Int) := of_decide_eq_true (by first | (with_reducible assumption) | assumption)
                have q102 : x6_1 < (l0.length : Int) := of_decide_eq_true (by first | (with_reducible assumption) | assumption)
                obtain ⟨ad102, e102, hx102_0⟩ := Kd.at_int HR0.out x6_1 p102 q102
                cases e102
                replace hx102_0 := (HB.out.cell (World.block_lt_of_cell? w _ hx102_0)).trans hx102_0
                replace p102 := eq_true p102
                replace q102 := eq_true q102
                go_wp2_with (first | ((with_reducible refine gate_callee (f := 22) rfl ?_); refine goesL_ (some 18) rfl rfl Try.func22 (by kernel_rfl) rfl #[.slice A1 l1.length c1, .int .i64 (rd l0 x6_1)] rfl (by (try simp only [List.map_toArray, List.map_cons, List.map_nil]); first | done | rfl | (simp only [List.length_drop, List.length_take]; rfl)) ?_; (with_reducible refine (icehouseref09_Has.calls k1 _ _ l1 (rd l0 x6_1) true _ ?side1 ?side2 A5.out).mono ?_); (case side1 => repeat (first | exact (Kd.C_below HR1.out HB.out) | (with_reducible refine Kd.C_alloc ?_ _) | (with_reducible refine Kd.C_drewN ?_ _) | (with_reducible refine Kd.C_drew ?_))); (case side2 => exact HC1.out); rintro e w' ⟨rfl, ⟨nd, rfl⟩⟩; refine ⟨_, rfl, ?_⟩; have p104 : 0 ≤ (x6_1 : Int) := of_decide_eq_true (by first | (with_reducible assumption) | assumption); have q104 : x6_1 < (l0.length : Int) := of_decide_eq_true (by first | (with_reducible assumption) | assumption); obtain ⟨ad104, e104, hx104_0⟩ := Kd.at_int HR0.out x6_1 p104 q104; obtain rfl : ad102 = ad104 := (by injection e104); replace hx104_0 := (HB.out.cell (World.block_lt_of_cell? w _ hx104_0)).trans hx104_0; replace p104 := eq_true p104; replace q104 := eq_true q104; obtain ⟨Ao11, co11, eo11⟩ := Kd.R_slice HO_5.out; subst eo11) | (go_at_call 22; (with_reducible refine (icehouseref09_Has.calls k1 _ _ x5_1 (rd l0 x6_1) false _ ?side1 ?side2 A7.out).mono ?_); (case side1 => repeat (first | exact (Kd.R_reads' HO_5.out).2.2 | (with_reducible refine Kd.C_alloc ?_ _) | (with_reducible refine Kd.C_drewN ?_ _) | (with_reducible refine Kd.C_drew ?_))); (case side2 => exact (Kd.R_reads' HO_5.out).2.1); rintro e w' ⟨rfl, ⟨nd, rfl⟩⟩; have p106 : 0 ≤ (x6_1 : Int) := of_decide_eq_true (by first | (with_reducible assumption) | assumption); have q106 : x6_1 < (l0.length : Int) := of_decide_eq_true (by first | (with_reducible assumption) | assumption); obtain ⟨ad106, e106, hx106_0⟩ := Kd.at_int HR0.out x6_1 p106 q106; obtain rfl : ad102 = ad106 := (by injection e106); replace hx106_0 := (HB.out.cell (World.block_lt_of_cell? w _ hx106_0)).trans hx106_0; replace p106 := eq_true p106; replace q106 := eq_true q106) | ((with_reducible refine gate_builtin (b := .append) (xs := #[.tmp 28, .tmp 33]) rfl ?_); at_builtin; refine Kd.R_append (Kd.int .i64) (w0 := w) w.heap.size rfl (.tmp 28) (.tmp 33) 22 3 (.int .i64 0) 8 rfl Try.underlying22 info3 rfl (by decide) (by omega) (.slice Ao11 x5_1.length co11) x5_1 (rd l0 x6_1) [.int .i64 (rd l0 x6_1)] (fun _ => True) (fun _ => False) rfl rfl ?aP (fun _ hk => hk.elim) ?aF ?aO ?aB ?aS ?aL ?_; (case aP => exact rfl); (case aB => exact (by repeat (first | (with_reducible first | exact HB.out | apply below_alloc | apply pw_below_drewN | apply below_drew1) | exact HB.out))); (case aF => exact (fun _ _ => trivial)); (case aO => exact (by (with_reducible repeat (first | apply Kd.R_alloc | apply Kd.R_drewN | apply Kd.R_drew)); exact HO_5.out)); (case aS => exact (below_size (by repeat (first | (with_reducible first | exact HB.out | apply below_alloc | apply pw_below_drewN | apply below_drew1) | exact HB.out)))); (case aL => have := LMc10.out; omega); intro v108 w12 ho hb hg hat; rw [← Ny107.out] at ho; have n0_ := Aside0.mk (hb); have n1_ := Aside0.mk (ho); clear HB; clear HO_5; have HB := n0_; have HO109 := n1_; clear n0_ n1_; clear ho hb hg hat))
                go_roundg k1
                case measure => have := HK1.out; omega
                case rel => exact ⟨(y107), (wrap64 (x6_1 + 1)), (by first | rfl | (simp; done) | (simp [*]; done)), H', ⟨by have := HK1.out; omega⟩, ⟨by (with_reducible repeat (first | apply Kd.R_alloc | apply Kd.R_drewN | apply Kd.R_drew)); exact HO109.out⟩, ⟨by repeat (first | (with_reducible first | exact HB.out | apply below_alloc | apply pw_below_drewN | apply below_drew1) | exact HB.out)⟩⟩
              · rw [if_neg c10] at H
                exact absurd H (by simp)
          · replace c6 := Bool.eq_false_iff.mpr c6
            subst c6
            have H1 : (icehouseref10_Common.l0 k1 l0 l1 x5_1 (wrap64 (x6_1 + 1))) = some r := by rw [if_neg (show ¬ (false = true) by decide)] at H; exact H
            clear H
            have H := H1
            clear H1
            have H' := Aside0.mk H
            clear H
            have p102 : 0 ≤ (x6_1 : Int) := of_decide_eq_true (by first | (with_reducible assumption) | assumption)
            have q102 : x6_1 < (l0.length : Int) := of_decide_eq_true (by first | (with_reducible assumption) | assumption)
            obtain ⟨ad102, e102, hx102_0⟩ := Kd.at_int HR0.out x6_1 p102 q102
            cases e102
            replace hx102_0 := (HB.out.cell (World.block_lt_of_cell? w _ hx102_0)).trans hx102_0
            replace p102 := eq_true p102
            replace q102 := eq_true q102
            go_wp2_with (first | ((with_reducible refine gate_callee (f := 22) rfl ?_); refine goesL_ (some 18) rfl rfl Try.func22 (by kernel_rfl) rfl #[.slice A1 l1.length c1, .int .i64 (rd l0 x6_1)] rfl (by (try simp only [List.map_toArray, List.map_cons, List.map_nil]); first | done | rfl | (simp only [List.length_drop, List.length_take]; rfl)) ?_; (with_reducible refine (icehouseref09_Has.calls k1 _ _ l1 (rd l0 x6_1) false _ ?side1 ?side2 A5.out).mono ?_); (case side1 => repeat (first | exact (Kd.C_below HR1.out HB.out) | (with_reducible refine Kd.C_alloc ?_ _) | (with_reducible refine Kd.C_drewN ?_ _) | (with_reducible refine Kd.C_drew ?_))); (case side2 => exact HC1.out); rintro e w' ⟨rfl, ⟨nd, rfl⟩⟩; refine ⟨_, rfl, ?_⟩))
            go_roundg k1
            case measure => have := HK1.out; omega
            case rel => exact ⟨(x5_1), (wrap64 (x6_1 + 1)), (by first | rfl | (simp; done) | (simp [*]; done)), H', ⟨by have := HK1.out; omega⟩, ⟨by (with_reducible repeat (first | apply Kd.R_alloc | apply Kd.R_drewN | apply Kd.R_drew)); exact HO_5.out⟩, ⟨by repeat (first | (with_reducible first | exact HB.out | apply below_alloc | apply pw_below_drewN | apply below_drew1) | exact HB.out)⟩⟩
        · rw [if_neg c4] at H
          exact absurd H (by simp)
      · rw [if_neg c3] at H
        have c3b0 : decide (x6_1 < (l0.length : Int)) = false := decide_eq_false c3
        clear c3
        obtain rfl := Option.some.inj H
        go_wp2
        go_ret
        exact ⟨_, by first | rfl | (simp [errW_none, errW_some] <;> rfl) | (simp [*, errW_none, errW_some] <;> rfl), by (with_reducible repeat (first | apply Kd.R_alloc | apply Kd.R_drewN | apply Kd.R_drew)); exact HO_5.out, by repeat (first | (with_reducible first | exact HB.out | apply below_alloc | apply pw_below_drewN | apply below_drew1) | exact HB.out)⟩
/-! ### icehouseref10_Enough: function 14 -/
def icehouseref10_Enough.f (k : Nat) (l0 : List Int) (l1 : List Int) : Option (Bool) := (icehouseref10_Common.f k l0 l0).bind fun t110 => ((icehouseref10_Common.f k l0 l1).bind fun t113 => (if (t110.length : Int) > 0 then (some (decide ((wrap64 (2 * (t113.length : Int))) > (t110.length : Int)))) else (some false)))
theorem icehouseref10_Enough.mono : ∀ a0 a1 k, LeO (icehouseref10_Enough.f k a0 a1) (icehouseref10_Enough.f (k + 1) a0 a1) := by
  intro a0 a1 k
  unfold icehouseref10_Enough.f
  repeat' first
      | (with_reducible exact icehouseref10_Common.mono _ _ _)
      | (with_reducible exact LeO.refl _)
      | (with_reducible exact LeO.none _)
      | (with_reducible refine LeO.ite ?_ ?_)
      | (with_reducible refine LeO.bind ?_ (fun _ => ?_))
      | exact icehouseref10_Common.mono _ _ _
      | exact LeO.none _
      | refine LeO.ite ?_ ?_
      | refine LeO.bind ?_ (fun _ => ?_)
set_option maxHeartbeats 8000000 in
set_option maxRecDepth 100000 in
theorem icehouseref10_Enough.calls (k : Nat) (A0 : Option Addr) (c0 : Nat) (l0 : List Int) (A1 : Option Addr) (c1 : Nat) (l1 : List Int) (r : Bool) (w : World) (hr0 : Kd.C (Kd.int .i64) w A0 l0.length l0) (hc0 : l0.length ≤ c0) (hr1 : Kd.C (Kd.int .i64) w A1 l1.length l1) (hc1 : l1.length ≤ c1) (h : icehouseref10_Enough.f k l0 l1 = some r) :
    Calls Try.prog 14 #[.slice A0 l0.length c0, .slice A1 l1.length c1] w fun e w' => e = .returned (.bool r) ∧ Below w.heap.size w w' := by
  have HR0 := Aside0.mk hr0
  have HC0 := Aside0.mk hc0
  clear hr0 hc0
  have HR1 := Aside0.mk hr1
  have HC1 := Aside0.mk hc1
  clear hr1 hc1
  have HB := Aside0.mk (Below.refl w.heap.size w)
  have H : ((icehouseref10_Common.f k l0 l0).bind fun t110 => ((icehouseref10_Common.f k l0 l1).bind fun t113 => (if (t110.length : Int) > 0 then (some (decide ((wrap64 (2 * (t113.length : Int))) > (t110.length : Int)))) else (some false)))) = some r := h
  clear h
  replace H := Option.bind_eq_some_iff.mp H
  obtain ⟨t110, A30, H⟩ := H
  replace H : ((icehouseref10_Common.f k l0 l1).bind fun t113 => (if (t110.length : Int) > 0 then (some (decide ((wrap64 (2 * (t113.length : Int))) > (t110.length : Int)))) else (some false))) = some r := H
  have A3 := Aside0.mk A30
  clear A30
  replace H := Option.bind_eq_some_iff.mp H
  obtain ⟨t113, A40, H⟩ := H
  replace H : (if (t110.length : Int) > 0 then (some (decide ((wrap64 (2 * (t113.length : Int))) > (t110.length : Int)))) else (some false)) = some r := H
  have A4 := Aside0.mk A40
  clear A40
  by_cases c5 : (t110.length : Int) > 0
  · rw [if_pos c5] at H
    have c5b0 : decide (0 < (t110.length : Int)) = true := decide_eq_true c5
    have c5b1 : decide (0 < t110.length) = true := decide_eq_true (by omega)
    clear c5
    obtain rfl := Option.some.inj H
    go_enter Try.func14, Try.ntmps14
    go_wp2_with (first | ((with_reducible refine gate_callee (f := 17) rfl ?_); refine goesL_ (some 9) rfl rfl Try.func17 (by kernel_rfl) rfl #[.slice A0 l0.length c0, .slice A0 l0.length c0] rfl (by (try simp only [List.map_toArray, List.map_cons, List.map_nil]); first | done | rfl | (simp only [List.length_drop, List.length_take]; rfl)) ?_; (with_reducible refine (icehouseref10_Common.calls k _ _ l0 _ _ l0 t110 _ ?side1 ?side2 ?side3 ?side4 A3.out).mono ?_); (case side1 => repeat (first | exact HR0.out | (with_reducible refine Kd.C_alloc ?_ _) | (with_reducible refine Kd.C_drewN ?_ _) | (with_reducible refine Kd.C_drew ?_))); (case side2 => exact HC0.out); (case side3 => repeat (first | exact HR0.out | (with_reducible refine Kd.C_alloc ?_ _) | (with_reducible refine Kd.C_drewN ?_ _) | (with_reducible refine Kd.C_drew ?_))); (case side4 => exact HC0.out); rintro e w6 ⟨v111, rfl, ho0, hb⟩; refine ⟨_, rfl, ?_⟩; have n0_ := Aside0.mk (Kd.R_lower ho0 (below_size (by repeat (first | (with_reducible first | exact HB.out | apply below_alloc | apply pw_below_drewN | apply below_drew1) | exact HB.out)))); have n1_ := Aside0.mk (below_step (by repeat (first | (with_reducible first | exact HB.out | apply below_alloc | apply pw_below_drewN | apply below_drew1) | exact HB.out)) hb); clear HB; have HO112 := n0_; have HB := n1_; clear n0_ n1_; (try clear hb); (try clear hb2); (try clear hk); (try clear hi); (try clear ho0); obtain ⟨Ao7, co7, eo7⟩ := Kd.R_slice HO112.out; subst eo7) | ((with_reducible refine gate_callee (f := 17) rfl ?_); refine goesL_ (some 13) rfl rfl Try.func17 (by kernel_rfl) rfl #[.slice A0 l0.length c0, .slice A1 l1.length c1] rfl (by (try simp only [List.map_toArray, List.map_cons, List.map_nil]); first | done | rfl | (simp only [List.length_drop, List.length_take]; rfl)) ?_; (with_reducible refine (icehouseref10_Common.calls k _ _ l0 _ _ l1 t113 _ ?side1 ?side2 ?side3 ?side4 A4.out).mono ?_); (case side1 => repeat (first | exact (Kd.C_below HR0.out HB.out) | (with_reducible refine Kd.C_alloc ?_ _) | (with_reducible refine Kd.C_drewN ?_ _) | (with_reducible refine Kd.C_drew ?_))); (case side2 => exact HC0.out); (case side3 => repeat (first | exact (Kd.C_below HR1.out HB.out) | (with_reducible refine Kd.C_alloc ?_ _) | (with_reducible refine Kd.C_drewN ?_ _) | (with_reducible refine Kd.C_drew ?_))); (case side4 => exact HC1.out); rintro e w8 ⟨v114, rfl, ho0, hb⟩; refine ⟨_, rfl, ?_⟩; have n0_ := Aside0.mk (Kd.R_elder' (by (with_reducible repeat (first | apply Kd.R_alloc | apply Kd.R_drewN | apply Kd.R_drew)); exact HO112.out) (Kd.R_base ho0) hb); have n1_ := Aside0.mk (Kd.R_lower (Kd.R_new' ho0 (Kd.R_lt (by (with_reducible repeat (first | apply Kd.R_alloc | apply Kd.R_drewN | apply Kd.R_drew)); exact HO112.out))) (below_size (by repeat (first | (with_reducible first | exact HB.out | apply below_alloc | apply pw_below_drewN | apply below_drew1) | exact HB.out)))); have n2_ := Aside0.mk (below_step (by repeat (first | (with_reducible first | exact HB.out | apply below_alloc | apply pw_below_drewN | apply below_drew1) | exact HB.out)) hb); clear HO112; clear HB; have HO112 := n0_; have HO115 := n1_; have HB := n2_; clear n0_ n1_ n2_; (try clear hb); (try clear hb2); (try clear hk); (try clear hi); (try clear ho0); obtain ⟨Ao9, co9, eo9⟩ := Kd.R_slice HO115.out; subst eo9))
    go_ret
    exact ⟨by first | rfl | (simp [errW_none, errW_some] <;> rfl) | (simp [*, errW_none, errW_some] <;> rfl), by repeat (first | (with_reducible first | exact HB.out | apply below_alloc | apply pw_below_drewN | apply below_drew1) | exact HB.out)⟩
  · rw [if_neg c5] at H
    have c5b0 : decide (0 < (t110.length : Int)) = false := decide_eq_false c5
    have c5b1 : decide (0 < t110.length) = false := decide_eq_false (by omega)
    clear c5
    obtain rfl := Option.some.inj H
    go_enter Try.func14, Try.ntmps14
    go_wp2_with (first | ((with_reducible refine gate_callee (f := 17) rfl ?_); refine goesL_ (some 9) rfl rfl Try.func17 (by kernel_rfl) rfl #[.slice A0 l0.length c0, .slice A0 l0.length c0] rfl (by (try simp only [List.map_toArray, List.map_cons, List.map_nil]); first | done | rfl | (simp only [List.length_drop, List.length_take]; rfl)) ?_; (with_reducible refine (icehouseref10_Common.calls k _ _ l0 _ _ l0 t110 _ ?side1 ?side2 ?side3 ?side4 A3.out).mono ?_); (case side1 => repeat (first | exact HR0.out | (with_reducible refine Kd.C_alloc ?_ _) | (with_reducible refine Kd.C_drewN ?_ _) | (with_reducible refine Kd.C_drew ?_))); (case side2 => exact HC0.out); (case side3 => repeat (first | exact HR0.out | (with_reducible refine Kd.C_alloc ?_ _) | (with_reducible refine Kd.C_drewN ?_ _) | (with_reducible refine Kd.C_drew ?_))); (case side4 => exact HC0.out); rintro e w10 ⟨v111, rfl, ho0, hb⟩; refine ⟨_, rfl, ?_⟩; have n0_ := Aside0.mk (Kd.R_lower ho0 (below_size (by repeat (first | (with_reducible first | exact HB.out | apply below_alloc | apply pw_below_drewN | apply below_drew1) | exact HB.out)))); have n1_ := Aside0.mk (below_step (by repeat (first | (with_reducible first | exact HB.out | apply below_alloc | apply pw_below_drewN | apply below_drew1) | exact HB.out)) hb); clear HB; have HO112 := n0_; have HB := n1_; clear n0_ n1_; (try clear hb); (try clear hb2); (try clear hk); (try clear hi); (try clear ho0); obtain ⟨Ao11, co11, eo11⟩ := Kd.R_slice HO112.out; subst eo11) | ((with_reducible refine gate_callee (f := 17) rfl ?_); refine goesL_ (some 13) rfl rfl Try.func17 (by kernel_rfl) rfl #[.slice A0 l0.length c0, .slice A1 l1.length c1] rfl (by (try simp only [List.map_toArray, List.map_cons, List.map_nil]); first | done | rfl | (simp only [List.length_drop, List.length_take]; rfl)) ?_; (with_reducible refine (icehouseref10_Common.calls k _ _ l0 _ _ l1 t113 _ ?side1 ?side2 ?side3 ?side4 A4.out).mono ?_); (case side1 => repeat (first | exact (Kd.C_below HR0.out HB.out) | (with_reducible refine Kd.C_alloc ?_ _) | (with_reducible refine Kd.C_drewN ?_ _) | (with_reducible refine Kd.C_drew ?_))); (case side2 => exact HC0.out); (case side3 => repeat (first | exact (Kd.C_below HR1.out HB.out) | (with_reducible refine Kd.C_alloc ?_ _) | (with_reducible refine Kd.C_drewN ?_ _) | (with_reducible refine Kd.C_drew ?_))); (case side4 => exact HC1.out); rintro e w12 ⟨v114, rfl, ho0, hb⟩; refine ⟨_, rfl, ?_⟩; have n0_ := Aside0.mk (Kd.R_elder' (by (with_reducible repeat (first | apply Kd.R_alloc | apply Kd.R_drewN | apply Kd.R_drew)); exact HO112.out) (Kd.R_base ho0) hb); have n1_ := Aside0.mk (Kd.R_lower (Kd.R_new' ho0 (Kd.R_lt (by (with_reducible repeat (first | apply Kd.R_alloc | apply Kd.R_drewN | apply Kd.R_drew)); exact HO112.out))) (below_size (by repeat (first | (with_reducible first | exact HB.out | apply below_alloc | apply pw_below_drewN | apply below_drew1) | exact HB.out)))); have n2_ := Aside0.mk (below_step (by repeat (first | (with_reducible first | exact HB.out | apply below_alloc | apply pw_below_drewN | apply below_drew1) | exact HB.out)) hb); clear HO112; clear HB; have HO112 := n0_; have HO115 := n1_; have HB := n2_; clear n0_ n1_ n2_; (try clear hb); (try clear hb2); (try clear hk); (try clear hi); (try clear ho0); obtain ⟨Ao13, co13, eo13⟩ := Kd.R_slice HO115.out; subst eo13))
    go_ret
    exact ⟨by first | rfl | (simp [errW_none, errW_some] <;> rfl) | (simp [*, errW_none, errW_some] <;> rfl), by repeat (first | (with_reducible first | exact HB.out | apply below_alloc | apply pw_below_drewN | apply below_drew1) | exact HB.out)⟩
/-! ### icehouseref00_SameInts: function 15 -/
def icehouseref00_SameInts.l0 : Nat → List Int → List Int → Int → Option (Bool)
  | 0, _, _, _ => none
  | k + 1, x0, x1, x5 => if x5 < (x0.length : Int) then (if 0 ≤ x5 then (if x5 < (x1.length : Int) then (if (rd x0 x5) = (rd x1 x5) then (icehouseref00_SameInts.l0 k x0 x1 (wrap64 (x5 + 1))) else (some false)) else (none)) else (none)) else (some true)
def icehouseref00_SameInts.f (k : Nat) (l0 : List Int) (l1 : List Int) : Option (Bool) := if (l0.length : Int) = (l1.length : Int) then (icehouseref00_SameInts.l0 k l0 l1 0) else (some false)
theorem icehouseref00_SameInts.mono_l : ∀ k, (∀ y0 y1 y2, LeO (icehouseref00_SameInts.l0 k y0 y1 y2) (icehouseref00_SameInts.l0 (k + 1) y0 y1 y2))
  | 0 => fun _ _ _ r h => by simp [icehouseref00_SameInts.l0] at h
  | k + 1 => by
    have ih0 := icehouseref00_SameInts.mono_l k
    · intro y0 y1 y2
      unfold icehouseref00_SameInts.l0
      repeat' first
      | (with_reducible exact ih0 _ _ _)
      | (with_reducible exact LeO.refl _)
      | (with_reducible exact LeO.none _)
      | (with_reducible refine LeO.ite ?_ ?_)
      | (with_reducible refine LeO.bind ?_ (fun _ => ?_))
      | exact ih0 _ _ _
      | exact LeO.none _
      | refine LeO.ite ?_ ?_
      | refine LeO.bind ?_ (fun _ => ?_)
theorem icehouseref00_SameInts.mono : ∀ a0 a1 k, LeO (icehouseref00_SameInts.f k a0 a1) (icehouseref00_SameInts.f (k + 1) a0 a1) := by
  intro a0 a1 k
  have ih0 := icehouseref00_SameInts.mono_l k
  unfold icehouseref00_SameInts.f
  repeat' first
      | (with_reducible exact ih0 _ _ _)
      | (with_reducible exact LeO.refl _)
      | (with_reducible exact LeO.none _)
      | (with_reducible refine LeO.ite ?_ ?_)
      | (with_reducible refine LeO.bind ?_ (fun _ => ?_))
      | exact ih0 _ _ _
      | exact LeO.none _
      | refine LeO.ite ?_ ?_
      | refine LeO.bind ?_ (fun _ => ?_)
set_option maxHeartbeats 8000000 in
set_option maxRecDepth 100000 in
theorem icehouseref00_SameInts.calls (k : Nat) (A0 : Option Addr) (c0 : Nat) (l0 : List Int) (A1 : Option Addr) (c1 : Nat) (l1 : List Int) (r : Bool) (w : World) (hr0 : Kd.C (Kd.int .i64) w A0 l0.length l0) (hc0 : l0.length ≤ c0) (hr1 : Kd.C (Kd.int .i64) w A1 l1.length l1) (hc1 : l1.length ≤ c1) (h : icehouseref00_SameInts.f k l0 l1 = some r) :
    Calls Try.prog 15 #[.slice A0 l0.length c0, .slice A1 l1.length c1] w fun e w' => e = .returned (.bool r) ∧ Drawn0 w w' := by
  have HR0 := Aside0.mk hr0
  have HC0 := Aside0.mk hc0
  clear hr0 hc0
  have HR1 := Aside0.mk hr1
  have HC1 := Aside0.mk hc1
  clear hr1 hc1
  have H : (if (l0.length : Int) = (l1.length : Int) then (icehouseref00_SameInts.l0 k l0 l1 0) else (some false)) = some r := h
  clear h
  by_cases c3 : (l0.length : Int) = (l1.length : Int)
  · rw [if_pos c3] at H
    have c3b0 : ((l0.length : Int) == (l1.length : Int)) = true := beq_iff_eq.mpr c3
    have c3b1 : ((l0.length : Int) != (l1.length : Int)) = false := bne_eq_false_iff_eq.mpr c3
    have c3b2 : (l0.length == l1.length) = true := by first | simpa using c3 | (simp at c3 ⊢; omega)
    clear c3
    have H' := Aside0.mk H
    clear H
    go_enter Try.func15, Try.ntmps15
    go_wp2
    repeat (go_quiet (fail); try go_wp2)
    go_loopg [5] k (fun kq v5 w' => ∃ (x5_1 : Int), v5 = .int .i64 x5_1 ∧ Aside0 (icehouseref00_SameInts.l0 kq l0 l1 x5_1 = some r) ∧ Aside0 (kq ≤ k) ∧ Drawn0 w w')
    case atStart => exact ⟨(0), (by first | rfl | (simp; done) | (simp [*]; done)), H', ⟨Nat.le_refl _⟩, by repeat (first | exact Drawn0.refl _ | apply Drawn0.step)⟩
    case round =>
      clear H'
      try clear c1
      try clear p2
      try clear c3
      try clear c3b0
      try clear c3b1
      try clear c3b2
      obtain ⟨x5_1, rfl, HA, HK1, ⟨m1, rfl⟩⟩ := hrel
      cases gk with
      | zero => exact absurd HA.out (by simp [icehouseref00_SameInts.l0])
      | succ k1 =>
        have H := HA.out
        clear HA
        simp only [icehouseref00_SameInts.l0] at H
        by_cases c4 : x5_1 < (l0.length : Int)
        · rw [if_pos c4] at H
          have c4b0 : decide (x5_1 < (l0.length : Int)) = true := decide_eq_true c4
          clear c4
          by_cases c5 : 0 ≤ x5_1
          · rw [if_pos c5] at H
            have c5b0 : decide (0 ≤ x5_1) = true := decide_eq_true c5
            clear c5
            by_cases c6 : x5_1 < (l1.length : Int)
            · rw [if_pos c6] at H
              have c6b0 : decide (x5_1 < (l1.length : Int)) = true := decide_eq_true c6
              clear c6
              by_cases c7 : (rd l0 x5_1) = (rd l1 x5_1)
              · rw [if_pos c7] at H
                have c7b0 : ((rd l0 x5_1) == (rd l1 x5_1)) = true := beq_iff_eq.mpr c7
                have c7b1 : ((rd l0 x5_1) != (rd l1 x5_1)) = false := bne_eq_false_iff_eq.mpr c7
                clear c7
                have H' := Aside0.mk H
                clear H
                have p116 : 0 ≤ (x5_1 : Int) := of_decide_eq_true (by first | (with_reducible assumption) | assumption)
                have q116 : x5_1 < (l0.length : Int) := of_decide_eq_true (by first | (with_reducible assumption) | assumption)
                obtain ⟨ad116, e116, hx116_0⟩ := Kd.at_int HR0.out x5_1 p116 q116
                cases e116
                replace p116 := eq_true p116
                replace q116 := eq_true q116
                have p117 : 0 ≤ (x5_1 : Int) := of_decide_eq_true (by first | (with_reducible assumption) | assumption)
                have q117 : x5_1 < (l1.length : Int) := of_decide_eq_true (by first | (with_reducible assumption) | assumption)
                obtain ⟨ad117, e117, hx117_0⟩ := Kd.at_int HR1.out x5_1 p117 q117
                cases e117
                replace p117 := eq_true p117
                replace q117 := eq_true q117
                go_wp2
                repeat (go_quiet (fail); try go_wp2)
                go_roundg k1
                case measure => have := HK1.out; omega
                case rel => exact ⟨(wrap64 (x5_1 + 1)), (by first | rfl | (simp; done) | (simp [*]; done)), H', ⟨by have := HK1.out; omega⟩, by repeat (first | exact Drawn0.refl _ | apply Drawn0.step)⟩
              · rw [if_neg c7] at H
                have c7b0 : ((rd l0 x5_1) == (rd l1 x5_1)) = false := beq_eq_false_iff_ne.mpr c7
                have c7b1 : ((rd l0 x5_1) != (rd l1 x5_1)) = true := bne_iff_ne.mpr c7
                obtain rfl := Option.some.inj H
                have p116 : 0 ≤ (x5_1 : Int) := of_decide_eq_true (by first | (with_reducible assumption) | assumption)
                have q116 : x5_1 < (l0.length : Int) := of_decide_eq_true (by first | (with_reducible assumption) | assumption)
                obtain ⟨ad116, e116, hx116_0⟩ := Kd.at_int HR0.out x5_1 p116 q116
                cases e116
                replace p116 := eq_true p116
                replace q116 := eq_true q116
                have p117 : 0 ≤ (x5_1 : Int) := of_decide_eq_true (by first | (with_reducible assumption) | assumption)
                have q117 : x5_1 < (l1.length : Int) := of_decide_eq_true (by first | (with_reducible assumption) | assumption)
                obtain ⟨ad117, e117, hx117_0⟩ := Kd.at_int HR1.out x5_1 p117 q117
                cases e117
                replace p117 := eq_true p117
                replace q117 := eq_true q117
                go_wp2
                repeat (go_quiet (fail); try go_wp2)
                go_ret
                exact ⟨by first | rfl | (simp; done) | (simp [*]; done), by repeat (first | exact Drawn0.refl _ | apply Drawn0.step)⟩
            · rw [if_neg c6] at H
              exact absurd H (by simp)
          · rw [if_neg c5] at H
            exact absurd H (by simp)
        · rw [if_neg c4] at H
          have c4b0 : decide (x5_1 < (l0.length : Int)) = false := decide_eq_false c4
          clear c4
          obtain rfl := Option.some.inj H
          go_wp2
          repeat (go_quiet (fail); try go_wp2)
          go_ret
          exact ⟨by first | rfl | (simp; done) | (simp [*]; done), by repeat (first | exact Drawn0.refl _ | apply Drawn0.step)⟩
  · rw [if_neg c3] at H
    have c3b0 : ((l0.length : Int) == (l1.length : Int)) = false := beq_eq_false_iff_ne.mpr c3
    have c3b1 : ((l0.length : Int) != (l1.length : Int)) = true := bne_iff_ne.mpr c3
    have c3b2 : (l0.length == l1.length) = false := by first | simpa using c3 | (simp at c3 ⊢; omega)
    obtain rfl := Option.some.inj H
    go_enter Try.func15, Try.ntmps15
    go_wp2
    repeat (go_quiet (fail); try go_wp2)
    go_ret
    exact ⟨by first | rfl | (simp; done) | (simp [*]; done), by repeat (first | exact Drawn0.refl _ | apply Drawn0.step)⟩
end Go.Proofs.Yteocngcojijnkaa.QA
namespace Go.Proofs.Yteocngcojijnkaa.QA
open Go.RowKit Go.Proofs.YteocngcojijnkaaW.PrintWords Go.Proofs.YteocngcojijnkaaW.PrintLast Go.Proofs.YteocngcojijnkaaW.PrintMore
attribute [local go_sem] max2_int min2_int max_two min_two max_three min_three max_four min_four   -- for this text's walks alone
set_option linter.unusedVariables false
set_option linter.unusedSimpArgs false
/-! ### icehouselaw10_QuorumEnough: function 3 -/
mutual
def icehouselaw10_QuorumEnough.j0 : Nat → List Int → List Int → Int → Bool → Option (Bool)
  | 0, _, _, _, _ => none
  | k + 1, x0, x1, x2, x15 => if x15 = true then ((Fk.known.f).bind fun t118 => (some t118)) else (if x2 > 0 then (icehouselaw10_QuorumEnough.j1 k x0 x1 x2 0 (decide (x2 ≤ 100000))) else (icehouselaw10_QuorumEnough.j1 k x0 x1 x2 0 false))
def icehouselaw10_QuorumEnough.j1 : Nat → List Int → List Int → Int → Int → Bool → Option (Bool)
  | 0, _, _, _, _, _ => none
  | k + 1, x0, x1, x2, x7, x22 => if x22 = true then ((icehouseref10_Need.f k x2).bind fun t119 => (icehouselaw10_QuorumEnough.j2 k x0 x1 x2 t119)) else (icehouselaw10_QuorumEnough.j2 k x0 x1 x2 x7)
def icehouselaw10_QuorumEnough.j2 : Nat → List Int → List Int → Int → Int → Option (Bool)
  | 0, _, _, _, _ => none
  | k + 1, x0, x1, x2, x7 => if x2 ≤ 100000 then ((QO.quorum_Need.f x2).bind fun t120 => (icehouselaw10_QuorumEnough.j3 k x0 x1 (t120 != x7))) else (icehouselaw10_QuorumEnough.j3 k x0 x1 false)
def icehouselaw10_QuorumEnough.j3 : Nat → List Int → List Int → Bool → Option (Bool)
  | 0, _, _, _ => none
  | k + 1, x0, x1, x32 => if x32 = true then (some false) else ((QE.quorum_Enough.f k x0 x1).bind fun t121 => ((icehouseref10_Enough.f k x0 x1).bind fun t122 => (if (t121 == t122) = true then ((Cm.common.f k x0 x1).bind fun t123 => ((icehouseref10_Common.f k x0 x1).bind fun t126 => ((icehouseref00_SameInts.f k t123 t126).bind fun t129 => (if t129 = true then ((Fk.known.f).bind fun t130 => (some t130)) else (some false))))) else (some false))))
end
def icehouselaw10_QuorumEnough.f (k : Nat) (l0 : List Int) (l1 : List Int) (a2 : Int) : Option (Bool) := if (l0.length : Int) > 60 then (icehouselaw10_QuorumEnough.j0 k l0 l1 a2 true) else (icehouselaw10_QuorumEnough.j0 k l0 l1 a2 (decide ((l1.length : Int) > 60)))
theorem icehouselaw10_QuorumEnough.mono_l : ∀ k, (∀ y0 y1 y2 y3, LeO (icehouselaw10_QuorumEnough.j0 k y0 y1 y2 y3) (icehouselaw10_QuorumEnough.j0 (k + 1) y0 y1 y2 y3)) ∧ (∀ y0 y1 y2 y3 y4, LeO (icehouselaw10_QuorumEnough.j1 k y0 y1 y2 y3 y4) (icehouselaw10_QuorumEnough.j1 (k + 1) y0 y1 y2 y3 y4)) ∧ (∀ y0 y1 y2 y3, LeO (icehouselaw10_QuorumEnough.j2 k y0 y1 y2 y3) (icehouselaw10_QuorumEnough.j2 (k + 1) y0 y1 y2 y3)) ∧ (∀ y0 y1 y2, LeO (icehouselaw10_QuorumEnough.j3 k y0 y1 y2) (icehouselaw10_QuorumEnough.j3 (k + 1) y0 y1 y2))
  | 0 => ⟨fun _ _ _ _ r h => by simp [icehouselaw10_QuorumEnough.j0] at h, fun _ _ _ _ _ r h => by simp [icehouselaw10_QuorumEnough.j1] at h, fun _ _ _ _ r h => by simp [icehouselaw10_QuorumEnough.j2] at h, fun _ _ _ r h => by simp [icehouselaw10_QuorumEnough.j3] at h⟩
  | k + 1 => by
    obtain ⟨ih0, ih1, ih2, ih3⟩ := icehouselaw10_QuorumEnough.mono_l k
    refine ⟨?_, ?_, ?_, ?_⟩
    · intro y0 y1 y2 y3
      unfold icehouselaw10_QuorumEnough.j0
      repeat' first
      | (with_reducible exact ih0 _ _ _ _)
      | (with_reducible exact ih1 _ _ _ _ _)
      | (with_reducible exact ih2 _ _ _ _)
      | (with_reducible exact ih3 _ _ _)
      | (with_reducible exact Cm.common.mono _ _ _)
      | (with_reducible exact QE.quorum_Enough.mono _ _ _)
      | (with_reducible exact icehouseref00_SameInts.mono _ _ _)
      | (with_reducible exact icehouseref10_Common.mono _ _ _)
      | (with_reducible exact icehouseref10_Enough.mono _ _ _)
      | (with_reducible exact icehouseref10_Need.mono _ _)
      | (with_reducible exact LeO.refl _)
      | (with_reducible exact LeO.none _)
      | (with_reducible refine LeO.ite ?_ ?_)
      | (with_reducible refine LeO.bind ?_ (fun _ => ?_))
      | exact ih0 _ _ _ _
      | exact ih1 _ _ _ _ _
      | exact ih2 _ _ _ _
      | exact ih3 _ _ _
      | exact Cm.common.mono _ _ _
      | exact QE.quorum_Enough.mono _ _ _
      | exact icehouseref00_SameInts.mono _ _ _
      | exact icehouseref10_Common.mono _ _ _
      | exact icehouseref10_Enough.mono _ _ _
      | exact icehouseref10_Need.mono _ _
      | exact LeO.none _
      | refine LeO.ite ?_ ?_
      | refine LeO.bind ?_ (fun _ => ?_)
    · intro y0 y1 y2 y3 y4
      unfold icehouselaw10_QuorumEnough.j1
      repeat' first
      | (with_reducible exact ih0 _ _ _ _)
      | (with_reducible exact ih1 _ _ _ _ _)
      | (with_reducible exact ih2 _ _ _ _)
      | (with_reducible exact ih3 _ _ _)
      | (with_reducible exact Cm.common.mono _ _ _)
      | (with_reducible exact QE.quorum_Enough.mono _ _ _)
      | (with_reducible exact icehouseref00_SameInts.mono _ _ _)
      | (with_reducible exact icehouseref10_Common.mono _ _ _)
      | (with_reducible exact icehouseref10_Enough.mono _ _ _)
      | (with_reducible exact icehouseref10_Need.mono _ _)
      | (with_reducible exact LeO.refl _)
      | (with_reducible exact LeO.none _)
      | (with_reducible refine LeO.ite ?_ ?_)
      | (with_reducible refine LeO.bind ?_ (fun _ => ?_))
      | exact ih0 _ _ _ _
      | exact ih1 _ _ _ _ _
      | exact ih2 _ _ _ _
      | exact ih3 _ _ _
      | exact Cm.common.mono _ _ _
      | exact QE.quorum_Enough.mono _ _ _
      | exact icehouseref00_SameInts.mono _ _ _
      | exact icehouseref10_Common.mono _ _ _
      | exact icehouseref10_Enough.mono _ _ _
      | exact icehouseref10_Need.mono _ _
      | exact LeO.none _
      | refine LeO.ite ?_ ?_
      | refine LeO.bind ?_ (fun _ => ?_)
    · intro y0 y1 y2 y3
      unfold icehouselaw10_QuorumEnough.j2
      repeat' first
      | (with_reducible exact ih0 _ _ _ _)
      | (with_reducible exact ih1 _ _ _ _ _)
      | (with_reducible exact ih2 _ _ _ _)
      | (with_reducible exact ih3 _ _ _)
      | (with_reducible exact Cm.common.mono _ _ _)
      | (with_reducible exact QE.quorum_Enough.mono _ _ _)
      | (with_reducible exact icehouseref00_SameInts.mono _ _ _)
      | (with_reducible exact icehouseref10_Common.mono _ _ _)
      | (with_reducible exact icehouseref10_Enough.mono _ _ _)
      | (with_reducible exact icehouseref10_Need.mono _ _)
      | (with_reducible exact LeO.refl _)
      | (with_reducible exact LeO.none _)
      | (with_reducible refine LeO.ite ?_ ?_)
      | (with_reducible refine LeO.bind ?_ (fun _ => ?_))
      | exact ih0 _ _ _ _
      | exact ih1 _ _ _ _ _
      | exact ih2 _ _ _ _
      | exact ih3 _ _ _
      | exact Cm.common.mono _ _ _
      | exact QE.quorum_Enough.mono _ _ _
      | exact icehouseref00_SameInts.mono _ _ _
      | exact icehouseref10_Common.mono _ _ _
      | exact icehouseref10_Enough.mono _ _ _
      | exact icehouseref10_Need.mono _ _
      | exact LeO.none _
      | refine LeO.ite ?_ ?_
      | refine LeO.bind ?_ (fun _ => ?_)
    · intro y0 y1 y2
      unfold icehouselaw10_QuorumEnough.j3
      repeat' first
      | (with_reducible exact ih0 _ _ _ _)
      | (with_reducible exact ih1 _ _ _ _ _)
      | (with_reducible exact ih2 _ _ _ _)
      | (with_reducible exact ih3 _ _ _)
      | (with_reducible exact Cm.common.mono _ _ _)
      | (with_reducible exact QE.quorum_Enough.mono _ _ _)
      | (with_reducible exact icehouseref00_SameInts.mono _ _ _)
      | (with_reducible exact icehouseref10_Common.mono _ _ _)
      | (with_reducible exact icehouseref10_Enough.mono _ _ _)
      | (with_reducible exact icehouseref10_Need.mono _ _)
      | (with_reducible exact LeO.refl _)
      | (with_reducible exact LeO.none _)
      | (with_reducible refine LeO.ite ?_ ?_)
      | (with_reducible refine LeO.bind ?_ (fun _ => ?_))
      | exact ih0 _ _ _ _
      | exact ih1 _ _ _ _ _
      | exact ih2 _ _ _ _
      | exact ih3 _ _ _
      | exact Cm.common.mono _ _ _
      | exact QE.quorum_Enough.mono _ _ _
      | exact icehouseref00_SameInts.mono _ _ _
      | exact icehouseref10_Common.mono _ _ _
      | exact icehouseref10_Enough.mono _ _ _
      | exact icehouseref10_Need.mono _ _
      | exact LeO.none _
      | refine LeO.ite ?_ ?_
      | refine LeO.bind ?_ (fun _ => ?_)
/-- THE ONE PURE STATEMENT of icehouselaw10_QuorumEnough: yours. -/
def icehouselaw10_QuorumEnough.Pure : Prop := ∀ (l0 : List Int) (l1 : List Int) (a2 : Int), l0.length ≤ maxLen → l0.length * 8 ≤ 140737488351232 → (∀ x ∈ l0, (Lit.int .i64 x).wf = true) → l1.length ≤ maxLen → l1.length * 8 ≤ 140737488351232 → (∀ x ∈ l1, (Lit.int .i64 x).wf = true) → (Lit.int .i64 a2).wf = true → ∃ k, icehouselaw10_QuorumEnough.f k l0 l1 a2 = some true
/-! ### icehouseref10_Meet: function 19 -/
def icehouseref10_Meet.f (a0 : Int) (a1 : Int) (a2 : Int) : Option (Bool) := if a1 < 0 then (some false) else (if a2 < 0 then (some false) else (if a1 > a0 then (some false) else (if a2 > a0 then (some false) else (some (decide ((wrap64 (a1 + a2)) > a0))))))
end Go.Proofs.Yteocngcojijnkaa.QA
namespace Go.Proofs.Yteocngcojijnkaa.QA
open Go.RowKit Go.Proofs.YteocngcojijnkaaW.PrintWords Go.Proofs.YteocngcojijnkaaW.PrintLast Go.Proofs.YteocngcojijnkaaW.PrintMore
attribute [local go_sem] max2_int min2_int max_two min_two max_three min_three max_four min_four   -- for this text's walks alone
set_option linter.unusedVariables false
set_option linter.unusedSimpArgs false
/-! ### icehouselaw10_QuorumMeets: function 5 -/
mutual
def icehouselaw10_QuorumMeets.j0 : Nat → List Int → List Int → List Int → Bool → Option (Bool)
  | 0, _, _, _, _ => none
  | k + 1, x0, x1, x2, x23 => if x23 = true then ((Fk.known.f).bind fun t131 => (some t131)) else ((Cm.common.f k x0 x1).bind fun t132 => ((Cm.common.f k x0 x2).bind fun t135 => ((QE.quorum_Enough.f k x0 x1).bind fun t138 => (if t138 = true then ((QE.quorum_Enough.f k x0 x2).bind fun t139 => (icehouselaw10_QuorumMeets.j1 k x0 t132 t135 t139)) else (icehouselaw10_QuorumMeets.j1 k x0 t132 t135 false)))))
def icehouselaw10_QuorumMeets.j1 : Nat → List Int → List Int → List Int → Bool → Option (Bool)
  | 0, _, _, _, _ => none
  | k + 1, x0, x7, x8, x9 => (Cm.common.f k x0 x0).bind fun t140 => (if x9 = true then ((Cm.common.f k x7 x8).bind fun t143 => (icehouselaw10_QuorumMeets.j2 k x7 x8 x9 (t140.length : Int) ((t143.length : Int) == 0))) else (icehouselaw10_QuorumMeets.j2 k x7 x8 x9 (t140.length : Int) false))
def icehouselaw10_QuorumMeets.j2 : Nat → List Int → List Int → Bool → Int → Bool → Option (Bool)
  | 0, _, _, _, _, _ => none
  | k + 1, x7, x8, x9, x10, x50 => if x50 = true then (some false) else ((QE.quorum_Meet.f x10 (x7.length : Int) (x8.length : Int)).bind fun t146 => ((icehouseref10_Meet.f x10 (x7.length : Int) (x8.length : Int)).bind fun t147 => (if (t146 == t147) = true then (if x9 = true then ((QE.quorum_Meet.f x10 (x7.length : Int) (x8.length : Int)).bind fun t148 => (if t148 = true then ((Fk.known.f).bind fun t149 => (some t149)) else (some false))) else ((Fk.known.f).bind fun t150 => (some t150))) else (some false))))
end
def icehouselaw10_QuorumMeets.f (k : Nat) (l0 : List Int) (l1 : List Int) (l2 : List Int) : Option (Bool) := if (l0.length : Int) > 40 then (icehouselaw10_QuorumMeets.j0 k l0 l1 l2 true) else (if (l1.length : Int) > 40 then (icehouselaw10_QuorumMeets.j0 k l0 l1 l2 true) else (icehouselaw10_QuorumMeets.j0 k l0 l1 l2 (decide ((l2.length : Int) > 40))))
theorem icehouselaw10_QuorumMeets.mono_l : ∀ k, (∀ y0 y1 y2 y3, LeO (icehouselaw10_QuorumMeets.j0 k y0 y1 y2 y3) (icehouselaw10_QuorumMeets.j0 (k + 1) y0 y1 y2 y3)) ∧ (∀ y0 y1 y2 y3, LeO (icehouselaw10_QuorumMeets.j1 k y0 y1 y2 y3) (icehouselaw10_QuorumMeets.j1 (k + 1) y0 y1 y2 y3)) ∧ (∀ y0 y1 y2 y3 y4, LeO (icehouselaw10_QuorumMeets.j2 k y0 y1 y2 y3 y4) (icehouselaw10_QuorumMeets.j2 (k + 1) y0 y1 y2 y3 y4))
  | 0 => ⟨fun _ _ _ _ r h => by simp [icehouselaw10_QuorumMeets.j0] at h, fun _ _ _ _ r h => by simp [icehouselaw10_QuorumMeets.j1] at h, fun _ _ _ _ _ r h => by simp [icehouselaw10_QuorumMeets.j2] at h⟩
  | k + 1 => by
    obtain ⟨ih0, ih1, ih2⟩ := icehouselaw10_QuorumMeets.mono_l k
    refine ⟨?_, ?_, ?_⟩
    · intro y0 y1 y2 y3
      unfold icehouselaw10_QuorumMeets.j0
      repeat' first
      | (with_reducible exact ih0 _ _ _ _)
      | (with_reducible exact ih1 _ _ _ _)
      | (with_reducible exact ih2 _ _ _ _ _)
      | (with_reducible exact Cm.common.mono _ _ _)
      | (with_reducible exact QE.quorum_Enough.mono _ _ _)
      | (with_reducible exact LeO.refl _)
      | (with_reducible exact LeO.none _)
      | (with_reducible refine LeO.ite ?_ ?_)
      | (with_reducible refine LeO.bind ?_ (fun _ => ?_))
      | exact ih0 _ _ _ _
      | exact ih1 _ _ _ _
      | exact ih2 _ _ _ _ _
      | exact Cm.common.mono _ _ _
      | exact QE.quorum_Enough.mono _ _ _
      | exact LeO.none _
      | refine LeO.ite ?_ ?_
      | refine LeO.bind ?_ (fun _ => ?_)
    · intro y0 y1 y2 y3
      unfold icehouselaw10_QuorumMeets.j1
      repeat' first
      | (with_reducible exact ih0 _ _ _ _)
      | (with_reducible exact ih1 _ _ _ _)
      | (with_reducible exact ih2 _ _ _ _ _)
      | (with_reducible exact Cm.common.mono _ _ _)
      | (with_reducible exact QE.quorum_Enough.mono _ _ _)
      | (with_reducible exact LeO.refl _)
      | (with_reducible exact LeO.none _)
      | (with_reducible refine LeO.ite ?_ ?_)
      | (with_reducible refine LeO.bind ?_ (fun _ => ?_))
      | exact ih0 _ _ _ _
      | exact ih1 _ _ _ _
      | exact ih2 _ _ _ _ _
      | exact Cm.common.mono _ _ _
      | exact QE.quorum_Enough.mono _ _ _
      | exact LeO.none _
      | refine LeO.ite ?_ ?_
      | refine LeO.bind ?_ (fun _ => ?_)
    · intro y0 y1 y2 y3 y4
      unfold icehouselaw10_QuorumMeets.j2
      repeat' first
      | (with_reducible exact ih0 _ _ _ _)
      | (with_reducible exact ih1 _ _ _ _)
      | (with_reducible exact ih2 _ _ _ _ _)
      | (with_reducible exact Cm.common.mono _ _ _)
      | (with_reducible exact QE.quorum_Enough.mono _ _ _)
      | (with_reducible exact LeO.refl _)
      | (with_reducible exact LeO.none _)
      | (with_reducible refine LeO.ite ?_ ?_)
      | (with_reducible refine LeO.bind ?_ (fun _ => ?_))
      | exact ih0 _ _ _ _
      | exact ih1 _ _ _ _
      | exact ih2 _ _ _ _ _
      | exact Cm.common.mono _ _ _
      | exact QE.quorum_Enough.mono _ _ _
      | exact LeO.none _
      | refine LeO.ite ?_ ?_
      | refine LeO.bind ?_ (fun _ => ?_)
/-- THE ONE PURE STATEMENT of icehouselaw10_QuorumMeets: yours. -/
def icehouselaw10_QuorumMeets.Pure : Prop := ∀ (l0 : List Int) (l1 : List Int) (l2 : List Int), l0.length ≤ maxLen → l0.length * 8 ≤ 140737488351232 → (∀ x ∈ l0, (Lit.int .i64 x).wf = true) → l1.length ≤ maxLen → l1.length * 8 ≤ 140737488351232 → (∀ x ∈ l1, (Lit.int .i64 x).wf = true) → l2.length ≤ maxLen → l2.length * 8 ≤ 140737488351232 → (∀ x ∈ l2, (Lit.int .i64 x).wf = true) → ∃ k, icehouselaw10_QuorumMeets.f k l0 l1 l2 = some true
end Go.Proofs.Yteocngcojijnkaa.QA
namespace Go.Proofs.Yteocngcojijnkaa.QA
open Go.RowKit Go.Proofs.YteocngcojijnkaaW.PrintWords Go.Proofs.YteocngcojijnkaaW.PrintLast Go.Proofs.YteocngcojijnkaaW.PrintMore
attribute [local go_sem] max2_int min2_int max_two min_two max_three min_three max_four min_four   -- for this text's walks alone
set_option linter.unusedVariables false
set_option linter.unusedSimpArgs false
end Go.Proofs.Yteocngcojijnkaa.QA
namespace Go.Proofs.Yteocngcojijnkaa.QV
open Go.RowKit Go.Proofs.YteocngcojijnkaaW.PrintWords Go.Proofs.YteocngcojijnkaaW.PrintLast Go.Proofs.YteocngcojijnkaaW.PrintMore
attribute [local go_sem] max2_int min2_int max_two min_two max_three min_three max_four min_four   -- for this text's walks alone
set_option linter.unusedVariables false
set_option linter.unusedSimpArgs false
def errW : Option Int → Value
  | none => .nilIface
  | some c => .iface 0 (.int .i64 c)
theorem errW_none : errW none = .nilIface := rfl
theorem errW_some (c : Int) : errW (some c) = .iface 0 (.int .i64 c) := rfl
theorem info3 : (Try.prog.info? 3).map (fun i => (i.zero, i.size, i.bytes)) = some (some (.int .i64 0), 1, 8) := by kernel_rfl
-- the values' own types
def rd_L1 (xs : List (List Int)) (i : Int) : (List Int) := xs.getD i.toNat ([] : List Int)
theorem at_L1 {w : World} {A : Option Addr} {n : Nat} {xs : List (List Int)} (h : Kd.C (Kd.slice 3 (Kd.int .i64)) w A n xs) (i : Int) (h0 : 0 ≤ i) (h1 : i < n) : ∃ ad A0 c0, A = some ad ∧ w.cell? (ad.add i.toNat) = some (.slice A0 (rd_L1 xs i).length c0) ∧ (rd_L1 xs i).length ≤ c0 ∧ (Kd.int .i64).C w A0 (rd_L1 xs i).length (rd_L1 xs i) := by
  obtain ⟨ad, c, e, _, hK, hc0⟩ := Kd.C_get h ([] : List Int) i h0 h1
  have hc : ∀ j u, c[j]? = some u → w.cell? (ad.add (i.toNat * 1 + j)) = some u := hc0
  obtain ⟨A0, c0, rfl, l0, g0⟩ := hK
  exact ⟨ad, A0, c0, e, by have hq := hc 0 _ rfl; rwa [Nat.mul_one, Nat.add_zero] at hq, l0, g0⟩
end Go.Proofs.Yteocngcojijnkaa.QV
namespace Go.Proofs.Yteocngcojijnkaa.QV
open Go.RowKit Go.Proofs.YteocngcojijnkaaW.PrintWords Go.Proofs.YteocngcojijnkaaW.PrintLast Go.Proofs.YteocngcojijnkaaW.PrintMore
attribute [local go_sem] max2_int min2_int max_two min_two max_three min_three max_four min_four   -- for this text's walks alone
set_option linter.unusedVariables false
set_option linter.unusedSimpArgs false
/-! ### icehouseref10_Covers: function 29 -/
def icehouseref10_Covers.l0 : Nat → List Int → List (List Int) → Int → Option (Bool)
  | 0, _, _, _ => none
  | k + 1, x1, x5, x6 => if x6 < (x5.length : Int) then (if 0 ≤ x6 then ((QA.icehouseref10_Enough.f k (rd_L1 x5 x6) x1).bind fun t106 => (if t106 = true then (icehouseref10_Covers.l0 k x1 x5 (wrap64 (x6 + 1))) else (some false))) else (none)) else (some true)
def icehouseref10_Covers.f (k : Nat) (l0_0 : List Int) (a0_1 : Int) (a0_2 : Int) (l1 : List Int) : Option (Bool) := (QH.icehouseref09_Lists.f k l0_0 a0_1 a0_2).bind fun t102 => (icehouseref10_Covers.l0 k l1 t102 0)
theorem icehouseref10_Covers.mono_l : ∀ k, (∀ y0 y1 y2, LeO (icehouseref10_Covers.l0 k y0 y1 y2) (icehouseref10_Covers.l0 (k + 1) y0 y1 y2))
  | 0 => fun _ _ _ r h => by simp [icehouseref10_Covers.l0] at h
  | k + 1 => by
    have ih0 := icehouseref10_Covers.mono_l k
    · intro y0 y1 y2
      unfold icehouseref10_Covers.l0
      repeat' first
      | (with_reducible exact ih0 _ _ _)
      | (with_reducible exact QA.icehouseref10_Enough.mono _ _ _)
      | (with_reducible exact QH.icehouseref09_Lists.mono _ _ _ _)
      | (with_reducible exact LeO.refl _)
      | (with_reducible exact LeO.none _)
      | (with_reducible refine LeO.ite ?_ ?_)
      | (with_reducible refine LeO.bind ?_ (fun _ => ?_))
      | exact ih0 _ _ _
      | exact QA.icehouseref10_Enough.mono _ _ _
      | exact QH.icehouseref09_Lists.mono _ _ _ _
      | exact LeO.none _
      | refine LeO.ite ?_ ?_
      | refine LeO.bind ?_ (fun _ => ?_)
theorem icehouseref10_Covers.mono : ∀ a0 a1 a2 a3 k, LeO (icehouseref10_Covers.f k a0 a1 a2 a3) (icehouseref10_Covers.f (k + 1) a0 a1 a2 a3) := by
  intro a0 a1 a2 a3 k
  have ih0 := icehouseref10_Covers.mono_l k
  unfold icehouseref10_Covers.f
  repeat' first
      | (with_reducible exact ih0 _ _ _)
      | (with_reducible exact QA.icehouseref10_Enough.mono _ _ _)
      | (with_reducible exact QH.icehouseref09_Lists.mono _ _ _ _)
      | (with_reducible exact LeO.refl _)
      | (with_reducible exact LeO.none _)
      | (with_reducible refine LeO.ite ?_ ?_)
      | (with_reducible refine LeO.bind ?_ (fun _ => ?_))
      | exact ih0 _ _ _
      | exact QA.icehouseref10_Enough.mono _ _ _
      | exact QH.icehouseref09_Lists.mono _ _ _ _
      | exact LeO.none _
      | refine LeO.ite ?_ ?_
      | refine LeO.bind ?_ (fun _ => ?_)
set_option maxHeartbeats 8000000 in
set_option maxRecDepth 100000 in
theorem icehouseref10_Covers.calls (k : Nat) (A0_0 : Option Addr) (c0_0 : Nat) (l0_0 : List Int) (a0_1 : Int) (a0_2 : Int) (A1 : Option Addr) (c1 : Nat) (l1 : List Int) (r : Bool) (w : World) (hr0_0 : Kd.C (Kd.int .i64) w A0_0 l0_0.length l0_0) (hc0_0 : l0_0.length ≤ c0_0) (hr1 : Kd.C (Kd.int .i64) w A1 l1.length l1) (hc1 : l1.length ≤ c1) (h : icehouseref10_Covers.f k l0_0 a0_1 a0_2 l1 = some r) :
    Calls Try.prog 29 #[.agg #[.slice A0_0 l0_0.length c0_0, .int .i64 a0_1, .int .i64 a0_2], .slice A1 l1.length c1] w fun e w' => e = .returned (.bool r) ∧ Below w.heap.size w w' := by
  have hu42 := Try.underlying42
  have HR0_0 := Aside0.mk hr0_0
  have HC0_0 := Aside0.mk hc0_0
  clear hr0_0 hc0_0
  have HR1 := Aside0.mk hr1
  have HC1 := Aside0.mk hc1
  clear hr1 hc1
  have HB := Aside0.mk (Below.refl w.heap.size w)
  have H : ((QH.icehouseref09_Lists.f k l0_0 a0_1 a0_2).bind fun t102 => (icehouseref10_Covers.l0 k l1 t102 0)) = some r := h
  clear h
  replace H := Option.bind_eq_some_iff.mp H
  obtain ⟨t102, A30, H⟩ := H
  replace H : (icehouseref10_Covers.l0 k l1 t102 0) = some r := H
  have A3 := Aside0.mk A30
  clear A30
  have H' := Aside0.mk H
  clear H
  go_enter Try.func29, Try.ntmps29
  go_wp2_with (first | ((with_reducible refine gate_dst (N := 2) rfl ?_); refine box_event ?hg (N := 2) ?hd (cs := #[.slice A0_0 l0_0.length c0_0, .int .i64 a0_1, .int .i64 a0_2]) (t := 42) ?hr ?_; (case hd => rfl); (case hg => rfl); (case hr => first | (go_simp; done) | (go_simp; rfl)); intro gb101 hg w4 hbox hb; have n0_ := Aside0.mk (below_step (by repeat (first | (with_reducible first | exact HB.out | apply below_alloc | apply pw_below_drewN | apply below_drew1) | exact HB.out)) hb); have n1_ := Aside0.mk (hbox); have n2_ := Aside0.mk ((by rw [hg]; exact (below_size (by repeat (first | (with_reducible first | exact HB.out | apply below_alloc | apply pw_below_drewN | apply below_drew1) | exact HB.out))) : w.heap.size ≤ gb101)); have n3_ := Aside0.mk ((by rw [hg]; exact (below_size (by repeat (first | (with_reducible first | exact HB.out | apply below_alloc | apply pw_below_drewN | apply below_drew1) | exact HB.out))) : w.heap.size ≤ gb101)); clear HB; have HB := n0_; have BK101 := n1_; have GW101 := n2_; have GE101 := n3_; clear n0_ n1_ n2_ n3_; clear hb hbox hg; have hcz5_0 : w4.cell? ⟨gb101, 0, none⟩ = some (.slice A0_0 l0_0.length c0_0) := (blk_cell BK101.out 0).trans rfl; have hcz5_1 : w4.cell? ⟨gb101, 1, none⟩ = some (.int .i64 a0_1) := (blk_cell BK101.out 1).trans rfl; have hcz5_2 : w4.cell? ⟨gb101, 2, none⟩ = some (.int .i64 a0_2) := (blk_cell BK101.out 2).trans rfl; have hfz5_0 := blk_frozen BK101.out 0; have hfz5_1 := blk_frozen BK101.out 1; have hfz5_2 := blk_frozen BK101.out 2) | ((with_reducible refine gate_callee (f := 41) rfl ?_); refine goesL_ (some 8) rfl rfl Try.func41 (by kernel_rfl) rfl #[.agg #[.slice A0_0 l0_0.length c0_0, .int .i64 a0_1, .int .i64 a0_2]] rfl (by (try simp only [List.map_toArray, List.map_cons, List.map_nil]); first | done | rfl | (simp only [List.length_drop, List.length_take]; rfl)) ?_; (with_reducible refine (QH.icehouseref09_Lists.calls k _ _ l0_0 a0_1 a0_2 t102 _ ?side1 ?side2 A3.out).mono ?_); (case side1 => repeat (first | exact (Kd.C_below HR0_0.out HB.out) | (with_reducible refine Kd.C_alloc ?_ _) | (with_reducible refine Kd.C_drewN ?_ _) | (with_reducible refine Kd.C_drew ?_))); (case side2 => exact HC0_0.out); rintro e w6 ⟨v103, rfl, ho0, hb⟩; refine ⟨_, rfl, ?_⟩; have n0_ := Aside0.mk (Kd.S_lower ho0 (below_size (by repeat (first | (with_reducible first | exact HB.out | apply below_alloc | apply pw_below_drewN | apply below_drew1 | refine below_set ?_ GE101.out) | exact HB.out)))); have n1_ := Aside0.mk (blk_below (g := gb101) (o := .cells #[.slice A0_0 l0_0.length c0_0, .int .i64 a0_1, .int .i64 a0_2] 42 (0, 0)) (by (with_reducible repeat (first | refine blk_drewN ?_ _ | refine blk_drew ?_ | refine blk_alloc ?_ _)); exact BK101.out) hb); have n2_ := Aside0.mk (below_step (by repeat (first | (with_reducible first | exact HB.out | apply below_alloc | apply pw_below_drewN | apply below_drew1 | refine below_set ?_ GE101.out) | exact HB.out)) hb); clear BK101; clear HB; have HO104 := n0_; have BK101 := n1_; have HB := n2_; clear n0_ n1_ n2_; (try clear hb); (try clear hb2); (try clear hk); (try clear hi); (try clear ho0)))
  go_loopg [6] k (fun kq v6 w' => ∃ (x6_1 : Int), v6 = .int .i64 x6_1 ∧ Aside0 (icehouseref10_Covers.l0 kq l1 t102 x6_1 = some r) ∧ Aside0 (kq ≤ k) ∧ Aside0 (Kd.S (Kd.slice 3 (Kd.int .i64)) 22 w' w.heap.size (fun _ => True) v103 t102) ∧ Aside0 (w'.heap[gb101]? = some (.cells #[(.slice A0_0 l0_0.length c0_0), .int .i64 a0_1, .int .i64 a0_2] 42 (0, 0))) ∧ Aside0 (Below w.heap.size w w'))
  case atStart => exact ⟨(0), (by first | rfl | (simp; done) | (simp [*]; done)), H', ⟨Nat.le_refl _⟩, ⟨by (with_reducible repeat (first | apply Kd.S_alloc | apply Kd.S_drewN | apply Kd.S_drew)); exact HO104.out⟩, ⟨by (with_reducible repeat (first | refine blk_drewN ?_ _ | refine blk_drew ?_ | refine blk_alloc ?_ _)); exact BK101.out⟩, ⟨by repeat (first | (with_reducible first | exact HB.out | apply below_alloc | apply pw_below_drewN | apply below_drew1 | refine below_set ?_ GE101.out) | exact HB.out)⟩⟩
  case round =>
    clear H'
    try clear c1
    try clear c2
    try clear p2
    try clear c4
    try clear hcz5_0
    try clear hcz5_1
    try clear hcz5_2
    try clear hfz5_0
    try clear hfz5_1
    try clear hfz5_2
    obtain ⟨x6_1, rfl, HA, HK1, HO_5, BK101, HB⟩ := hrel
    cases gk with
    | zero => exact absurd HA.out (by simp [icehouseref10_Covers.l0])
    | succ k1 =>
      have H := HA.out
      clear HA
      simp only [icehouseref10_Covers.l0] at H
      by_cases c7 : x6_1 < (t102.length : Int)
      · rw [if_pos c7] at H
        have c7b0 : decide (x6_1 < (t102.length : Int)) = true := decide_eq_true c7
        clear c7
        by_cases c8 : 0 ≤ x6_1
        · rw [if_pos c8] at H
          have c8b0 : decide (0 ≤ x6_1) = true := decide_eq_true c8
          clear c8
          replace H := Option.bind_eq_some_iff.mp H
          obtain ⟨t106, A90, H⟩ := H
          replace H : (if t106 = true then (icehouseref10_Covers.l0 k1 l1 t102 (wrap64 (x6_1 + 1))) else (some false)) = some r := H
          have A9 := Aside0.mk A90
          clear A90
          by_cases c10 : t106 = true
          · subst c10
            have H1 : (icehouseref10_Covers.l0 k1 l1 t102 (wrap64 (x6_1 + 1))) = some r := by rw [if_pos rfl] at H; exact H
            clear H
            have H := H1
            clear H1
            have H' := Aside0.mk H
            clear H
            obtain ⟨Ao11, co11, eo11⟩ := Kd.S_slice HO_5.out
            subst eo11
            have p105 : 0 ≤ (x6_1 : Int) := of_decide_eq_true (by first | (with_reducible assumption) | assumption)
            have q105 : x6_1 < (t102.length : Int) := of_decide_eq_true (by first | (with_reducible assumption) | assumption)
            obtain ⟨ad105, A105_0, c105_0, e105, hx105_0, hl105_0, hi105_0⟩ := at_L1 (Kd.S_reads' HO_5.out).2.2 x6_1 p105 q105
            cases e105
            obtain ⟨ce105, hce105, hMe105, hcc105⟩ := Kd.S_get HO_5.out [] x6_1 p105 (by first | exact q105 | exact of_decide_eq_true (by first | (with_reducible assumption) | assumption) | (have e_ := (Kd.S_reads' HO_5.out).1; omega))
            obtain ⟨ve105_0, rfl, ge105_0⟩ := hMe105
            have hv105_0 := hcc105 0 _ rfl
            rw [Nat.add_zero, show ((Kd.slice 3 (Kd.int .i64))).sz = 1 from rfl, Nat.mul_one] at hv105_0
            replace hv105_0 := Option.some.inj (hv105_0.symm.trans hx105_0)
            rw [hv105_0] at ge105_0
            have HL105_0 := Aside0.mk (show Kd.R (Kd.int .i64) 3 _ _ _ _ (rd_L1 t102 x6_1) from ge105_0)
            clear hv105_0 ge105_0
            clear hcc105 hce105
            have HR105_0 := Aside0.mk hi105_0
            have HC105_0 := Aside0.mk hl105_0
            clear hi105_0 hl105_0
            replace p105 := eq_true p105
            replace q105 := eq_true q105
            go_wp2_with (first | ((with_reducible refine gate_callee (f := 14) rfl ?_); refine goesL_ (some 20) rfl rfl Try.func14 (by kernel_rfl) rfl #[.slice A105_0 (rd_L1 t102 x6_1).length c105_0, .slice A1 l1.length c1] rfl (by (try simp only [List.map_toArray, List.map_cons, List.map_nil]); first | done | rfl | (simp only [List.length_drop, List.length_take]; rfl)) ?_; (with_reducible refine (QA.icehouseref10_Enough.calls k1 _ _ (rd_L1 t102 x6_1) _ _ l1 true _ ?side1 ?side2 ?side3 ?side4 A9.out).mono ?_); (case side1 => repeat (first | exact (by repeat (first | (with_reducible exact HR105_0.out) | (with_reducible refine Kd.C_alloc ?_ _) | (with_reducible refine Kd.C_drewN ?_ _) | (with_reducible refine Kd.C_drew ?_) | exact HR105_0.out)) | (with_reducible refine Kd.C_alloc ?_ _) | (with_reducible refine Kd.C_drewN ?_ _) | (with_reducible refine Kd.C_drew ?_))); (case side2 => exact HC105_0.out); (case side3 => repeat (first | exact (Kd.C_below HR1.out HB.out) | (with_reducible refine Kd.C_alloc ?_ _) | (with_reducible refine Kd.C_drewN ?_ _) | (with_reducible refine Kd.C_drew ?_))); (case side4 => exact HC1.out); rintro e w12 ⟨rfl, hb⟩; refine ⟨_, rfl, ?_⟩; have n0_ := Aside0.mk (Kd.S_below (by (with_reducible repeat (first | apply Kd.S_alloc | apply Kd.S_drewN | apply Kd.S_drew)); exact HO_5.out) hb); have n1_ := Aside0.mk (Kd.R_below (by (with_reducible repeat (first | apply Kd.R_alloc | apply Kd.R_drewN | apply Kd.R_drew)); exact HL105_0.out) hb); have n2_ := Aside0.mk (blk_below (g := gb101) (o := .cells #[.slice A0_0 l0_0.length c0_0, .int .i64 a0_1, .int .i64 a0_2] 42 (0, 0)) (by (with_reducible repeat (first | refine blk_drewN ?_ _ | refine blk_drew ?_ | refine blk_alloc ?_ _)); exact BK101.out) hb); have n3_ := Aside0.mk (Kd.C_below (by repeat (first | (with_reducible exact HR105_0.out) | (with_reducible refine Kd.C_alloc ?_ _) | (with_reducible refine Kd.C_drewN ?_ _) | (with_reducible refine Kd.C_drew ?_) | exact HR105_0.out)) hb); have n4_ := Aside0.mk (below_step (by repeat (first | (with_reducible first | exact HB.out | apply below_alloc | apply pw_below_drewN | apply below_drew1 | refine below_set ?_ GE101.out) | exact HB.out)) hb); clear HO_5; clear HL105_0; clear BK101; clear HR105_0; clear HB; have HO_5 := n0_; have HL105_0 := n1_; have BK101 := n2_; have HR105_0 := n3_; have HB := n4_; clear n0_ n1_ n2_ n3_ n4_; (try clear hb); (try clear hb2); (try clear hk); (try clear hi)))
            go_roundg k1
            case measure => have := HK1.out; omega
            case rel => exact ⟨(wrap64 (x6_1 + 1)), (by first | rfl | (simp; done) | (simp [*]; done)), H', ⟨by have := HK1.out; omega⟩, ⟨by (with_reducible repeat (first | apply Kd.S_alloc | apply Kd.S_drewN | apply Kd.S_drew)); exact HO_5.out⟩, ⟨by (with_reducible repeat (first | refine blk_drewN ?_ _ | refine blk_drew ?_ | refine blk_alloc ?_ _)); exact BK101.out⟩, ⟨by repeat (first | (with_reducible first | exact HB.out | apply below_alloc | apply pw_below_drewN | apply below_drew1 | refine below_set ?_ GE101.out) | exact HB.out)⟩⟩
          · replace c10 := Bool.eq_false_iff.mpr c10
            subst c10
            have H1 : (some false) = some r := by rw [if_neg (show ¬ (false = true) by decide)] at H; exact H
            clear H
            have H := H1
            clear H1
            obtain rfl := Option.some.inj H
            obtain ⟨Ao13, co13, eo13⟩ := Kd.S_slice HO_5.out
            subst eo13
            have p105 : 0 ≤ (x6_1 : Int) := of_decide_eq_true (by first | (with_reducible assumption) | assumption)
            have q105 : x6_1 < (t102.length : Int) := of_decide_eq_true (by first | (with_reducible assumption) | assumption)
            obtain ⟨ad105, A105_0, c105_0, e105, hx105_0, hl105_0, hi105_0⟩ := at_L1 (Kd.S_reads' HO_5.out).2.2 x6_1 p105 q105
            cases e105
            obtain ⟨ce105, hce105, hMe105, hcc105⟩ := Kd.S_get HO_5.out [] x6_1 p105 (by first | exact q105 | exact of_decide_eq_true (by first | (with_reducible assumption) | assumption) | (have e_ := (Kd.S_reads' HO_5.out).1; omega))
            obtain ⟨ve105_0, rfl, ge105_0⟩ := hMe105
            have hv105_0 := hcc105 0 _ rfl
            rw [Nat.add_zero, show ((Kd.slice 3 (Kd.int .i64))).sz = 1 from rfl, Nat.mul_one] at hv105_0
            replace hv105_0 := Option.some.inj (hv105_0.symm.trans hx105_0)
            rw [hv105_0] at ge105_0
            have HL105_0 := Aside0.mk (show Kd.R (Kd.int .i64) 3 _ _ _ _ (rd_L1 t102 x6_1) from ge105_0)
            clear hv105_0 ge105_0
            clear hcc105 hce105
            have HR105_0 := Aside0.mk hi105_0
            have HC105_0 := Aside0.mk hl105_0
            clear hi105_0 hl105_0
            replace p105 := eq_true p105
            replace q105 := eq_true q105
            go_wp2_with (first | ((with_reducible refine gate_callee (f := 14) rfl ?_); refine goesL_ (some 20) rfl rfl Try.func14 (by kernel_rfl) rfl #[.slice A105_0 (rd_L1 t102 x6_1).length c105_0, .slice A1 l1.length c1] rfl (by (try simp only [List.map_toArray, List.map_cons, List.map_nil]); first | done | rfl | (simp only [List.length_drop, List.length_take]; rfl)) ?_; (with_reducible refine (QA.icehouseref10_Enough.calls k1 _ _ (rd_L1 t102 x6_1) _ _ l1 false _ ?side1 ?side2 ?side3 ?side4 A9.out).mono ?_); (case side1 => repeat (first | exact (by repeat (first | (with_reducible exact HR105_0.out) | (with_reducible refine Kd.C_alloc ?_ _) | (with_reducible refine Kd.C_drewN ?_ _) | (with_reducible refine Kd.C_drew ?_) | exact HR105_0.out)) | (with_reducible refine Kd.C_alloc ?_ _) | (with_reducible refine Kd.C_drewN ?_ _) | (with_reducible refine Kd.C_drew ?_))); (case side2 => exact HC105_0.out); (case side3 => repeat (first | exact (Kd.C_below HR1.out HB.out) | (with_reducible refine Kd.C_alloc ?_ _) | (with_reducible refine Kd.C_drewN ?_ _) | (with_reducible refine Kd.C_drew ?_))); (case side4 => exact HC1.out); rintro e w14 ⟨rfl, hb⟩; refine ⟨_, rfl, ?_⟩; have n0_ := Aside0.mk (Kd.S_below (by (with_reducible repeat (first | apply Kd.S_alloc | apply Kd.S_drewN | apply Kd.S_drew)); exact HO_5.out) hb); have n1_ := Aside0.mk (Kd.R_below (by (with_reducible repeat (first | apply Kd.R_alloc | apply Kd.R_drewN | apply Kd.R_drew)); exact HL105_0.out) hb); have n2_ := Aside0.mk (blk_below (g := gb101) (o := .cells #[.slice A0_0 l0_0.length c0_0, .int .i64 a0_1, .int .i64 a0_2] 42 (0, 0)) (by (with_reducible repeat (first | refine blk_drewN ?_ _ | refine blk_drew ?_ | refine blk_alloc ?_ _)); exact BK101.out) hb); have n3_ := Aside0.mk (Kd.C_below (by repeat (first | (with_reducible exact HR105_0.out) | (with_reducible refine Kd.C_alloc ?_ _) | (with_reducible refine Kd.C_drewN ?_ _) | (with_reducible refine Kd.C_drew ?_) | exact HR105_0.out)) hb); have n4_ := Aside0.mk (below_step (by repeat (first | (with_reducible first | exact HB.out | apply below_alloc | apply pw_below_drewN | apply below_drew1 | refine below_set ?_ GE101.out) | exact HB.out)) hb); clear HO_5; clear HL105_0; clear BK101; clear HR105_0; clear HB; have HO_5 := n0_; have HL105_0 := n1_; have BK101 := n2_; have HR105_0 := n3_; have HB := n4_; clear n0_ n1_ n2_ n3_ n4_; (try clear hb); (try clear hb2); (try clear hk); (try clear hi)))
            go_ret
            exact ⟨by first | rfl | (simp [errW_none, errW_some] <;> rfl) | (simp [*, errW_none, errW_some] <;> rfl), by repeat (first | (with_reducible first | exact HB.out | apply below_alloc | apply pw_below_drewN | apply below_drew1 | refine below_set ?_ GE101.out) | exact HB.out)⟩
        · rw [if_neg c8] at H
          exact absurd H (by simp)
      · rw [if_neg c7] at H
        have c7b0 : decide (x6_1 < (t102.length : Int)) = false := decide_eq_false c7
        clear c7
        obtain rfl := Option.some.inj H
        obtain ⟨Ao15, co15, eo15⟩ := Kd.S_slice HO_5.out
        subst eo15
        go_wp2
        go_ret
        exact ⟨by first | rfl | (simp [errW_none, errW_some] <;> rfl) | (simp [*, errW_none, errW_some] <;> rfl), by repeat (first | (with_reducible first | exact HB.out | apply below_alloc | apply pw_below_drewN | apply below_drew1 | refine below_set ?_ GE101.out) | exact HB.out)⟩
/-! ### icehouseref10_Lost: function 30 -/
mutual
def icehouseref10_Lost.l0 : Nat → List Int → List Int → Int → List Int → Int → Int → Option (List Int)
  | 0, _, _, _, _, _, _ => none
  | k + 1, x1, x5, x6, x108000, x108001, x108002 => if x6 < (x108000.length : Int) then (if 0 ≤ x6 then ((QA.icehouseref09_Has.f k x1 (rd x108000 x6)).bind fun t109 => (if t109 = true then (icehouseref10_Lost.l0 k x1 x5 (wrap64 (x6 + 1)) x108000 x108001 x108002) else (if x5.length < 17592186044416 then (icehouseref10_Lost.l0 k x1 (x5 ++ [rd x108000 x6]) (wrap64 (x6 + 1)) x108000 x108001 x108002) else (none)))) else (none)) else ((QH.icehouseref09_Lists.f k x108000 x108001 x108002).bind fun t114 => (icehouseref10_Lost.l1 k x5 t114 ([] : List Int) 0))
def icehouseref10_Lost.l1 : Nat → List Int → List (List Int) → List Int → Int → Option (List Int)
  | 0, _, _, _, _ => none
  | k + 1, x5, x7, x8, x9 => if x9 < (x7.length : Int) then (if 0 ≤ x9 then ((QA.icehouseref10_Enough.f k (rd_L1 x7 x9) x5).bind fun t118 => (if t118 = true then (icehouseref10_Lost.l1 k x5 x7 x8 (wrap64 (x9 + 1))) else (if x8.length < 17592186044416 then (icehouseref10_Lost.l1 k x5 x7 (x8 ++ [x9]) (wrap64 (x9 + 1))) else (none)))) else (none)) else (some x8)
end
def icehouseref10_Lost.f (k : Nat) (l0_0 : List Int) (a0_1 : Int) (a0_2 : Int) (l1 : List Int) : Option (List Int) := icehouseref10_Lost.l0 k l1 ([] : List Int) 0 l0_0 a0_1 a0_2
theorem icehouseref10_Lost.mono_l : ∀ k, (∀ y0 y1 y2 y3 y4 y5, LeO (icehouseref10_Lost.l0 k y0 y1 y2 y3 y4 y5) (icehouseref10_Lost.l0 (k + 1) y0 y1 y2 y3 y4 y5)) ∧ (∀ y0 y1 y2 y3, LeO (icehouseref10_Lost.l1 k y0 y1 y2 y3) (icehouseref10_Lost.l1 (k + 1) y0 y1 y2 y3))
  | 0 => ⟨fun _ _ _ _ _ _ r h => by simp [icehouseref10_Lost.l0] at h, fun _ _ _ _ r h => by simp [icehouseref10_Lost.l1] at h⟩
  | k + 1 => by
    obtain ⟨ih0, ih1⟩ := icehouseref10_Lost.mono_l k
    refine ⟨?_, ?_⟩
    · intro y0 y1 y2 y3 y4 y5
      unfold icehouseref10_Lost.l0
      repeat' first
      | (with_reducible exact ih0 _ _ _ _ _ _)
      | (with_reducible exact ih1 _ _ _ _)
      | (with_reducible exact QA.icehouseref09_Has.mono _ _ _)
      | (with_reducible exact QA.icehouseref10_Enough.mono _ _ _)
      | (with_reducible exact QH.icehouseref09_Lists.mono _ _ _ _)
      | (with_reducible exact LeO.refl _)
      | (with_reducible exact LeO.none _)
      | (with_reducible refine LeO.ite ?_ ?_)
      | (with_reducible refine LeO.bind ?_ (fun _ => ?_))
      | exact ih0 _ _ _ _ _ _
      | exact ih1 _ _ _ _
      | exact QA.icehouseref09_Has.mono _ _ _
      | exact QA.icehouseref10_Enough.mono _ _ _
      | exact QH.icehouseref09_Lists.mono _ _ _ _
      | exact LeO.none _
      | refine LeO.ite ?_ ?_
      | refine LeO.bind ?_ (fun _ => ?_)
    · intro y0 y1 y2 y3
      unfold icehouseref10_Lost.l1
      repeat' first
      | (with_reducible exact ih0 _ _ _ _ _ _)
      | (with_reducible exact ih1 _ _ _ _)
      | (with_reducible exact QA.icehouseref09_Has.mono _ _ _)
      | (with_reducible exact QA.icehouseref10_Enough.mono _ _ _)
      | (with_reducible exact QH.icehouseref09_Lists.mono _ _ _ _)
      | (with_reducible exact LeO.refl _)
      | (with_reducible exact LeO.none _)
      | (with_reducible refine LeO.ite ?_ ?_)
      | (with_reducible refine LeO.bind ?_ (fun _ => ?_))
      | exact ih0 _ _ _ _ _ _
      | exact ih1 _ _ _ _
      | exact QA.icehouseref09_Has.mono _ _ _
      | exact QA.icehouseref10_Enough.mono _ _ _
      | exact QH.icehouseref09_Lists.mono _ _ _ _
      | exact LeO.none _
      | refine LeO.ite ?_ ?_
      | refine LeO.bind ?_ (fun _ => ?_)
theorem icehouseref10_Lost.mono : ∀ a0 a1 a2 a3 k, LeO (icehouseref10_Lost.f k a0 a1 a2 a3) (icehouseref10_Lost.f (k + 1) a0 a1 a2 a3) := by
  intro a0 a1 a2 a3 k
  obtain ⟨ih0, ih1⟩ := icehouseref10_Lost.mono_l k
  unfold icehouseref10_Lost.f
  repeat' first
      | (with_reducible exact ih0 _ _ _ _ _ _)
      | (with_reducible exact ih1 _ _ _ _)
      | (with_reducible exact QA.icehouseref09_Has.mono _ _ _)
      | (with_reducible exact QA.icehouseref10_Enough.mono _ _ _)
      | (with_reducible exact QH.icehouseref09_Lists.mono _ _ _ _)
      | (with_reducible exact LeO.refl _)
      | (with_reducible exact LeO.none _)
      | (with_reducible refine LeO.ite ?_ ?_)
      | (with_reducible refine LeO.bind ?_ (fun _ => ?_))
      | exact ih0 _ _ _ _ _ _
      | exact ih1 _ _ _ _
      | exact QA.icehouseref09_Has.mono _ _ _
      | exact QA.icehouseref10_Enough.mono _ _ _
      | exact QH.icehouseref09_Lists.mono _ _ _ _
      | exact LeO.none _
      | refine LeO.ite ?_ ?_
      | refine LeO.bind ?_ (fun _ => ?_)
set_option maxHeartbeats 8000000 in
set_option maxRecDepth 100000 in
theorem icehouseref10_Lost.calls (k : Nat) (A0_0 : Option Addr) (c0_0 : Nat) (l0_0 : List Int) (a0_1 : Int) (a0_2 : Int) (A1 : Option Addr) (c1 : Nat) (l1 : List Int) (r : List Int) (w : World) (hr0_0 : Kd.C (Kd.int .i64) w A0_0 l0_0.length l0_0) (hc0_0 : l0_0.length ≤ c0_0) (hr1 : Kd.C (Kd.int .i64) w A1 l1.length l1) (hc1 : l1.length ≤ c1) (h : icehouseref10_Lost.f k l0_0 a0_1 a0_2 l1 = some r) :
    Calls Try.prog 30 #[.agg #[.slice A0_0 l0_0.length c0_0, .int .i64 a0_1, .int .i64 a0_2], .slice A1 l1.length c1] w fun e w' => ∃ v0_ : Value, e = .returned (v0_) ∧ Kd.R (Kd.int .i64) 3 w' w.heap.size (fun _ => True) v0_ r ∧ Below w.heap.size w w' := by
  have hu42 := Try.underlying42
  have HR0_0 := Aside0.mk hr0_0
  have HC0_0 := Aside0.mk hc0_0
  clear hr0_0 hc0_0
  have HR1 := Aside0.mk hr1
  have HC1 := Aside0.mk hc1
  clear hr1 hc1
  have HB := Aside0.mk (Below.refl w.heap.size w)
  have H : (icehouseref10_Lost.l0 k l1 ([] : List Int) 0 l0_0 a0_1 a0_2) = some r := h
  clear h
  have H' := Aside0.mk H
  clear H
  go_enter Try.func30, Try.ntmps30
  go_wp2_with (first | ((with_reducible refine gate_dst (N := 2) rfl ?_); refine box_event ?hg (N := 2) ?hd (cs := #[.slice A0_0 l0_0.length c0_0, .int .i64 a0_1, .int .i64 a0_2]) (t := 42) ?hr ?_; (case hd => rfl); (case hg => rfl); (case hr => first | (go_simp; done) | (go_simp; rfl)); intro gb107 hg w3 hbox hb; have n0_ := Aside0.mk (below_step (by repeat (first | (with_reducible first | exact HB.out | apply below_alloc | apply pw_below_drewN | apply below_drew1) | exact HB.out)) hb); have n1_ := Aside0.mk (hbox); have n2_ := Aside0.mk ((by rw [hg]; exact (below_size (by repeat (first | (with_reducible first | exact HB.out | apply below_alloc | apply pw_below_drewN | apply below_drew1) | exact HB.out))) : w.heap.size ≤ gb107)); have n3_ := Aside0.mk ((by rw [hg]; exact (below_size (by repeat (first | (with_reducible first | exact HB.out | apply below_alloc | apply pw_below_drewN | apply below_drew1) | exact HB.out))) : w.heap.size ≤ gb107)); clear HB; have HB := n0_; have BK107 := n1_; have GW107 := n2_; have GE107 := n3_; clear n0_ n1_ n2_ n3_; clear hb hbox hg))
  go_loopg [5, 6] k (fun kq v5 v6 w' => ∃ (x5_1 : List Int) (x6_1 : Int), v6 = .int .i64 x6_1 ∧ Aside0 (icehouseref10_Lost.l0 kq l1 x5_1 x6_1 l0_0 a0_1 a0_2 = some r) ∧ Aside0 (kq ≤ k) ∧ Aside0 (Kd.R (Kd.int .i64) 3 w' w.heap.size (fun _ => True) v5 x5_1) ∧ Aside0 (w'.heap[gb107]? = some (.cells #[(.slice A0_0 l0_0.length c0_0), .int .i64 a0_1, .int .i64 a0_2] 42 (0, 0))) ∧ Aside0 (Below w.heap.size w w'))
  case atStart => exact ⟨(([] : List Int)), (0), (by first | rfl | (simp; done) | (simp [*]; done)), H', ⟨Nat.le_refl _⟩, ⟨by first | exact Kd.R_nil _ _ _ _ _ | exact Kd.N_nil _ _ _ _ _ | exact Kd.V_nil _ _ _ _ _ | exact Kd.Q_nil _ _ _ _ _ | exact Kd.S_nil _ _ _ _ _⟩, ⟨by (with_reducible repeat (first | refine blk_drewN ?_ _ | refine blk_drew ?_ | refine blk_alloc ?_ _)); exact BK107.out⟩, ⟨by repeat (first | (with_reducible first | exact HB.out | apply below_alloc | apply pw_below_drewN | apply below_drew1 | refine below_set ?_ GE107.out) | exact HB.out)⟩⟩
  case round =>
    clear H'
    try clear c1
    try clear p2
    try clear c3
    obtain ⟨x5_1, x6_1, rfl, HA, HK1, HO_5, BK107, HB⟩ := hrel
    cases gk with
    | zero => exact absurd HA.out (by simp [icehouseref10_Lost.l0])
    | succ k1 =>
      have H := HA.out
      clear HA
      simp only [icehouseref10_Lost.l0] at H
      by_cases c4 : x6_1 < (l0_0.length : Int)
      · rw [if_pos c4] at H
        have c4b0 : decide (x6_1 < (l0_0.length : Int)) = true := decide_eq_true c4
        clear c4
        by_cases c5 : 0 ≤ x6_1
        · rw [if_pos c5] at H
          have c5b0 : decide (0 ≤ x6_1) = true := decide_eq_true c5
          clear c5
          replace H := Option.bind_eq_some_iff.mp H
          obtain ⟨t109, A60, H⟩ := H
          replace H : (if t109 = true then (icehouseref10_Lost.l0 k1 l1 x5_1 (wrap64 (x6_1 + 1)) l0_0 a0_1 a0_2) else (if x5_1.length < 17592186044416 then (icehouseref10_Lost.l0 k1 l1 (x5_1 ++ [rd l0_0 x6_1]) (wrap64 (x6_1 + 1)) l0_0 a0_1 a0_2) else (none))) = some r := H
          have A6 := Aside0.mk A60
          clear A60
          by_cases c7 : t109 = true
          · subst c7
            have H1 : (icehouseref10_Lost.l0 k1 l1 x5_1 (wrap64 (x6_1 + 1)) l0_0 a0_1 a0_2) = some r := by rw [if_pos rfl] at H; exact H
            clear H
            have H := H1
            clear H1
            have H' := Aside0.mk H
            clear H
            have hcz8_0 : wr.cell? ⟨gb107, 0, none⟩ = some (.slice A0_0 l0_0.length c0_0) := (blk_cell BK107.out 0).trans rfl
            have hcz8_1 : wr.cell? ⟨gb107, 1, none⟩ = some (.int .i64 a0_1) := (blk_cell BK107.out 1).trans rfl
            have hcz8_2 : wr.cell? ⟨gb107, 2, none⟩ = some (.int .i64 a0_2) := (blk_cell BK107.out 2).trans rfl
            have hfz8_0 := blk_frozen BK107.out 0
            have hfz8_1 := blk_frozen BK107.out 1
            have hfz8_2 := blk_frozen BK107.out 2
            have p108 : 0 ≤ (x6_1 : Int) := of_decide_eq_true (by first | (with_reducible assumption) | assumption)
            have q108 : x6_1 < (l0_0.length : Int) := of_decide_eq_true (by first | (with_reducible assumption) | assumption)
            obtain ⟨ad108, e108, hx108_0⟩ := Kd.at_int HR0_0.out x6_1 p108 q108
            cases e108
            replace hx108_0 := (HB.out.cell (World.block_lt_of_cell? w _ hx108_0)).trans hx108_0
            replace p108 := eq_true p108
            replace q108 := eq_true q108
            go_wp2_with (first | ((with_reducible refine gate_callee (f := 22) rfl ?_); refine goesL_ (some 23) rfl rfl Try.func22 (by kernel_rfl) rfl #[.slice A1 l1.length c1, .int .i64 (rd l0_0 x6_1)] rfl (by (try simp only [List.map_toArray, List.map_cons, List.map_nil]); first | done | rfl | (simp only [List.length_drop, List.length_take]; rfl)) ?_; (with_reducible refine (QA.icehouseref09_Has.calls k1 _ _ l1 (rd l0_0 x6_1) true _ ?side1 ?side2 A6.out).mono ?_); (case side1 => repeat (first | exact (Kd.C_below HR1.out HB.out) | (with_reducible refine Kd.C_alloc ?_ _) | (with_reducible refine Kd.C_drewN ?_ _) | (with_reducible refine Kd.C_drew ?_))); (case side2 => exact HC1.out); rintro e w' ⟨rfl, ⟨nd, rfl⟩⟩; refine ⟨_, rfl, ?_⟩))
            go_roundg k1
            case measure => have := HK1.out; omega
            case rel => exact ⟨(x5_1), (wrap64 (x6_1 + 1)), (by first | rfl | (simp; done) | (simp [*]; done)), H', ⟨by have := HK1.out; omega⟩, ⟨by (with_reducible repeat (first | apply Kd.R_alloc | apply Kd.R_drewN | apply Kd.R_drew)); exact HO_5.out⟩, ⟨by (with_reducible repeat (first | refine blk_drewN ?_ _ | refine blk_drew ?_ | refine blk_alloc ?_ _)); exact BK107.out⟩, ⟨by repeat (first | (with_reducible first | exact HB.out | apply below_alloc | apply pw_below_drewN | apply below_drew1 | refine below_set ?_ GE107.out) | exact HB.out)⟩⟩
          · replace c7 := Bool.eq_false_iff.mpr c7
            subst c7
            have H1 : (if x5_1.length < 17592186044416 then (icehouseref10_Lost.l0 k1 l1 (x5_1 ++ [rd l0_0 x6_1]) (wrap64 (x6_1 + 1)) l0_0 a0_1 a0_2) else (none)) = some r := by rw [if_neg (show ¬ (false = true) by decide)] at H; exact H
            clear H
            have H := H1
            clear H1
            by_cases c9 : x5_1.length < 17592186044416
            · rw [if_pos c9] at H
              have LMc9 := Aside0.mk c9
              clear c9
              obtain ⟨y111, hy111⟩ : ∃ y_ : List Int, y_ = (x5_1 ++ [rd l0_0 x6_1]) := ⟨_, rfl⟩
              replace H : (icehouseref10_Lost.l0 k1 l1 y111 (wrap64 (x6_1 + 1)) l0_0 a0_1 a0_2) = some r := by first | (rw [hy111]; with_reducible exact H) | (have H2_ := (Option.bind_some _ _).symm.trans H; rw [hy111]; with_reducible exact H2_) | (have H2_ := (Option.bind_some _ _).symm.trans H; with_reducible exact H2_) | with_reducible exact H | (rw [hy111]; exact H) | exact H
              have Ny111 := Aside0.mk hy111
              clear hy111
              have H' := Aside0.mk H
              clear H
              have hcz10_0 : wr.cell? ⟨gb107, 0, none⟩ = some (.slice A0_0 l0_0.length c0_0) := (blk_cell BK107.out 0).trans rfl
              have hcz10_1 : wr.cell? ⟨gb107, 1, none⟩ = some (.int .i64 a0_1) := (blk_cell BK107.out 1).trans rfl
              have hcz10_2 : wr.cell? ⟨gb107, 2, none⟩ = some (.int .i64 a0_2) := (blk_cell BK107.out 2).trans rfl
              have hfz10_0 := blk_frozen BK107.out 0
              have hfz10_1 := blk_frozen BK107.out 1
              have hfz10_2 := blk_frozen BK107.out 2
              have p108 : 0 ≤ (x6_1 : Int) := of_decide_eq_true (by first | (with_reducible assumption) | assumption)
              have q108 : x6_1 < (l0_0.length : Int) := of_decide_eq_true (by first | (with_reducible assumption) | assumption)
              obtain ⟨ad108, e108, hx108_0⟩ := Kd.at_int HR0_0.out x6_1 p108 q108
              cases e108
              replace hx108_0 := (HB.out.cell (World.block_lt_of_cell? w _ hx108_0)).trans hx108_0
              replace p108 := eq_true p108
              replace q108 := eq_true q108
              go_wp2_with (first | ((with_reducible refine gate_callee (f := 22) rfl ?_); refine goesL_ (some 23) rfl rfl Try.func22 (by kernel_rfl) rfl #[.slice A1 l1.length c1, .int .i64 (rd l0_0 x6_1)] rfl (by (try simp only [List.map_toArray, List.map_cons, List.map_nil]); first | done | rfl | (simp only [List.length_drop, List.length_take]; rfl)) ?_; (with_reducible refine (QA.icehouseref09_Has.calls k1 _ _ l1 (rd l0_0 x6_1) false _ ?side1 ?side2 A6.out).mono ?_); (case side1 => repeat (first | exact (Kd.C_below HR1.out HB.out) | (with_reducible refine Kd.C_alloc ?_ _) | (with_reducible refine Kd.C_drewN ?_ _) | (with_reducible refine Kd.C_drew ?_))); (case side2 => exact HC1.out); rintro e w' ⟨rfl, ⟨nd, rfl⟩⟩; refine ⟨_, rfl, ?_⟩; have p110 : 0 ≤ (x6_1 : Int) := of_decide_eq_true (by first | (with_reducible assumption) | assumption); have q110 : x6_1 < (l0_0.length : Int) := of_decide_eq_true (by first | (with_reducible assumption) | assumption); obtain ⟨ad110, e110, hx110_0⟩ := Kd.at_int HR0_0.out x6_1 p110 q110; obtain rfl : ad108 = ad110 := (by injection e110); replace hx110_0 := (HB.out.cell (World.block_lt_of_cell? w _ hx110_0)).trans hx110_0; replace p110 := eq_true p110; replace q110 := eq_true q110) | ((with_reducible refine gate_builtin (b := .append) (xs := #[.tmp 25, .tmp 31]) rfl ?_); at_builtin; refine Kd.R_append (Kd.int .i64) (w0 := w) w.heap.size rfl (.tmp 25) (.tmp 31) 22 3 (.int .i64 0) 8 rfl Try.underlying22 info3 rfl (by decide) (by omega) u5 x5_1 (rd l0_0 x6_1) [.int .i64 (rd l0_0 x6_1)] (fun _ => True) (fun _ => False) rfl rfl ?aP (fun _ hk => hk.elim) ?aF ?aO ?aB ?aS ?aL ?_; (case aP => exact rfl); (case aB => exact (by repeat (first | (with_reducible first | exact HB.out | apply below_alloc | apply pw_below_drewN | apply below_drew1 | refine below_set ?_ GE107.out) | exact HB.out))); (case aF => exact (fun _ _ => trivial)); (case aO => exact (by (with_reducible repeat (first | apply Kd.R_alloc | apply Kd.R_drewN | apply Kd.R_drew)); exact HO_5.out)); (case aS => exact (below_size (by repeat (first | (with_reducible first | exact HB.out | apply below_alloc | apply pw_below_drewN | apply below_drew1 | refine below_set ?_ GE107.out) | exact HB.out)))); (case aL => have := LMc9.out; omega); intro v112 w11 ho hb hg hat; rw [← Ny111.out] at ho; have n0_ := Aside0.mk (blk_grown (g := gb107) (o := .cells #[.slice (some ad108) l0_0.length c0_0, .int .i64 a0_1, .int .i64 a0_2] 42 (0, 0)) (by (with_reducible repeat (first | refine blk_drewN ?_ _ | refine blk_drew ?_ | refine blk_alloc ?_ _)); exact BK107.out) hg (Kd.R_ne HO_5.out BK107.out (by decide))); have n1_ := Aside0.mk (hb); have n2_ := Aside0.mk (ho); clear BK107; clear HB; clear HO_5; have BK107 := n0_; have HB := n1_; have HO113 := n2_; clear n0_ n1_ n2_; clear ho hb hg hat))
              go_roundg k1
              case measure => have := HK1.out; omega
              case rel => exact ⟨(y111), (wrap64 (x6_1 + 1)), (by first | rfl | (simp; done) | (simp [*]; done)), H', ⟨by have := HK1.out; omega⟩, ⟨by (with_reducible repeat (first | apply Kd.R_alloc | apply Kd.R_drewN | apply Kd.R_drew)); exact HO113.out⟩, ⟨by (with_reducible repeat (first | refine blk_drewN ?_ _ | refine blk_drew ?_ | refine blk_alloc ?_ _)); exact BK107.out⟩, ⟨by repeat (first | (with_reducible first | exact HB.out | apply below_alloc | apply pw_below_drewN | apply below_drew1 | refine below_set ?_ GE107.out) | exact HB.out)⟩⟩
            · rw [if_neg c9] at H
              exact absurd H (by simp)
        · rw [if_neg c5] at H
          exact absurd H (by simp)
      · rw [if_neg c4] at H
        have c4b0 : decide (x6_1 < (l0_0.length : Int)) = false := decide_eq_false c4
        clear c4
        replace H := Option.bind_eq_some_iff.mp H
        obtain ⟨t114, A120, H⟩ := H
        replace H : (icehouseref10_Lost.l1 k1 x5_1 t114 ([] : List Int) 0) = some r := H
        have A12 := Aside0.mk A120
        clear A120
        have H' := Aside0.mk H
        clear H
        have hcz13_0 : wr.cell? ⟨gb107, 0, none⟩ = some (.slice A0_0 l0_0.length c0_0) := (blk_cell BK107.out 0).trans rfl
        have hcz13_1 : wr.cell? ⟨gb107, 1, none⟩ = some (.int .i64 a0_1) := (blk_cell BK107.out 1).trans rfl
        have hcz13_2 : wr.cell? ⟨gb107, 2, none⟩ = some (.int .i64 a0_2) := (blk_cell BK107.out 2).trans rfl
        have hfz13_0 := blk_frozen BK107.out 0
        have hfz13_1 := blk_frozen BK107.out 1
        have hfz13_2 := blk_frozen BK107.out 2
        go_wp2_with (first | ((with_reducible refine gate_callee (f := 41) rfl ?_); refine goesL_ (some 34) rfl rfl Try.func41 (by kernel_rfl) rfl #[.agg #[.slice A0_0 l0_0.length c0_0, .int .i64 a0_1, .int .i64 a0_2]] rfl (by (try simp only [List.map_toArray, List.map_cons, List.map_nil]); first | done | rfl | (simp only [List.length_drop, List.length_take]; rfl)) ?_; (with_reducible refine (QH.icehouseref09_Lists.calls k1 _ _ l0_0 a0_1 a0_2 t114 _ ?side1 ?side2 A12.out).mono ?_); (case side1 => repeat (first | exact (Kd.C_below HR0_0.out HB.out) | (with_reducible refine Kd.C_alloc ?_ _) | (with_reducible refine Kd.C_drewN ?_ _) | (with_reducible refine Kd.C_drew ?_))); (case side2 => exact HC0_0.out); rintro e w14 ⟨v115, rfl, ho0, hb⟩; refine ⟨_, rfl, ?_⟩; have n0_ := Aside0.mk (Kd.R_below (by (with_reducible repeat (first | apply Kd.R_alloc | apply Kd.R_drewN | apply Kd.R_drew)); exact HO_5.out) hb); have n1_ := Aside0.mk (Kd.S_lower (Kd.S_new' ho0 (Kd.R_lt (by (with_reducible repeat (first | apply Kd.R_alloc | apply Kd.R_drewN | apply Kd.R_drew)); exact HO_5.out))) (below_size (by repeat (first | (with_reducible first | exact HB.out | apply below_alloc | apply pw_below_drewN | apply below_drew1 | refine below_set ?_ GE107.out) | exact HB.out)))); have n2_ := Aside0.mk (blk_below (g := gb107) (o := .cells #[.slice A0_0 l0_0.length c0_0, .int .i64 a0_1, .int .i64 a0_2] 42 (0, 0)) (by (with_reducible repeat (first | refine blk_drewN ?_ _ | refine blk_drew ?_ | refine blk_alloc ?_ _)); exact BK107.out) hb); have n3_ := Aside0.mk (below_step (by repeat (first | (with_reducible first | exact HB.out | apply below_alloc | apply pw_below_drewN | apply below_drew1 | refine below_set ?_ GE107.out) | exact HB.out)) hb); clear HO_5; clear BK107; clear HB; have HO_5 := n0_; have HO116 := n1_; have BK107 := n2_; have HB := n3_; clear n0_ n1_ n2_ n3_; (try clear hb); (try clear hb2); (try clear hk); (try clear hi); (try clear ho0)))
        go_loopg [8, 9] k1 (fun kq v8 v9 w' => ∃ (x8_2 : List Int) (x9_2 : Int), v9 = .int .i64 x9_2 ∧ Aside0 (icehouseref10_Lost.l1 kq x5_1 t114 x8_2 x9_2 = some r) ∧ Aside0 (kq ≤ k1) ∧ Aside0 (Kd.R (Kd.int .i64) 3 w' w.heap.size (fun k_ => some k_ ≠ (v8 : Value).ownBlock) u5 x5_1) ∧ Aside0 (Kd.S (Kd.slice 3 (Kd.int .i64)) 22 w' w.heap.size (fun k_ => some k_ ≠ (u5 : Value).ownBlock ∧ some k_ ≠ (v8 : Value).ownBlock) v115 t114) ∧ Aside0 (Kd.R (Kd.int .i64) 3 w' w.heap.size (fun k_ => some k_ ≠ (u5 : Value).ownBlock) v8 x8_2) ∧ Aside0 (w'.heap[gb107]? = some (.cells #[(.slice A0_0 l0_0.length c0_0), .int .i64 a0_1, .int .i64 a0_2] 42 (0, 0))) ∧ Aside0 (Below w.heap.size w w'))
        case atStart => exact ⟨(([] : List Int)), (0), (by first | rfl | (simp; done) | (simp [*]; done)), H', ⟨Nat.le_refl _⟩, ⟨by (with_reducible repeat (first | apply Kd.R_alloc | apply Kd.R_drewN | apply Kd.R_drew)); exact Kd.R_mono HO_5.out (fun _ hk => (by simp [Value.ownBlock]))⟩, ⟨by (with_reducible repeat (first | apply Kd.S_alloc | apply Kd.S_drewN | apply Kd.S_drew)); exact Kd.S_mono HO116.out (fun _ hk => ⟨hk.2, (by simp [Value.ownBlock])⟩)⟩, ⟨by first | exact Kd.R_nil _ _ _ _ _ | exact Kd.N_nil _ _ _ _ _ | exact Kd.V_nil _ _ _ _ _ | exact Kd.Q_nil _ _ _ _ _ | exact Kd.S_nil _ _ _ _ _⟩, ⟨by (with_reducible repeat (first | refine blk_drewN ?_ _ | refine blk_drew ?_ | refine blk_alloc ?_ _)); exact BK107.out⟩, ⟨by repeat (first | (with_reducible first | exact HB.out | apply below_alloc | apply pw_below_drewN | apply below_drew1 | refine below_set ?_ GE107.out) | exact HB.out)⟩⟩
        case round =>
          clear H'
          try clear c1
          try clear p1
          try clear q1
          try clear hx1
          try clear c2
          try clear p2
          try clear c3
          try clear c4
          try clear c4b0
          try clear c5
          try clear c5b0
          try clear p6
          try clear c7
          try clear c9
          try clear p10
          try clear q10
          try clear hx10
          try clear p11
          try clear q11
          try clear hx11
          try clear hcz10_0
          try clear hcz10_1
          try clear hcz10_2
          try clear hcz13_0
          try clear hcz13_1
          try clear hcz13_2
          try clear hcz8_0
          try clear hcz8_1
          try clear hcz8_2
          try clear hfz10_0
          try clear hfz10_1
          try clear hfz10_2
          try clear hfz13_0
          try clear hfz13_1
          try clear hfz13_2
          try clear hfz8_0
          try clear hfz8_1
          try clear hfz8_2
          try clear hx108_0
          try clear hx110_0
          try clear p108
          try clear p110
          try clear p2
          try clear q108
          try clear q110
          obtain ⟨x8_2, x9_2, rfl, HA, HK2, HO_5, HO_7, HO_8, BK107, HB⟩ := hrel
          cases gk with
          | zero => exact absurd HA.out (by simp [icehouseref10_Lost.l1])
          | succ k2 =>
            have H := HA.out
            clear HA
            simp only [icehouseref10_Lost.l1] at H
            by_cases c15 : x9_2 < (t114.length : Int)
            · rw [if_pos c15] at H
              have c15b0 : decide (x9_2 < (t114.length : Int)) = true := decide_eq_true c15
              clear c15
              by_cases c16 : 0 ≤ x9_2
              · rw [if_pos c16] at H
                have c16b0 : decide (0 ≤ x9_2) = true := decide_eq_true c16
                clear c16
                replace H := Option.bind_eq_some_iff.mp H
                obtain ⟨t118, A170, H⟩ := H
                replace H : (if t118 = true then (icehouseref10_Lost.l1 k2 x5_1 t114 x8_2 (wrap64 (x9_2 + 1))) else (if x8_2.length < 17592186044416 then (icehouseref10_Lost.l1 k2 x5_1 t114 (x8_2 ++ [x9_2]) (wrap64 (x9_2 + 1))) else (none))) = some r := H
                have A17 := Aside0.mk A170
                clear A170
                by_cases c18 : t118 = true
                · subst c18
                  have H1 : (icehouseref10_Lost.l1 k2 x5_1 t114 x8_2 (wrap64 (x9_2 + 1))) = some r := by rw [if_pos rfl] at H; exact H
                  clear H
                  have H := H1
                  clear H1
                  have H' := Aside0.mk H
                  clear H
                  obtain ⟨Ao19, co19, eo19⟩ := Kd.S_slice HO_7.out
                  subst eo19
                  have p117 : 0 ≤ (x9_2 : Int) := of_decide_eq_true (by first | (with_reducible assumption) | assumption)
                  have q117 : x9_2 < (t114.length : Int) := of_decide_eq_true (by first | (with_reducible assumption) | assumption)
                  obtain ⟨ad117, A117_0, c117_0, e117, hx117_0, hl117_0, hi117_0⟩ := at_L1 (Kd.S_reads' HO_7.out).2.2 x9_2 p117 q117
                  cases e117
                  obtain ⟨ce117, hce117, hMe117, hcc117⟩ := Kd.S_get HO_7.out [] x9_2 p117 (by first | exact q117 | exact of_decide_eq_true (by first | (with_reducible assumption) | assumption) | (have e_ := (Kd.S_reads' HO_7.out).1; omega))
                  obtain ⟨ve117_0, rfl, ge117_0⟩ := hMe117
                  have hv117_0 := hcc117 0 _ rfl
                  rw [Nat.add_zero, show ((Kd.slice 3 (Kd.int .i64))).sz = 1 from rfl, Nat.mul_one] at hv117_0
                  replace hv117_0 := Option.some.inj (hv117_0.symm.trans hx117_0)
                  rw [hv117_0] at ge117_0
                  have HL117_0 := Aside0.mk (show Kd.R (Kd.int .i64) 3 _ _ _ _ (rd_L1 t114 x9_2) from ge117_0)
                  clear hv117_0 ge117_0
                  clear hcc117 hce117
                  have HR117_0 := Aside0.mk hi117_0
                  have HC117_0 := Aside0.mk hl117_0
                  clear hi117_0 hl117_0
                  replace p117 := eq_true p117
                  replace q117 := eq_true q117
                  obtain ⟨Ao20, co20, eo20⟩ := Kd.R_slice HO_5.out
                  subst eo20
                  go_wp2_with (first | ((with_reducible refine gate_callee (f := 14) rfl ?_); refine goesL_ (some 46) rfl rfl Try.func14 (by kernel_rfl) rfl #[.slice A117_0 (rd_L1 t114 x9_2).length c117_0, .slice Ao20 x5_1.length co20] rfl (by (try simp only [List.map_toArray, List.map_cons, List.map_nil]); first | done | rfl | (simp only [List.length_drop, List.length_take]; rfl)) ?_; (with_reducible refine (QA.icehouseref10_Enough.calls k2 _ _ (rd_L1 t114 x9_2) _ _ x5_1 true _ ?side1 ?side2 ?side3 ?side4 A17.out).mono ?_); (case side1 => repeat (first | exact (by repeat (first | (with_reducible exact HR117_0.out) | (with_reducible refine Kd.C_alloc ?_ _) | (with_reducible refine Kd.C_drewN ?_ _) | (with_reducible refine Kd.C_drew ?_) | exact HR117_0.out)) | (with_reducible refine Kd.C_alloc ?_ _) | (with_reducible refine Kd.C_drewN ?_ _) | (with_reducible refine Kd.C_drew ?_))); (case side2 => exact HC117_0.out); (case side3 => repeat (first | exact (Kd.R_reads' HO_5.out).2.2 | (with_reducible refine Kd.C_alloc ?_ _) | (with_reducible refine Kd.C_drewN ?_ _) | (with_reducible refine Kd.C_drew ?_))); (case side4 => exact (Kd.R_reads' HO_5.out).2.1); rintro e w21 ⟨rfl, hb⟩; refine ⟨_, rfl, ?_⟩; have n0_ := Aside0.mk (Kd.R_below (by (with_reducible repeat (first | apply Kd.R_alloc | apply Kd.R_drewN | apply Kd.R_drew)); exact HO_5.out) hb); have n1_ := Aside0.mk (Kd.S_below (by (with_reducible repeat (first | apply Kd.S_alloc | apply Kd.S_drewN | apply Kd.S_drew)); exact HO_7.out) hb); have n2_ := Aside0.mk (Kd.R_below (by (with_reducible repeat (first | apply Kd.R_alloc | apply Kd.R_drewN | apply Kd.R_drew)); exact HO_8.out) hb); have n3_ := Aside0.mk (Kd.R_below (by (with_reducible repeat (first | apply Kd.R_alloc | apply Kd.R_drewN | apply Kd.R_drew)); exact HL117_0.out) hb); have n4_ := Aside0.mk (blk_below (g := gb107) (o := .cells #[.slice A0_0 l0_0.length c0_0, .int .i64 a0_1, .int .i64 a0_2] 42 (0, 0)) (by (with_reducible repeat (first | refine blk_drewN ?_ _ | refine blk_drew ?_ | refine blk_alloc ?_ _)); exact BK107.out) hb); have n5_ := Aside0.mk (Kd.C_below (by repeat (first | (with_reducible exact HR117_0.out) | (with_reducible refine Kd.C_alloc ?_ _) | (with_reducible refine Kd.C_drewN ?_ _) | (with_reducible refine Kd.C_drew ?_) | exact HR117_0.out)) hb); have n6_ := Aside0.mk (below_step (by repeat (first | (with_reducible first | exact HB.out | apply below_alloc | apply pw_below_drewN | apply below_drew1 | refine below_set ?_ GE107.out) | exact HB.out)) hb); clear HO_5; clear HO_7; clear HO_8; clear HL117_0; clear BK107; clear HR117_0; clear HB; have HO_5 := n0_; have HO_7 := n1_; have HO_8 := n2_; have HL117_0 := n3_; have BK107 := n4_; have HR117_0 := n5_; have HB := n6_; clear n0_ n1_ n2_ n3_ n4_ n5_ n6_; (try clear hb); (try clear hb2); (try clear hk); (try clear hi)))
                  go_roundg k2
                  case measure => have := HK1.out; have := HK2.out; omega
                  case rel => exact ⟨(x8_2), (wrap64 (x9_2 + 1)), (by first | rfl | (simp; done) | (simp [*]; done)), H', ⟨by have := HK1.out; have := HK2.out; omega⟩, ⟨by (with_reducible repeat (first | apply Kd.R_alloc | apply Kd.R_drewN | apply Kd.R_drew)); exact HO_5.out⟩, ⟨by (with_reducible repeat (first | apply Kd.S_alloc | apply Kd.S_drewN | apply Kd.S_drew)); exact HO_7.out⟩, ⟨by (with_reducible repeat (first | apply Kd.R_alloc | apply Kd.R_drewN | apply Kd.R_drew)); exact HO_8.out⟩, ⟨by (with_reducible repeat (first | refine blk_drewN ?_ _ | refine blk_drew ?_ | refine blk_alloc ?_ _)); exact BK107.out⟩, ⟨by repeat (first | (with_reducible first | exact HB.out | apply below_alloc | apply pw_below_drewN | apply below_drew1 | refine below_set ?_ GE107.out) | exact HB.out)⟩⟩
                · replace c18 := Bool.eq_false_iff.mpr c18
                  subst c18
                  have H1 : (if x8_2.length < 17592186044416 then (icehouseref10_Lost.l1 k2 x5_1 t114 (x8_2 ++ [x9_2]) (wrap64 (x9_2 + 1))) else (none)) = some r := by rw [if_neg (show ¬ (false = true) by decide)] at H; exact H
                  clear H
                  have H := H1
                  clear H1
                  by_cases c22 : x8_2.length < 17592186044416
                  · rw [if_pos c22] at H
                    have LMc22 := Aside0.mk c22
                    clear c22
                    obtain ⟨y119, hy119⟩ : ∃ y_ : List Int, y_ = (x8_2 ++ [x9_2]) := ⟨_, rfl⟩
                    replace H : (icehouseref10_Lost.l1 k2 x5_1 t114 y119 (wrap64 (x9_2 + 1))) = some r := by first | (rw [hy119]; with_reducible exact H) | (have H2_ := (Option.bind_some _ _).symm.trans H; rw [hy119]; with_reducible exact H2_) | (have H2_ := (Option.bind_some _ _).symm.trans H; with_reducible exact H2_) | with_reducible exact H | (rw [hy119]; exact H) | exact H
                    have Ny119 := Aside0.mk hy119
                    clear hy119
                    have H' := Aside0.mk H
                    clear H
                    obtain ⟨Ao23, co23, eo23⟩ := Kd.S_slice HO_7.out
                    subst eo23
                    have p117 : 0 ≤ (x9_2 : Int) := of_decide_eq_true (by first | (with_reducible assumption) | assumption)
                    have q117 : x9_2 < (t114.length : Int) := of_decide_eq_true (by first | (with_reducible assumption) | assumption)
                    obtain ⟨ad117, A117_0, c117_0, e117, hx117_0, hl117_0, hi117_0⟩ := at_L1 (Kd.S_reads' HO_7.out).2.2 x9_2 p117 q117
                    cases e117
                    obtain ⟨ce117, hce117, hMe117, hcc117⟩ := Kd.S_get HO_7.out [] x9_2 p117 (by first | exact q117 | exact of_decide_eq_true (by first | (with_reducible assumption) | assumption) | (have e_ := (Kd.S_reads' HO_7.out).1; omega))
                    obtain ⟨ve117_0, rfl, ge117_0⟩ := hMe117
                    have hv117_0 := hcc117 0 _ rfl
                    rw [Nat.add_zero, show ((Kd.slice 3 (Kd.int .i64))).sz = 1 from rfl, Nat.mul_one] at hv117_0
                    replace hv117_0 := Option.some.inj (hv117_0.symm.trans hx117_0)
                    rw [hv117_0] at ge117_0
                    have HL117_0 := Aside0.mk (show Kd.R (Kd.int .i64) 3 _ _ _ _ (rd_L1 t114 x9_2) from ge117_0)
                    clear hv117_0 ge117_0
                    clear hcc117 hce117
                    have HR117_0 := Aside0.mk hi117_0
                    have HC117_0 := Aside0.mk hl117_0
                    clear hi117_0 hl117_0
                    replace p117 := eq_true p117
                    replace q117 := eq_true q117
                    obtain ⟨Ao24, co24, eo24⟩ := Kd.R_slice HO_5.out
                    subst eo24
                    go_wp2_with (first | ((with_reducible refine gate_callee (f := 14) rfl ?_); refine goesL_ (some 46) rfl rfl Try.func14 (by kernel_rfl) rfl #[.slice A117_0 (rd_L1 t114 x9_2).length c117_0, .slice Ao24 x5_1.length co24] rfl (by (try simp only [List.map_toArray, List.map_cons, List.map_nil]); first | done | rfl | (simp only [List.length_drop, List.length_take]; rfl)) ?_; (with_reducible refine (QA.icehouseref10_Enough.calls k2 _ _ (rd_L1 t114 x9_2) _ _ x5_1 false _ ?side1 ?side2 ?side3 ?side4 A17.out).mono ?_); (case side1 => repeat (first | exact (by repeat (first | (with_reducible exact HR117_0.out) | (with_reducible refine Kd.C_alloc ?_ _) | (with_reducible refine Kd.C_drewN ?_ _) | (with_reducible refine Kd.C_drew ?_) | exact HR117_0.out)) | (with_reducible refine Kd.C_alloc ?_ _) | (with_reducible refine Kd.C_drewN ?_ _) | (with_reducible refine Kd.C_drew ?_))); (case side2 => exact HC117_0.out); (case side3 => repeat (first | exact (Kd.R_reads' HO_5.out).2.2 | (with_reducible refine Kd.C_alloc ?_ _) | (with_reducible refine Kd.C_drewN ?_ _) | (with_reducible refine Kd.C_drew ?_))); (case side4 => exact (Kd.R_reads' HO_5.out).2.1); rintro e w25 ⟨rfl, hb⟩; refine ⟨_, rfl, ?_⟩; have n0_ := Aside0.mk (Kd.R_below (by (with_reducible repeat (first | apply Kd.R_alloc | apply Kd.R_drewN | apply Kd.R_drew)); exact HO_5.out) hb); have n1_ := Aside0.mk (Kd.S_below (by (with_reducible repeat (first | apply Kd.S_alloc | apply Kd.S_drewN | apply Kd.S_drew)); exact HO_7.out) hb); have n2_ := Aside0.mk (Kd.R_below (by (with_reducible repeat (first | apply Kd.R_alloc | apply Kd.R_drewN | apply Kd.R_drew)); exact HO_8.out) hb); have n3_ := Aside0.mk (Kd.R_below (by (with_reducible repeat (first | apply Kd.R_alloc | apply Kd.R_drewN | apply Kd.R_drew)); exact HL117_0.out) hb); have n4_ := Aside0.mk (blk_below (g := gb107) (o := .cells #[.slice A0_0 l0_0.length c0_0, .int .i64 a0_1, .int .i64 a0_2] 42 (0, 0)) (by (with_reducible repeat (first | refine blk_drewN ?_ _ | refine blk_drew ?_ | refine blk_alloc ?_ _)); exact BK107.out) hb); have n5_ := Aside0.mk (Kd.C_below (by repeat (first | (with_reducible exact HR117_0.out) | (with_reducible refine Kd.C_alloc ?_ _) | (with_reducible refine Kd.C_drewN ?_ _) | (with_reducible refine Kd.C_drew ?_) | exact HR117_0.out)) hb); have n6_ := Aside0.mk (below_step (by repeat (first | (with_reducible first | exact HB.out | apply below_alloc | apply pw_below_drewN | apply below_drew1 | refine below_set ?_ GE107.out) | exact HB.out)) hb); clear HO_5; clear HO_7; clear HO_8; clear HL117_0; clear BK107; clear HR117_0; clear HB; have HO_5 := n0_; have HO_7 := n1_; have HO_8 := n2_; have HL117_0 := n3_; have BK107 := n4_; have HR117_0 := n5_; have HB := n6_; clear n0_ n1_ n2_ n3_ n4_ n5_ n6_; (try clear hb); (try clear hb2); (try clear hk); (try clear hi)) | ((with_reducible refine gate_builtin (b := .append) (xs := #[.tmp 48, .tmp 50]) rfl ?_); at_builtin; refine Kd.R_append (Kd.int .i64) (w0 := w) w.heap.size rfl (.tmp 48) (.tmp 50) 22 3 (.int .i64 0) 8 rfl Try.underlying22 info3 rfl (by decide) (by omega) u8 x8_2 x9_2 [.int .i64 x9_2] (fun k_ => some k_ ≠ (.slice Ao24 x5_1.length co24 : Value).ownBlock) (fun _ => False) rfl rfl ?aP (fun _ hk => hk.elim) ?aF ?aO ?aB ?aS ?aL ?_; (case aP => exact rfl); (case aB => exact (by repeat (first | (with_reducible first | exact HB.out | apply below_alloc | apply pw_below_drewN | apply below_drew1 | refine below_set ?_ GE107.out) | exact HB.out))); (case aF => exact (fun k_ hk => Kd.fresh' (Kd.R_lt (by (with_reducible repeat (first | apply Kd.R_alloc | apply Kd.R_drewN | apply Kd.R_drew)); exact HO_5.out)) k_ hk)); (case aO => exact (by (with_reducible repeat (first | apply Kd.R_alloc | apply Kd.R_drewN | apply Kd.R_drew)); exact HO_8.out)); (case aS => exact (below_size (by repeat (first | (with_reducible first | exact HB.out | apply below_alloc | apply pw_below_drewN | apply below_drew1 | refine below_set ?_ GE107.out) | exact HB.out)))); (case aL => have := LMc22.out; omega); intro v120 w26 ho hb hg hat; rw [← Ny119.out] at ho; have n0_ := Aside0.mk (Kd.R_after (ok := (fun _ => True)) (by (with_reducible repeat (first | apply Kd.R_alloc | apply Kd.R_drewN | apply Kd.R_drew)); exact Kd.R_mono HO_5.out (fun _ hk => ⟨trivial, hk⟩)) hg hat); have n1_ := Aside0.mk (Kd.S_after (ok := (fun k_ => some k_ ≠ (.slice Ao24 x5_1.length co24 : Value).ownBlock)) (by (with_reducible repeat (first | apply Kd.S_alloc | apply Kd.S_drewN | apply Kd.S_drew)); exact HO_7.out) hg hat); have n2_ := Aside0.mk (blk_grown (g := gb107) (o := .cells #[.slice A0_0 l0_0.length c0_0, .int .i64 a0_1, .int .i64 a0_2] 42 (0, 0)) (by (with_reducible repeat (first | refine blk_drewN ?_ _ | refine blk_drew ?_ | refine blk_alloc ?_ _)); exact BK107.out) hg (Kd.R_ne HO_8.out BK107.out (by decide))); have n3_ := Aside0.mk (Kd.R_after (ok := (fun k_ => some k_ ≠ (.slice Ao24 x5_1.length co24 : Value).ownBlock ∧ some k_ ≠ (.slice (some ad117) t114.length co23 : Value).ownBlock)) (by (with_reducible repeat (first | apply Kd.R_alloc | apply Kd.R_drewN | apply Kd.R_drew)); exact Kd.R_mono HL117_0.out (fun _ hk => ⟨⟨hk.1.1, hk.2⟩, hk.1.2⟩)) hg hat); have n4_ := Aside0.mk (hb); have n5_ := Aside0.mk (ho); clear HO_5; clear HO_7; clear BK107; clear HL117_0; clear HB; clear HO_8; have HO_5 := n0_; have HO_7 := n1_; have BK107 := n2_; have HL117_0 := n3_; have HB := n4_; have HO121 := n5_; clear n0_ n1_ n2_ n3_ n4_ n5_; clear ho hb hg hat))
                    go_roundg k2
                    case measure => have := HK1.out; have := HK2.out; omega
                    case rel => exact ⟨(y119), (wrap64 (x9_2 + 1)), (by first | rfl | (simp; done) | (simp [*]; done)), H', ⟨by have := HK1.out; have := HK2.out; omega⟩, ⟨by (with_reducible repeat (first | apply Kd.R_alloc | apply Kd.R_drewN | apply Kd.R_drew)); exact Kd.R_mono HO_5.out (fun _ hk => hk.2)⟩, ⟨by (with_reducible repeat (first | apply Kd.S_alloc | apply Kd.S_drewN | apply Kd.S_drew)); exact HO_7.out⟩, ⟨by (with_reducible repeat (first | apply Kd.R_alloc | apply Kd.R_drewN | apply Kd.R_drew)); exact HO121.out⟩, ⟨by (with_reducible repeat (first | refine blk_drewN ?_ _ | refine blk_drew ?_ | refine blk_alloc ?_ _)); exact BK107.out⟩, ⟨by repeat (first | (with_reducible first | exact HB.out | apply below_alloc | apply pw_below_drewN | apply below_drew1 | refine below_set ?_ GE107.out) | exact HB.out)⟩⟩
                  · rw [if_neg c22] at H
                    exact absurd H (by simp)
              · rw [if_neg c16] at H
                exact absurd H (by simp)
            · rw [if_neg c15] at H
              have c15b0 : decide (x9_2 < (t114.length : Int)) = false := decide_eq_false c15
              clear c15
              obtain rfl := Option.some.inj H
              obtain ⟨Ao27, co27, eo27⟩ := Kd.S_slice HO_7.out
              subst eo27
              go_wp2
              go_ret
              exact ⟨_, by first | rfl | (simp [errW_none, errW_some] <;> rfl) | (simp [*, errW_none, errW_some] <;> rfl), by (with_reducible repeat (first | apply Kd.R_alloc | apply Kd.R_drewN | apply Kd.R_drew)); exact Kd.R_mono HO_8.out (fun _ hk => trivial), by repeat (first | (with_reducible first | exact HB.out | apply below_alloc | apply pw_below_drewN | apply below_drew1 | refine below_set ?_ GE107.out) | exact HB.out)⟩
end Go.Proofs.Yteocngcojijnkaa.QV
namespace Go.Proofs.Yteocngcojijnkaa.QV
open Go.RowKit Go.Proofs.YteocngcojijnkaaW.PrintWords Go.Proofs.YteocngcojijnkaaW.PrintLast Go.Proofs.YteocngcojijnkaaW.PrintMore
attribute [local go_sem] max2_int min2_int max_two min_two max_three min_three max_four min_four   -- for this text's walks alone
set_option linter.unusedVariables false
set_option linter.unusedSimpArgs false
end Go.Proofs.Yteocngcojijnkaa.QV
namespace Go.Proofs.Yteocngcojijnkaa.QlQA
open Go.RowKit Go.Proofs.Yteocngcojijnkaa.QA Go.Proofs.Yteocngcojijnkaa.Lex Go.Proofs.Yteocngcojijnkaa.Cm Go.Proofs.Yteocngcojijnkaa.Ql
open Go.Proofs.YteocngcojijnkaaW.PrintWords
set_option linter.unusedVariables false
theorem has_l0 (l : List Int) (x : Int) (hl : l.length ≤ 9223372036854775807) : ∀ (n i : Nat), l.length - i = n → i ≤ l.length →
    Since (fun k => icehouseref09_Has.l0 k l x (i : Int)) (decide (x ∈ l.drop i)) := by
  intro n
  induction n with
  | zero =>
    intro i hn hi
    have hf : ¬ ((i : Int) < (l.length : Int)) := by omega
    refine Since.none fun k => ?_
    simp only [icehouseref09_Has.l0, if_neg hf]
    rw [List.drop_eq_nil_of_le (by omega)]; simp
  | succ n ih =>
    intro i hn hi
    have h1 : i < l.length := by omega
    have f1 : (i : Int) < (l.length : Int) := by omega
    have f0 : (0 : Int) ≤ (i : Int) := by omega
    have r1 : rd l (i : Int) = l[i] := by simp [rd, h1]
    have d := List.drop_eq_getElem_cons h1
    by_cases he : l[i] = x
    · refine Since.none fun k => ?_
      simp only [icehouseref09_Has.l0, if_pos f1, if_pos f0, r1, if_pos he]
      rw [d]; simp [he]
    · refine Since.one (ih (i + 1) (by omega) (by omega)) fun k h => ?_
      simp only [icehouseref09_Has.l0, if_pos f1, if_pos f0, r1, if_neg he, w_succ i (by omega)]
      rw [h, d]
      congr 1
      exact decide_eq_decide.2 (by rw [List.mem_cons]; constructor; exact .inr; rintro (h | h); exact absurd h.symm he; exact h)
theorem has_ev (l : List Int) (x : Int) (hl : l.length ≤ 9223372036854775807) : Since (fun k => icehouseref09_Has.f k l x) (decide (x ∈ l)) := by
  have := has_l0 l x hl _ 0 rfl (Nat.zero_le _)
  rw [List.drop_zero] at this
  exact this
theorem since_three {α α' α'' β : Type} {f : Nat → Option α} {r : α} {g : Nat → Option α'} {r' : α'} {g' : Nat → Option α''} {r'' : α''} {F : Nat → Option β} {q : β} (h : Since f r) (h' : Since g r') (h'' : Since g' r'') (hF : ∀ k, f k = some r → g k = some r' → g' k = some r'' → F (k + 1) = some q) : Since F q := by
  obtain ⟨K, h⟩ := h
  obtain ⟨K', h'⟩ := h'
  obtain ⟨K'', h''⟩ := h''
  refine ⟨K + K' + K'' + 1, fun k hk => ?_⟩
  obtain ⟨k, rfl⟩ : ∃ j, k = j + 1 := ⟨k - 1, by omega⟩
  exact hF k (h k (by omega)) (h' k (by omega)) (h'' k (by omega))
theorem rcom_l0 (l b : List Int) (hl : l.length < 17592186044416) (hb : b.length < 17592186044416) : ∀ (n i : Nat) (out : List Int), l.length - i = n → i ≤ l.length → out.length ≤ i →
    Since (fun k => icehouseref10_Common.l0 k l b out (i : Int)) (cm b out (l.drop i)) := by
  intro n
  induction n with
  | zero =>
    intro i out hn hi ho
    have hf : ¬ ((i : Int) < (l.length : Int)) := by omega
    refine Since.none fun k => ?_
    simp only [icehouseref10_Common.l0, if_neg hf]
    rw [List.drop_eq_nil_of_le (by omega)]; rfl
  | succ n ih =>
    intro i out hn hi ho
    have h1 : i < l.length := by omega
    have f1 : (i : Int) < (l.length : Int) := by omega
    have f0 : (0 : Int) ≤ (i : Int) := by omega
    have r1 : rd l (i : Int) = l[i] := by simp [rd, h1]
    have d := List.drop_eq_getElem_cons h1
    have hc := has_ev b l[i] (by omega)
    have hc2 := has_ev out l[i] (by omega)
    have hr1 := ih (i + 1) out (by omega) (by omega) (by omega)
    have hr2 := ih (i + 1) (out ++ [l[i]]) (by omega) (by omega) (by simp; omega)
    rw [d, cm]
    by_cases hb : l[i] ∈ b
    · rw [if_pos hb]
      by_cases he : l[i] ∈ out
      · rw [if_pos he]
        refine since_three hc hc2 hr1 fun k h1 h2 h3 => ?_
        simp only [icehouseref10_Common.l0, if_pos f1, if_pos f0, r1]
        rw [h1, Option.bind_some, if_pos (decide_eq_true hb), h2, Option.bind_some, if_pos (decide_eq_true he), w_succ i (by omega)]
        exact h3
      · rw [if_neg he]
        refine since_three hc hc2 hr2 fun k h1 h2 h3 => ?_
        simp only [icehouseref10_Common.l0, if_pos f1, if_pos f0, r1]
        rw [h1, Option.bind_some, if_pos (decide_eq_true hb), h2, Option.bind_some, if_neg (by simp [he]), if_pos (by omega), w_succ i (by omega)]
        exact h3
    · rw [if_neg hb]
      refine Since.two hc hr1 fun k h1 h3 => ?_
      simp only [icehouseref10_Common.l0, if_pos f1, if_pos f0, r1]
      rw [h1, Option.bind_some, if_neg (by simp [hb]), w_succ i (by omega)]
      exact h3
theorem rcom_ev (l b : List Int) (hl : l.length < 17592186044416) (hb : b.length < 17592186044416) : Since (fun k => icehouseref10_Common.f k l b) (com l b) := rcom_l0 l b hl hb _ 0 [] rfl (Nat.zero_le _) (Nat.le_refl _)
end Go.Proofs.Yteocngcojijnkaa.QlQA
namespace Go.Proofs.Yteocngcojijnkaa.Pure
open Go.RowKit Go.Proofs.Yteocngcojijnkaa.QA Go.Proofs.YteocngcojijnkaaW.PrintWords Go.Proofs.YteocngcojijnkaaW.PrintLast
open Go.Proofs.Yteocngcojijnkaa.Lex Go.Proofs.Yteocngcojijnkaa.Cm Go.Proofs.Yteocngcojijnkaa.Ql Go.Proofs.Yteocngcojijnkaa.QlQA
set_option linter.unusedVariables false
theorem renough_ev (l g : List Int) (hl : l.length < 17592186044416) (hg : g.length < 17592186044416) : Since (fun k => icehouseref10_Enough.f k l g) (enough l g) := by
  refine (rcom_ev l l hl hl).and (rcom_ev l g hl hg) fun k h1 h2 => ?_
  have hlen := once_len l
  have hlen2 := com_len l g
  rw [icehouseref10_Enough.f, h1, Option.bind_some, h2, Option.bind_some, com_self]
  unfold enough
  by_cases h0 : 0 < (once l).length
  · rw [if_pos (by omega), decide_eq_true h0, Bool.true_and]
    have hw : wrap64 (2 * ((com l g).length : Int)) = 2 * ((com l g).length : Int) := by unfold wrap64; omega
    rw [hw]
    congr 1
    exact decide_eq_decide.2 (by omega)
  · rw [if_neg (by omega), decide_eq_false h0, Bool.false_and]
theorem same_l0 (l : List Int) (hl : l.length ≤ 9223372036854775807) : ∀ (n i : Nat), l.length - i = n → i ≤ l.length → Since (fun k => icehouseref00_SameInts.l0 k l l (i : Int)) true := by
  intro n
  induction n with
  | zero =>
    intro i hn hi
    have hf : ¬ ((i : Int) < (l.length : Int)) := by omega
    refine Since.none fun k => ?_
    simp only [icehouseref00_SameInts.l0, if_neg hf]
  | succ n ih =>
    intro i hn hi
    have f1 : (i : Int) < (l.length : Int) := by omega
    have f0 : (0 : Int) ≤ (i : Int) := by omega
    refine Since.one (ih (i + 1) (by omega) (by omega)) fun k h => ?_
    simp only [icehouseref00_SameInts.l0, if_pos f1, if_pos f0, if_true, w_succ i (by omega)]
    exact h
theorem same_ev (l : List Int) (hl : l.length ≤ 9223372036854775807) : Since (fun k => icehouseref00_SameInts.f k l l) true := by
  refine (same_l0 l hl _ 0 rfl (Nat.zero_le _)).map fun k h => ?_
  rw [icehouseref00_SameInts.f, if_pos rfl]
  exact h
end Go.Proofs.Yteocngcojijnkaa.Pure
namespace Go.Proofs.Yteocngcojijnkaa.Cv
open Go.RowKit Go.Proofs.Yteocngcojijnkaa.Lex Go.Proofs.Yteocngcojijnkaa.Ql
open Go.Proofs.Yteocngcojijnkaa.Cm (w_succ)
open Go.Proofs.Yteocngcojijnkaa.QlQA (has_ev)
open Go.Proofs.Yteocngcojijnkaa.Pure (renough_ev same_ev)
open Go.Proofs.Yteocngcojijnkaa.Hs (okB okB_len listsP lists_ok lists_out rlists_ev check_ev chk keepR keepR_len rawP_small)
open Go.Proofs.YteocngcojijnkaaW.PrintWords Go.Proofs.YteocngcojijnkaaW.PrintLast Go.Proofs.YteocngcojijnkaaW.PrintMore
set_option linter.unusedVariables false
set_option linter.unusedSimpArgs false
theorem lp_len {l : List Int} {each keep : Int} (ho : okB l each keep = true) : ∀ x ∈ listsP l each keep, x.length = keep.toNat := by
  obtain ⟨k0, k1, k2, k3, k4, k5, _⟩ := okB_len ho
  intro x hx
  unfold listsP at hx
  obtain ⟨p, _, rfl⟩ := List.mem_map.1 hx
  exact keepR_len ho _ _ (by omega)
theorem lp_lt {l : List Int} {each keep : Int} (ho : okB l each keep = true) : ∀ x ∈ listsP l each keep, x.length < 17592186044416 := by
  obtain ⟨k0, k1, k2, k3, k4, k5, _⟩ := okB_len ho
  intro x hx
  rw [lp_len ho x hx]
  omega
theorem lp_small {l : List Int} {each keep : Int} (ho : okB l each keep = true) : (listsP l each keep).length ≤ 4096 := by
  unfold listsP
  rw [List.length_map]
  exact rawP_small ho
theorem covers_ok {l : List Int} {each keep : Int} (ho : okB l each keep = true) (got : List Int) : Since (fun k => covers.f k l each keep got) (cov (listsP l each keep) got, 0) := by
  refine (lists_ok ho).map fun k hk => ?_
  unfold covers.f
  rw [hk]
  exact (if_pos (lp_lt ho)).trans rfl
theorem covers_out {l : List Int} {each keep : Int} (ho : okB l each keep = false) (got : List Int) : Since (fun k => covers.f k l each keep got) (false, 2) := by
  refine (lists_out ho).map fun k hk => ?_
  unfold covers.f
  rw [hk]
  show (if ∀ x ∈ ([] : List (List Int)), x.length < 17592186044416 then some (if (2 : Int) = 0 then cov [] got else false, (2 : Int)) else none) = _
  rw [if_pos (by simp)]
  rfl
theorem lost_ok {l : List Int} {each keep : Int} (ho : okB l each keep = true) (got : List Int) : Since (fun k => lost.f k l each keep got) (lost (listsP l each keep) (Ld.keep got l), 0) := by
  obtain ⟨k0, k1, k2, k3, k4, k5, _⟩ := okB_len ho
  have hs := lp_small ho
  refine (lists_ok ho).map fun k hk => ?_
  unfold lost.f
  rw [hk]
  exact (if_pos ⟨lp_lt ho, by show (listsP l each keep).length ≤ _; omega, by omega⟩).trans rfl
theorem lost_out {l : List Int} {each keep : Int} (ho : okB l each keep = false) (hl : l.length ≤ 8) (got : List Int) : Since (fun k => lost.f k l each keep got) ([], 2) := by
  refine (lists_out ho).map fun k hk => ?_
  unfold lost.f
  rw [hk]
  exact (if_pos ⟨fun x hx => absurd hx (List.not_mem_nil), Nat.zero_le _, by omega⟩).trans rfl
/-- those that are left -/
theorem keep_step {got l : List Int} {i : Nat} (h1 : i < l.length) : Ld.keep got (l.drop i) = if l[i] ∈ got then Ld.keep got (l.drop (i + 1)) else l[i] :: Ld.keep got (l.drop (i + 1)) := by
  rw [List.drop_eq_getElem_cons h1]
  unfold Ld.keep
  rw [List.filter_cons]
  by_cases h : l[i] ∈ got
  · rw [if_pos h, if_neg (by simp [Ld.Out, h])]
  · rw [if_neg h, if_pos (by simp [Ld.Out, h])]
theorem keep_len (got l : List Int) : (Ld.keep got l).length ≤ l.length := List.length_filter_le _ _
theorem mem_keep {got l : List Int} {x : Int} : x ∈ Ld.keep got l ↔ x ∈ l ∧ x ∉ got := by
  unfold Ld.keep
  rw [List.mem_filter, decide_eq_true_iff]
  rfl
theorem lostF_nil (a : List Int) : ∀ (L : List (List Int)) (i : Nat), (lostF a i L).length = 0 ↔ cov L a = true
  | [], i => by simp [lostF, cov]
  | x :: L, i => by
    have ih := lostF_nil a L (i + 1)
    have e1 : lostF a i (x :: L) = if enough x a = true then lostF a (i + 1) L else (i : Int) :: lostF a (i + 1) L := rfl
    have e2 : cov (x :: L) a = (enough x a && cov L a) := rfl
    rw [e1, e2]
    by_cases h : enough x a = true
    · rw [if_pos h, h, Bool.true_and]; exact ih
    · rw [if_neg h, (by simpa using h : enough x a = false)]; simp
theorem cov_lost (L : List (List Int)) (a : List Int) : (cov L a == (((lost L a).length : Int) == 0)) = true := by
  have h := lostF_nil a L 0
  unfold lost
  cases hc : cov L a
  · have : (lostF a 0 L).length ≠ 0 := fun e => by rw [h.1 e] at hc; cases hc
    simp [this] at *
  · have := h.2 hc
    simp [this]
/-! the reference's -/
theorem rcov_l0 (L : List (List Int)) (got : List Int) (hL : ∀ x ∈ L, x.length < 17592186044416) (hg : got.length < 17592186044416) (hl : L.length ≤ 4096) : ∀ (n i : Nat), L.length - i = n → i ≤ L.length →
    Since (fun k => QV.icehouseref10_Covers.l0 k got L (i : Int)) (cov (L.drop i) got) := by
  intro n
  induction n with
  | zero =>
    intro i hn hi
    have hf : ¬ ((i : Int) < (L.length : Int)) := by omega
    rw [List.drop_eq_nil_of_le (by omega)]
    exact Since.none fun k => by simp only [QV.icehouseref10_Covers.l0, if_neg hf]; rfl
  | succ n ih =>
    intro i hn hi
    have h1 : i < L.length := by omega
    have f1 : (i : Int) < (L.length : Int) := by omega
    have f0 : (0 : Int) ≤ (i : Int) := by omega
    have r1 : QV.rd_L1 L (i : Int) = L[i] := by unfold QV.rd_L1; rw [show (i : Int).toNat = i from rfl]; simp [h1]
    have hd : cov (L.drop i) got = (enough L[i] got && cov (L.drop (i + 1)) got) := by rw [List.drop_eq_getElem_cons h1]; rfl
    refine Since.two (ih (i + 1) (by omega) (by omega)) (renough_ev L[i] got (hL _ (List.getElem_mem h1)) hg) fun k hk he => ?_
    simp only [QV.icehouseref10_Covers.l0, if_pos f1, if_pos f0, r1, w_succ i (by omega)]
    rw [he, Option.bind_some, hd]
    by_cases h : enough L[i] got = true
    · rw [if_pos h, hk, h, Bool.true_and]
    · rw [if_neg h, (by simpa using h : enough L[i] got = false), Bool.false_and]
theorem rcov_ev {l : List Int} {each keep : Int} (ho : okB l each keep = true) (got : List Int) (hg : got.length < 17592186044416) : Since (fun k => QV.icehouseref10_Covers.f k l each keep got) (cov (listsP l each keep) got) := by
  have h := rcov_l0 (listsP l each keep) got (lp_lt ho) hg (lp_small ho) _ 0 rfl (Nat.zero_le _)
  rw [List.drop_zero] at h
  refine (rlists_ev ho).and h fun k hp hk => ?_
  simp only [QV.icehouseref10_Covers.f]
  rw [hp, Option.bind_some]
  exact hk
theorem rlost_l1 (L : List (List Int)) (al : List Int) (hL : ∀ x ∈ L, x.length < 17592186044416) (hg : al.length < 17592186044416) (hl : L.length ≤ 4096) : ∀ (n i : Nat) (out : List Int), L.length - i = n → i ≤ L.length → out.length ≤ i →
    Since (fun k => QV.icehouseref10_Lost.l1 k al L out (i : Int)) (out ++ lostF al i (L.drop i)) := by
  intro n
  induction n with
  | zero =>
    intro i out hn hi hout
    have hf : ¬ ((i : Int) < (L.length : Int)) := by omega
    rw [List.drop_eq_nil_of_le (by omega)]
    exact Since.none fun k => by simp only [QV.icehouseref10_Lost.l1, if_neg hf, lostF, List.append_nil]
  | succ n ih =>
    intro i out hn hi hout
    have h1 : i < L.length := by omega
    have f1 : (i : Int) < (L.length : Int) := by omega
    have f0 : (0 : Int) ≤ (i : Int) := by omega
    have r1 : QV.rd_L1 L (i : Int) = L[i] := by unfold QV.rd_L1; rw [show (i : Int).toNat = i from rfl]; simp [h1]
    have hd : lostF al i (L.drop i) = if enough L[i] al = true then lostF al (i + 1) (L.drop (i + 1)) else (i : Int) :: lostF al (i + 1) (L.drop (i + 1)) := by rw [List.drop_eq_getElem_cons h1]; rfl
    have he := renough_ev L[i] al (hL _ (List.getElem_mem h1)) hg
    by_cases h : enough L[i] al = true
    · refine Since.two (ih (i + 1) out (by omega) (by omega) (by omega)) he fun k hk he => ?_
      simp only [QV.icehouseref10_Lost.l1, if_pos f1, if_pos f0, r1, w_succ i (by omega)]
      rw [he, Option.bind_some, hd, if_pos h, if_pos h, hk]
    · refine Since.two (ih (i + 1) (out ++ [(i : Int)]) (by omega) (by omega) (by rw [List.length_append]; simpa using hout)) he fun k hk he => ?_
      simp only [QV.icehouseref10_Lost.l1, if_pos f1, if_pos f0, r1, w_succ i (by omega)]
      rw [he, Option.bind_some, hd, if_neg h, if_neg h, if_pos (by omega), hk, List.append_assoc]
      rfl
theorem rlost_l0 {l : List Int} {each keep : Int} (ho : okB l each keep = true) (got : List Int) (hg : got.length < 17592186044416) : ∀ (n i : Nat) (acc : List Int), l.length - i = n → i ≤ l.length → acc.length ≤ i → acc ++ Ld.keep got (l.drop i) = Ld.keep got l →
    Since (fun k => QV.icehouseref10_Lost.l0 k got acc (i : Int) l each keep) (lost (listsP l each keep) (Ld.keep got l)) := by
  obtain ⟨k0, k1, k2, k3, k4, k5, _⟩ := okB_len ho
  intro n
  induction n with
  | zero =>
    intro i acc hn hi ha hacc
    have hf : ¬ ((i : Int) < (l.length : Int)) := by omega
    rw [List.drop_eq_nil_of_le (by omega)] at hacc
    obtain rfl : acc = Ld.keep got l := by rw [← hacc]; exact (List.append_nil _).symm
    have h := rlost_l1 (listsP l each keep) (Ld.keep got l) (lp_lt ho) (by have := keep_len got l; omega) (lp_small ho) _ 0 [] rfl (Nat.zero_le _) (Nat.le_refl _)
    rw [List.drop_zero, List.nil_append] at h
    refine Since.two (rlists_ev ho) h fun k hp hk => ?_
    simp only [QV.icehouseref10_Lost.l0, if_neg hf]
    rw [hp, Option.bind_some]
    exact hk
  | succ n ih =>
    intro i acc hn hi ha hacc
    have h1 : i < l.length := by omega
    have f1 : (i : Int) < (l.length : Int) := by omega
    have f0 : (0 : Int) ≤ (i : Int) := by omega
    have r1 : rd l (i : Int) = l[i] := by simp [rd, h1]
    rw [keep_step h1] at hacc
    have hh := has_ev got l[i] (by omega)
    by_cases h : l[i] ∈ got
    · rw [if_pos h] at hacc
      refine Since.two (ih (i + 1) acc (by omega) (by omega) (by omega) hacc) hh fun k hk hq => ?_
      simp only [QV.icehouseref10_Lost.l0, if_pos f1, if_pos f0, r1, w_succ i (by omega)]
      rw [hq, Option.bind_some, if_pos (decide_eq_true h), hk]
    · rw [if_neg h] at hacc
      refine Since.two (ih (i + 1) (acc ++ [l[i]]) (by omega) (by omega) (by rw [List.length_append]; simpa using ha) (by rw [List.append_assoc]; exact hacc)) hh fun k hk hq => ?_
      simp only [QV.icehouseref10_Lost.l0, if_pos f1, if_pos f0, r1, w_succ i (by omega)]
      rw [hq, Option.bind_some, if_neg (by simp [h]), if_pos (by omega), hk]
theorem rlost_ev {l : List Int} {each keep : Int} (ho : okB l each keep = true) (got : List Int) (hg : got.length < 17592186044416) : Since (fun k => QV.icehouseref10_Lost.f k l each keep got) (lost (listsP l each keep) (Ld.keep got l)) := by
  have h := rlost_l0 ho got hg _ 0 [] rfl (Nat.zero_le _) (Nat.le_refl _) (by rw [List.drop_zero]; rfl)
  exact h
end Go.Proofs.Yteocngcojijnkaa.Cv
namespace Go.Proofs.Yteocngcojijnkaa.QG
open Go.RowKit Go.Proofs.YteocngcojijnkaaW.PrintWords Go.Proofs.YteocngcojijnkaaW.PrintLast Go.Proofs.YteocngcojijnkaaW.PrintMore
attribute [local go_sem] max2_int min2_int max_two min_two max_three min_three max_four min_four   -- for this text's walks alone
set_option linter.unusedVariables false
set_option linter.unusedSimpArgs false
def errW : Option Int → Value
  | none => .nilIface
  | some c => .iface 0 (.int .i64 c)
theorem errW_none : errW none = .nilIface := rfl
theorem errW_some (c : Int) : errW (some c) = .iface 0 (.int .i64 c) := rfl
theorem info3 : (Try.prog.info? 3).map (fun i => (i.zero, i.size, i.bytes)) = some (some (.int .i64 0), 1, 8) := by kernel_rfl
-- the values' own types
end Go.Proofs.Yteocngcojijnkaa.QG
