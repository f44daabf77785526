/- Contracts of quorum.Count's Got, Left, Done. Condition: a count of quorum.New's. -/
import Derived.Test.YteocngcojijnkaaN2
namespace Go.Proofs.Yteocngcojijnkaa.Cn
open Go.ChangeShapes Go.WideShapes Go.ChangeAt Go.RowKit Go.Proofs.Yteocngcojijnkaa.QO Go.Proofs.Yteocngcojijnkaa.QE Go.Proofs.Yteocngcojijnkaa.Lex Go.Proofs.Yteocngcojijnkaa.Cm Go.Proofs.Yteocngcojijnkaa.Ql
open Go.Proofs.YteocngcojijnkaaW.PrintWords Go.Proofs.YteocngcojijnkaaW.PrintLast Go.Proofs.YteocngcojijnkaaW.PrintMore
set_option linter.unusedVariables false
set_option linter.unusedSimpArgs false
theorem gotL_take (l : List Int) (bs : List Bool) (k : Nat) (h : k < l.length) (h' : k < bs.length) (he : l.length = bs.length) : gotL (l.take (k + 1)) (bs.take (k + 1)) = gotL (l.take k) (bs.take k) ++ (if bs[k] then [l[k]] else []) := by
  rw [List.take_succ_eq_append_getElem h, List.take_succ_eq_append_getElem h']
  exact gotL_snoc _ _ _ _ (by rw [List.length_take, List.length_take]; omega)
set_option maxHeartbeats 4000000 in
set_option maxRecDepth 100000 in
theorem got_ {w0 w : World} {g : Nat} {l seen : List Int} (h : St w w0.heap.size g l seen) (hl : l.length ≤ 17592186044400) :
    Calls Try.prog 23 #[.pointer (some ⟨g, 0, none⟩)] w fun e w' => ∃ v, e = .returned v ∧ Kd.R (Kd.int .i64) 3 w' w.heap.size (fun _ => True) v (gotL l (marks l seen)) ∧ Below w.heap.size w w' := by
  obtain ⟨A, c, b, d, h1, h2, h3, h4⟩ := h
  have c0 : w.cell? ⟨g, 0, none⟩ = some (.slice A l.length c) := (blk_cell h1 0).trans rfl
  have c1 : w.cell? ⟨g, 1, none⟩ = some (.slice (some ⟨b, 0, none⟩) l.length d) := (blk_cell h1 1).trans rfl
  have hgl := blk_lt h1
  have HR := Aside0.mk (Kd.R_reads' h3).2.2
  have ml := marks_len l seen
  have HQ : Aside0 (∀ w' : World, Below w.heap.size w w' → ∀ k (hk : k < l.length), w'.cell? ⟨b, k, none⟩ = some (.bool ((marks l seen)[k]'(by rw [ml]; exact hk)))) := ⟨by
    intro w' hb k hk
    have := (Kd.R_cell (d := false) (enc := Value.bool) (h1 := fun _ => rfl) (by rw [ml]; exact h4) (k : Int) (by omega) (by rw [ml]; omega)).1
    rw [show (k : Int).toNat = k from rfl] at this
    have := pw_cell_below hb this
    rw [this]
    simp [rdOf, ml, hk]⟩
  have HL := Lib.hid ml
  have H0 : Aside0 (Kd.R (Kd.int .i64) 3 w w.heap.size (fun _ => True) (.slice none 0 0) (gotL (l.take 0) ((marks l seen).take 0))) := ⟨Kd.R_nil _ _ _ _ _⟩
  have HB0 := Aside0.mk (Below.refl w.heap.size w)
  clear h1 h2 h3 h4
  go_enter Try.func23, Try.ntmps23
  go_wp2_with fail
  go_loopg [3, 13] l.length (fun q v3 v13 w' => ∃ (k : Nat), k ≤ l.length ∧ v13 = .int .i64 k ∧ q = l.length - k ∧ Aside0 (Kd.R (Kd.int .i64) 3 w' w.heap.size (fun _ => True) v3 (gotL (l.take k) ((marks l seen).take k))) ∧ Aside0 (Below w.heap.size w w'))
  case atStart => exact ⟨0, Nat.zero_le _, rfl, rfl, H0, HB0⟩
  case round =>
    obtain ⟨k, hk, rfl, rfl, HO, HB⟩ := hrel
    obtain ⟨Ao, co, eo⟩ := Kd.R_slice HO.out
    subst eo
    by_cases hlt : k < l.length
    · have t1 : decide ((k : Int) < (l.length : Int)) = true := decide_eq_true (by omega)
      have i0 : (0 : Int) ≤ (k : Int) := by omega
      have i1 : (k : Int) < (l.length : Int) := by omega
      have hq := HQ.out wr HB.out k hlt
      have hb4 : k < (marks l seen).length := by rw [HL.out]; exact hlt
      have HT := Aside0.mk (gotL_take l (marks l seen) k hlt hb4 HL.out.symm)
      obtain ⟨x, hx⟩ : ∃ x, (marks l seen)[k] = x := ⟨_, rfl⟩
      rw [hx] at hq HT
      clear hx hb4
      cases x with
      | true =>
        obtain ⟨ad, hA, hc0⟩ := Hlp.C_at (Kd.C_below HR.out HB.out) k hlt
        subst hA
        have r0 := pw_cell_below HB.out c0
        have HN := Aside0.mk (gotL_len (l.take k) ((marks l seen).take k))
        have HN2 := Aside0.mk (List.length_take (i := k) (l := l))
        rw [if_pos rfl] at HT
        obtain ⟨y, hy⟩ : ∃ y, y = gotL (l.take k) ((marks l seen).take k) ++ [l[k]] := ⟨_, rfl⟩
        go_wp2_with ((with_reducible refine gate_builtin (b := .append) (xs := #[.tmp 19, .tmp 27]) rfl ?_); at_builtin; refine Kd.R_append (Kd.int .i64) (w0 := w) w.heap.size rfl (.tmp 19) (.tmp 27) 22 3 (.int .i64 0) 8 rfl Try.underlying22 info3 rfl (by decide) (by omega) _ _ l[k] [.int .i64 l[k]] (fun _ => True) (fun _ => False) rfl rfl rfl (fun _ hk => hk.elim) (fun _ _ => trivial) HO.out HB.out HB.out.size ?aL ?_; (case aL => have := HN.out; have := HN2.out; omega); intro v1 w1 ho hb hg hat; have HO1 := Aside0.mk ho; have HB1 := Aside0.mk hb; clear ho hb hg hat)
        go_roundg (l.length - (k + 1))
        case measure => omega
        case rel => exact ⟨k + 1, hlt, by go_num, rfl, ⟨by rw [HT.out]; exact HO1.out⟩, HB1⟩
      | false =>
        rw [if_neg (by decide), List.append_nil] at HT
        go_wp2_with fail
        go_roundg (l.length - (k + 1))
        case measure => omega
        case rel => exact ⟨k + 1, hlt, by go_num, rfl, ⟨by rw [HT.out]; exact HO.out⟩, HB⟩
    · obtain rfl : k = l.length := by omega
      have t1 : decide ((l.length : Int) < (l.length : Int)) = false := decide_eq_false (by omega)
      go_wp2_with fail
      go_ret
      refine ⟨_, rfl, ?_, HB.out⟩
      have e : gotL l (marks l seen) = gotL (l.take l.length) ((marks l seen).take l.length) := by rw [List.take_length, List.take_of_length_le (l := marks l seen) (by rw [HL.out]; exact Nat.le_refl _)]
      rw [e]
      exact HO.out
/-- those that were counted -/
theorem left_ {w0 w : World} {g : Nat} {l seen : List Int} (h : St w w0.heap.size g l seen) (hl : l.length ≤ 17592186044400) :
    Calls Try.prog 24 #[.pointer (some ⟨g, 0, none⟩)] w fun e w' => e = .returned (.int .i64 (max 0 (need l.length - (gotL l (marks l seen)).length))) ∧ Below w.heap.size w w' := by
  have HS := Aside0.mk h
  obtain ⟨A, c, b, d, h1, h2, h3, h4⟩ := h
  have c0 : w.cell? ⟨g, 0, none⟩ = some (.slice A l.length c) := (blk_cell h1 0).trans rfl
  have HN := Aside0.mk (need_eq l.length (by omega))
  have hg := gotL_len l (marks l seen)
  have hn0 : 0 ≤ need l.length := by unfold need; split <;> omega
  have hn1 : need l.length ≤ l.length + 1 := by unfold need; split <;> omega
  clear h1 h2 h3 h4
  go_enter Try.func24, Try.ntmps24
  go_wp2_with fail
  (with_reducible refine (quorum_Need.calls _ _ _ HN.out).mono ?_)
  rintro e w1 ⟨rfl, hb⟩
  have HB1 := Aside0.mk hb.below
  have HS1 := Aside0.mk (HS.out.below hb.below)
  clear hb
  go_wp2_with fail
  (with_reducible refine (got_ HS1.out hl).mono ?_)
  rintro e w2 ⟨v, rfl, hr, hb⟩
  obtain ⟨Ao, co, rfl⟩ := Kd.R_slice hr
  have HB2 := Aside0.mk (below_then HB1.out HB1.out.size hb)
  clear hr hb
  obtain ⟨m, hm⟩ : ∃ m, (gotL l (marks l seen)).length = m := ⟨_, rfl⟩
  obtain ⟨n, hn⟩ : ∃ n, need (l.length : Int) = n := ⟨_, rfl⟩
  have HM := Lib.hid hm
  have HNn := Lib.hid hn
  rw [hm] at hg
  rw [hn] at hn0 hn1
  rw [hm, hn]
  clear hm hn
  have hw : IntKind.i64.wrap (n - (m : Int)) = n - (m : Int) := by rw [IntKind.wrap_i64]; omega
  go_wp2_with fail
  all_goals
    go_ret
    rw [HM.out, HNn.out]
    refine ⟨?_, HB2.out⟩
    first
      | (rw [show max (0 : Int) (n - (m : Int)) = 0 by omega]; rfl)
      | (rw [show max (0 : Int) (n - (m : Int)) = n - (m : Int) by omega]; rfl)
/-- are there enough? -/
theorem done_ {w0 w : World} {g : Nat} {l seen : List Int} (h : St w w0.heap.size g l seen) (hl : l.length ≤ 17592186044400) :
    Calls Try.prog 25 #[.pointer (some ⟨g, 0, none⟩)] w fun e w' => e = .returned (.bool (decide (max 0 (need l.length - (gotL l (marks l seen)).length) = 0))) ∧ Below w.heap.size w w' := by
  have HS := Aside0.mk h
  go_enter Try.func25, Try.ntmps25
  go_wp2_with fail
  (with_reducible refine (left_ HS.out hl).mono ?_)
  rintro e w1 ⟨rfl, hb⟩
  have HB1 := Aside0.mk hb
  clear hb
  go_wp2_with fail
  go_ret
  exact ⟨rfl, HB1.out⟩
end Go.Proofs.Yteocngcojijnkaa.Cn
