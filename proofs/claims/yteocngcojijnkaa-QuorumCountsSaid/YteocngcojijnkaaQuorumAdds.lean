/- The walk of the law QuorumAdds, for every two rows of numbers. No condition. -/
import Derived.Test.YteocngcojijnkaaN3
namespace Go.Proofs.Yteocngcojijnkaa.Cn
open Go.ChangeShapes Go.WideShapes Go.ChangeAt Go.RowKit Go.Proofs.Yteocngcojijnkaa.QO Go.Proofs.Yteocngcojijnkaa.QE Go.Proofs.Yteocngcojijnkaa.Lex Go.Proofs.Yteocngcojijnkaa.Cm Go.Proofs.Yteocngcojijnkaa.Ql
open Go.Proofs.YteocngcojijnkaaW.PrintWords Go.Proofs.YteocngcojijnkaaW.PrintLast Go.Proofs.YteocngcojijnkaaW.PrintMore
set_option linter.unusedVariables false
set_option linter.unusedSimpArgs false
/-- how many are counted -/
def cnt (l seen : List Int) : Nat := (gotL l (marks l seen)).length
theorem cnt_keep (l seen : List Int) : cnt l seen = (keep seen l).length := by rw [cnt, gotL_marks]
theorem keep_cons (s : List Int) (y : Int) (t : List Int) : keep s (y :: t) = if y ∈ s then y :: keep s t else keep s t := by
  unfold keep
  rw [List.filter_cons]
  by_cases h : y ∈ s <;> simp [h]
theorem cnt_step (x : Int) (s : List Int) : ∀ (l : List Int), l.Nodup → (keep s l).length ≤ (keep (s ++ [x]) l).length ∧ (keep (s ++ [x]) l).length ≤ (keep s l).length + (if x ∈ l then 1 else 0)
  | [], _ => by simp [keep]
  | y :: t, h => by
    rw [List.nodup_cons] at h
    have ih := cnt_step x s t h.2
    rw [keep_cons, keep_cons]
    by_cases hy : y = x
    · subst hy
      rw [if_neg h.1] at ih
      by_cases hs : y ∈ s
      · rw [if_pos hs, if_pos (List.mem_append.2 (.inl hs)), if_pos (List.mem_cons_self ..)]
        simp only [List.length_cons]; omega
      · rw [if_neg hs, if_pos (List.mem_append.2 (.inr (List.mem_singleton.2 rfl))), if_pos (List.mem_cons_self ..)]
        simp only [List.length_cons]; omega
    · have e : (x ∈ y :: t) = (x ∈ t) := by
        rw [List.mem_cons]
        exact propext ⟨fun h => h.elim (fun h => absurd h.symm hy) id, .inr⟩
      simp only [e]
      by_cases hs : y ∈ s
      · rw [if_pos hs, if_pos (List.mem_append.2 (.inl hs))]
        simp only [List.length_cons]; omega
      · have hs' : ¬ y ∈ s ++ [x] := by
          rw [List.mem_append, List.mem_singleton]; exact fun h => h.elim hs hy
        rw [if_neg hs, if_neg hs']; exact ih
theorem cnt_twice (x : Int) (l s : List Int) : cnt l (s ++ [x] ++ [x]) = cnt l (s ++ [x]) := by
  have : marks l (s ++ [x] ++ [x]) = marks l (s ++ [x]) := by
    unfold marks
    apply List.map_congr_left
    intro y _
    refine decide_eq_decide.2 ?_
    simp only [List.mem_append, List.mem_singleton]
    constructor
    · rintro (h | h)
      · exact h
      · exact .inr h
    · exact .inl
  rw [cnt, cnt, this]
theorem cnt_le (l s : List Int) : cnt l s ≤ l.length := gotL_len _ _
def left (l s : List Int) : Int := max 0 (need l.length - cnt l s)
theorem left_g {w0 w : World} {g : Nat} {l seen : List Int} {r : Bool} (h : St w w0.heap.size g l seen) (hl : l.length ≤ 17592186044400) (hr : decide (left l seen = 0) = r) :
    Calls Try.prog 25 #[.pointer (some ⟨g, 0, none⟩)] w fun e w' => e = .returned (.bool r) ∧ Below w.heap.size w w' := by
  subst hr; exact done_ h hl
theorem got_g {w0 w : World} {g : Nat} {l seen : List Int} {n : Nat} (h : St w w0.heap.size g l seen) (hl : l.length ≤ 17592186044400) (hn : cnt l seen = n) :
    Calls Try.prog 23 #[.pointer (some ⟨g, 0, none⟩)] w fun e w' => ∃ B d, e = .returned (.slice B n d) ∧ Below w.heap.size w w' := by
  subst hn
  refine (got_ h hl).mono ?_
  rintro e w1 ⟨v, rfl, hr, hb⟩
  obtain ⟨B, d, rfl⟩ := Kd.R_slice hr
  exact ⟨B, d, rfl, hb⟩
theorem add_g {w0 w : World} {g : Nat} {l seen : List Int} {x r : Int} (h : St w w0.heap.size g l seen) (hb : Below w0.heap.size w0 w) (hn : l.Nodup) (hr : (if x ∈ l then 0 else 4) = r) :
    Calls Try.prog 21 #[.pointer (some ⟨g, 0, none⟩), .int .i64 x] w fun e w' => e = .returned (.int .i64 r) ∧ St w' w0.heap.size g l (seen ++ [x]) ∧ Below w0.heap.size w0 w' := by
  subst hr; exact add_ h hb hn
theorem new_g {A : Option Addr} {c : Nat} {l : List Int} {w : World} (h : Kd.C (Kd.int .i64) w A l.length l) (hc : l.length ≤ c) (hl : l.length ≤ 17592186044400) (h0 : 0 < l.length ∧ (once l).length = l.length) :
    Calls Try.prog 20 #[.slice A l.length c] w fun e w' => ∃ g, e = .returned (.tuple #[.pointer (some ⟨g, 0, none⟩), .int .i64 0]) ∧ St w' w.heap.size g l [] ∧ Below w.heap.size w w' := by
  refine (new_ h hc hl).mono ?_
  intro e w' hp
  unfold NewPost at hp
  rw [if_pos h0] at hp
  exact hp
theorem new_no {A : Option Addr} {c : Nat} {l : List Int} {w : World} (h : Kd.C (Kd.int .i64) w A l.length l) (hc : l.length ≤ c) (hl : l.length ≤ 17592186044400) (h0 : ¬ (0 < l.length ∧ (once l).length = l.length)) :
    Calls Try.prog 20 #[.slice A l.length c] w fun e w' => e = .returned (.tuple #[.pointer none, .int .i64 2]) ∧ Below w.heap.size w w' := by
  refine (new_ h hc hl).mono ?_
  intro e w' hp
  unfold NewPost at hp
  rw [if_neg h0] at hp
  exact hp
theorem St.le {w : World} {base g : Nat} {l seen : List Int} (h : St w base g l seen) : base ≤ g := by
  obtain ⟨_, _, _, _, _, h2, _⟩ := h; exact h2
set_option maxHeartbeats 16000000 in
set_option maxRecDepth 100000 in
theorem quorumAdds (w : World) (A : Option Addr) (c : Nat) (l : List Int) (hr : Kd.C (Kd.int .i64) w A l.length l) (hc : l.length ≤ c) (wf : l.length ≤ maxLen ∧ l.length * 8 ≤ 140737488351232 ∧ ∀ x ∈ l, (Lit.int .i64 x).wf = true)
    (A' : Option Addr) (c' : Nat) (ms : List Int) (hr' : Kd.C (Kd.int .i64) w A' ms.length ms) (hc' : ms.length ≤ c') (wf' : ms.length ≤ maxLen ∧ ms.length * 8 ≤ 140737488351232 ∧ ∀ x ∈ ms, (Lit.int .i64 x).wf = true) :
    Calls Try.prog 7 #[.slice A l.length c, .slice A' ms.length c'] w fun e w' => e = .returned (.bool true) ∧ Below w.heap.size w w' := by
  have HR := Aside0.mk hr
  have HR' := Aside0.mk hr'
  have hl : l.length ≤ 17592186044400 := by have := wf.2.1; omega
  have HC := Aside0.mk hc
  clear hr hr' wf wf' hc
  by_cases h0 : 0 < l.length ∧ (once l).length = l.length
  · have HG := Aside0.mk (new_g HR.out HC.out hl h0)
    by_cases h40 : 40 < l.length
    · have t1 : decide ((40 : Int) < (l.length : Int)) = true := decide_eq_true (by omega)
      go_enter Try.func7, Try.ntmps7
      go_wp2_with fail
      (with_reducible refine HG.out.mono ?_)
      rintro e w1 ⟨g, rfl, hs, hb⟩
      have HB := Aside0.mk hb
      clear hs hb
      go_wp2_with (go_at_call 10; (with_reducible refine (Fk.known_ _).mono ?_); rintro e w7 ⟨rfl, hb⟩; have HB7 := Aside0.mk (below_then HB.out HB.out.size hb))
      go_ret
      exact ⟨rfl, HB7.out⟩
    have t1 : decide ((40 : Int) < (l.length : Int)) = false := decide_eq_false (by omega)
    by_cases h60 : 60 < ms.length
    · have t2 : decide ((60 : Int) < (ms.length : Int)) = true := decide_eq_true (by omega)
      go_enter Try.func7, Try.ntmps7
      go_wp2_with fail
      (with_reducible refine HG.out.mono ?_)
      rintro e w1 ⟨g, rfl, hs, hb⟩
      have HB := Aside0.mk hb
      clear hs hb
      go_wp2_with (go_at_call 10; (with_reducible refine (Fk.known_ _).mono ?_); rintro e w7 ⟨rfl, hb⟩; have HB7 := Aside0.mk (below_then HB.out HB.out.size hb))
      go_ret
      exact ⟨rfl, HB7.out⟩
    have t2 : decide ((60 : Int) < (ms.length : Int)) = false := decide_eq_false (by omega)
    have HN := Aside0.mk (nodup_of_once h0.2)
    clear h0
    go_enter Try.func7, Try.ntmps7
    go_wp2_with fail
    (with_reducible refine HG.out.mono ?_)
    rintro e w1 ⟨g, rfl, hs, hb⟩
    have HS := Aside0.mk hs
    have HB := Aside0.mk hb
    clear hs hb HG
    go_wp2_with fail
    go_loopg [7] ms.length (fun q i w' => ∃ (k : Nat) (s : List Int), k ≤ ms.length ∧ i = .int .i64 k ∧ q = ms.length - k ∧ Aside0 (St w' w.heap.size g l s) ∧ Aside0 (Below w.heap.size w w'))
    case atStart => exact ⟨0, [], Nat.zero_le _, rfl, rfl, HS, HB⟩
    case round =>
      obtain ⟨k, s, hk, rfl, rfl, HSr, HBr⟩ := hrel
      by_cases hlt : k < ms.length
      · have t3 : decide ((k : Int) < (ms.length : Int)) = true := decide_eq_true (by omega)
        obtain ⟨ad, hA, hcw⟩ := Hlp.C_at HR'.out k hlt
        subst hA
        have i0 : (0 : Int) ≤ (k : Int) := by omega
        have i1 : (k : Int) < (ms.length : Int) := by omega
        obtain ⟨x, hx⟩ : ∃ x, ms[k] = x := ⟨_, rfl⟩
        rw [hx] at hcw
        clear hx
        have HCw := Aside0.mk hcw
        have hst := cnt_step x s l HN.out
        rw [← cnt_keep, ← cnt_keep] at hst
        have h2 := cnt_twice x l s
        have hcl := cnt_le l (s ++ [x])
        have hd : left l s = 0 → left l (s ++ [x] ++ [x]) = 0 := by
          unfold left
          rw [h2]
          omega
        obtain ⟨n, hn⟩ : ∃ n, cnt l s = n := ⟨_, rfl⟩
        obtain ⟨m, hm⟩ : ∃ m, cnt l (s ++ [x]) = m := ⟨_, rfl⟩
        obtain ⟨r, hr⟩ : ∃ r : Int, (if x ∈ l then 0 else 4) = r := ⟨_, rfl⟩
        obtain ⟨b1, hb1⟩ : ∃ b, decide (left l s = 0) = b := ⟨_, rfl⟩
        obtain ⟨b2, hb2⟩ : ∃ b, decide (left l (s ++ [x] ++ [x]) = 0) = b := ⟨_, rfl⟩
        have hbb : (b1 = true ∧ b2 = true) ∨ b1 = false := by
          cases b1
          · exact .inr rfl
          · refine .inl ⟨rfl, ?_⟩
            rw [← hb2]
            exact decide_eq_true (hd (of_decide_eq_true hb1))
        have hrr : r = 0 ∨ (r = 4 ∧ m = n) := by
          by_cases hxl : x ∈ l
          · rw [if_pos hxl] at hr; exact .inl hr.symm
          · rw [if_neg hxl] at hr hst; exact .inr ⟨hr.symm, by omega⟩
        have hmn : n ≤ m ∧ m ≤ n + 1 := by
          refine ⟨by omega, ?_⟩
          by_cases hxl : x ∈ l
          · rw [if_pos hxl] at hst; omega
          · rw [if_neg hxl] at hst; omega
        rw [hm] at h2 hcl
        have m40 : m ≤ 40 := by omega
        have HNn := Lib.hid hn
        have HMm := Lib.hid hm
        have HM2 := Lib.hid h2
        have HRr := Lib.hid hr
        have HB1 := Lib.hid hb1
        have HB2 := Lib.hid hb2
        have c1 : ((m : Int) != (m : Int)) = false := by simp
        have c2 : decide ((m : Int) < (n : Int)) = false := decide_eq_false (by omega)
        have c3 : decide ((n : Int) + 1 < (m : Int)) = false := decide_eq_false (by omega)
        have hle := HSr.out.le
        clear hcw hn hm h2 hr hb1 hb2 hst hd hcl
        rcases hbb with ⟨rfl, rfl⟩ | rfl <;> rcases hrr with rfl | ⟨rfl, rfl⟩
        all_goals
          go_wp2_with fail
          (with_reducible refine (left_g HSr.out hl HB1.out).mono ?_)
          rintro e v1 ⟨rfl, hb⟩
          have S1 := Aside0.mk (HSr.out.below hb)
          have E1 := Aside0.mk (below_then HBr.out HBr.out.size hb)
          clear hb HSr
          go_wp2_with fail
          (with_reducible refine (got_g S1.out hl HNn.out).mono ?_)
          rintro e v2 ⟨B2, d2, rfl, hb⟩
          have S2 := Aside0.mk (S1.out.below hb)
          have E2 := Aside0.mk (below_then E1.out E1.out.size hb)
          have hc0 := pw_cell_below E2.out HCw.out
          clear hb S1
          go_wp2_with fail
          (with_reducible refine (add_g S2.out E2.out HN.out HRr.out).mono ?_)
          rintro e v3 ⟨rfl, hs, hb⟩
          have S3 := Aside0.mk hs
          have E3 := Aside0.mk hb
          clear hs hb S2 hc0
          go_wp2_with fail
          (with_reducible refine (got_g S3.out hl HMm.out).mono ?_)
          rintro e v4 ⟨B4, d4, rfl, hb⟩
          have S4 := Aside0.mk (S3.out.below hb)
          have E4 := Aside0.mk (below_then E3.out E3.out.size hb)
          have hc0 := pw_cell_below E4.out HCw.out
          clear hb S3
          go_wp2_with fail
          (with_reducible refine (add_g S4.out E4.out HN.out HRr.out).mono ?_)
          rintro e v5 ⟨rfl, hs, hb⟩
          have S5 := Aside0.mk hs
          have E5 := Aside0.mk hb
          clear hs hb S4 hc0
          go_wp2_with (first | (go_at_call 25; (with_reducible refine (left_g S5.out hl HB2.out).mono ?_); rintro e v6 ⟨rfl, hb⟩; have S6 := Aside0.mk (S5.out.below hb); have E6 := Aside0.mk (below_then E5.out E5.out.size hb); clear hb) | (go_at_call 23; first | ((with_reducible refine (got_g S6.out hl HM2.out).mono ?_); rintro e v7 ⟨B7, d7, rfl, hb⟩; have S7 := Aside0.mk (S6.out.below hb); have E7 := Aside0.mk (below_then E6.out E6.out.size hb); clear hb) | ((with_reducible refine (got_g S5.out hl HM2.out).mono ?_); rintro e v7 ⟨B7, d7, rfl, hb⟩; have S7 := Aside0.mk (S5.out.below hb); have E7 := Aside0.mk (below_then E5.out E5.out.size hb); clear hb)))
          go_roundg (ms.length - (k + 1))
          case measure => omega
          case rel => exact ⟨k + 1, _, hlt, by go_num, rfl, S7, E7⟩
      · obtain rfl : k = ms.length := by omega
        have t3 : decide ((ms.length : Int) < (ms.length : Int)) = false := decide_eq_false (by omega)
        have hcl := cnt_le l s
        obtain ⟨n, hn⟩ : ∃ n, cnt l s = n := ⟨_, rfl⟩
        rw [hn] at hcl
        have HNn := Lib.hid hn
        have c1 : decide ((n : Int) ≤ (l.length : Int)) = true := decide_eq_true (by omega)
        clear hn
        go_wp2_with fail
        (with_reducible refine (got_g HSr.out hl HNn.out).mono ?_)
        rintro e v2 ⟨B2, d2, rfl, hb⟩
        have E2 := Aside0.mk (below_then HBr.out HBr.out.size hb)
        clear hb
        go_wp2_with (go_at_call 10; (with_reducible refine (Fk.known_ _).mono ?_); rintro e w7 ⟨rfl, hb⟩; have HB7 := Aside0.mk (below_then E2.out E2.out.size hb))
        go_ret
        exact ⟨rfl, HB7.out⟩
  · have HG := Aside0.mk (new_no HR.out HC.out hl h0)
    clear h0
    by_cases h40 : 40 < l.length
    · have t1 : decide ((40 : Int) < (l.length : Int)) = true := decide_eq_true (by omega)
      go_enter Try.func7, Try.ntmps7
      go_wp2_with fail
      (with_reducible refine HG.out.mono ?_)
      rintro e w1 ⟨rfl, hb⟩
      have HB := Aside0.mk hb
      clear hb
      go_wp2_with (go_at_call 10; (with_reducible refine (Fk.known_ _).mono ?_); rintro e w7 ⟨rfl, hb⟩; have HB7 := Aside0.mk (below_then HB.out HB.out.size hb))
      go_ret
      exact ⟨rfl, HB7.out⟩
    have t1 : decide ((40 : Int) < (l.length : Int)) = false := decide_eq_false (by omega)
    by_cases h60 : 60 < ms.length
    · have t2 : decide ((60 : Int) < (ms.length : Int)) = true := decide_eq_true (by omega)
      go_enter Try.func7, Try.ntmps7
      go_wp2_with fail
      (with_reducible refine HG.out.mono ?_)
      rintro e w1 ⟨rfl, hb⟩
      have HB := Aside0.mk hb
      clear hb
      go_wp2_with (go_at_call 10; (with_reducible refine (Fk.known_ _).mono ?_); rintro e w7 ⟨rfl, hb⟩; have HB7 := Aside0.mk (below_then HB.out HB.out.size hb))
      go_ret
      exact ⟨rfl, HB7.out⟩
    have t2 : decide ((60 : Int) < (ms.length : Int)) = false := decide_eq_false (by omega)
    go_enter Try.func7, Try.ntmps7
    go_wp2_with fail
    (with_reducible refine HG.out.mono ?_)
    rintro e w1 ⟨rfl, hb⟩
    have HB := Aside0.mk hb
    clear hb
    go_wp2_with (go_at_call 10; (with_reducible refine (Fk.known_ _).mono ?_); rintro e w7 ⟨rfl, hb⟩; have HB7 := Aside0.mk (below_then HB.out HB.out.size hb))
    go_ret
    exact ⟨rfl, HB7.out⟩
end Go.Proofs.Yteocngcojijnkaa.Cn
