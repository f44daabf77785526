/- The contracts of the reader's Num and Below, outside of read. Conditions: a reader whose bytes fit in memory. -/
import Derived.Test.YthaoiamgkpkcbaaDoorZMsgsTwice2
namespace Go.Proofs.YthaoiamgkpkcbaaDoor.Pk
open Go.ChangeShapes Go.WideShapes Go.ChangeAt Go.RowKit
open Go.Proofs.YthaoiamgkpkcbaaDoor.Hlp Go.Proofs.YthaoiamgkpkcbaaDoor.Wrd Go.Proofs.YthaoiamgkpkcbaaDoorW.PrintWords Go.Proofs.YthaoiamgkpkcbaaDoorW.PrintLast Go.Proofs.YthaoiamgkpkcbaaDoorW.PrintMore
set_option linter.unusedVariables false
set_option linter.unusedSimpArgs false
/-- what a read number takes lies within the bytes -/
theorem peekP_ok {l : List Int} {n k : Int} (h : peekP l = (n, k, 0)) (hb : ∀ x ∈ l, 0 ≤ x ∧ x < 256) : 1 ≤ k ∧ k ≤ 9 ∧ k ≤ l.length := by
  cases l with
  | nil => cases h
  | cons a r =>
    rw [peekP_cons] at h
    split at h
    · cases h
    split at h
    · cases h
    split at h
    · cases h
    · obtain ⟨h1, h2⟩ := hb a List.mem_cons_self
      cases h
      simp only [List.length_cons]
      omega
/-- a reader as it goes on: what is left, what is wrong -/
structure St where
  l : List Int
  e : Int
/-- the reader stands so, and nothing else has been turned -/
def At (w : World) (g : Nat) (ins : Bool) (s : St) (w' : World) : Prop := ∃ b c, Rd w' g b c s.l s.e ins ∧ w.grownBy w' (some g)
theorem At.of {w w' : World} {g : Nat} {ins : Bool} {s : St} {b : Option Addr} {c : Nat} (h : Rd w' g b c s.l s.e ins) (k : w.grownBy w' (some g)) : At w g ins s w' := ⟨b, c, h, k⟩
/-- the slice that is left behind k bytes, whatever room there is -/
theorem adv {w : World} {g bb off c : Nat} {l : List Int} {ins : Bool} {k : Nat} (h : Rd w g (some ⟨bb, off, none⟩) c l 0 ins) (hk : k ≤ l.length) :
    (c = k → At w g ins ⟨l.drop k, 0⟩ (w.setCell ⟨g, 0, none⟩ (.slice (some ⟨bb, off, none⟩) 0 0))) ∧
    (c ≠ k → At w g ins ⟨l.drop k, 0⟩ (w.setCell ⟨g, 0, none⟩ (.slice (some ⟨bb, off + k, none⟩) (l.length - k) (c - k)))) := by
  have hc := h.cap
  constructor
  · intro e
    have hl : l.drop k = [] := List.drop_eq_nil_of_le (by omega)
    rw [hl]
    exact At.of (h.none 0) (upd_set _ _ _ _)
  · intro _
    have := h.rest k hk
    rw [List.length_drop] at this
    exact At.of this (upd_set _ _ _ _)
def numS (s : St) : Int × St :=
  if s.e = 0 then (if (peekP s.l).2.2 = 0 then ((peekP s.l).1, ⟨s.l.drop (peekP s.l).2.1.toNat, 0⟩) else (0, ⟨s.l, (peekP s.l).2.2⟩)) else (0, s)

theorem At.refl {w : World} {g : Nat} {b : Option Addr} {c : Nat} {s : St} {ins : Bool} (h : Rd w g b c s.l s.e ins) : At w g ins s w := ⟨b, c, h, upd_refl w _⟩
theorem numS_dead {s : St} (h : s.e ≠ 0) : numS s = (0, s) := by unfold numS; rw [if_neg h]
theorem numS_ok {l : List Int} {n k : Int} (h : peekP l = (n, k, 0)) : numS ⟨l, 0⟩ = (n, ⟨l.drop k.toNat, 0⟩) := by simp [numS, h]
theorem numS_bad {l : List Int} {n k x : Int} (h : peekP l = (n, k, x)) (hx : x ≠ 0) : numS ⟨l, 0⟩ = (0, ⟨l, x⟩) := by simp [numS, h, hx]
def belowS (m : Int) (s : St) : Int × St :=
  if s.e = 0 then (if (peekP s.l).2.2 = 0 then (if 0 ≤ (peekP s.l).1 ∧ (peekP s.l).1 < m then ((peekP s.l).1, ⟨s.l.drop (peekP s.l).2.1.toNat, 0⟩) else (0, ⟨s.l, 11⟩)) else (0, ⟨s.l, (peekP s.l).2.2⟩)) else (0, s)
theorem belowS_dead {m : Int} {s : St} (h : s.e ≠ 0) : belowS m s = (0, s) := by unfold belowS; rw [if_neg h]
theorem belowS_ok {m : Int} {l : List Int} {n k : Int} (h : peekP l = (n, k, 0)) (h1 : 0 ≤ n ∧ n < m) : belowS m ⟨l, 0⟩ = (n, ⟨l.drop k.toNat, 0⟩) := by simp [belowS, h, h1]
theorem belowS_out {m : Int} {l : List Int} {n k : Int} (h : peekP l = (n, k, 0)) (h1 : ¬ (0 ≤ n ∧ n < m)) : belowS m ⟨l, 0⟩ = (0, ⟨l, 11⟩) := by simp [belowS, h, h1]
theorem belowS_bad {m : Int} {l : List Int} {n k x : Int} (h : peekP l = (n, k, x)) (hx : x ≠ 0) : belowS m ⟨l, 0⟩ = (0, ⟨l, x⟩) := by simp [belowS, h, hx]
set_option maxHeartbeats 1000000 in
theorem below_ {w : World} {g : Nat} {b : Option Addr} {c : Nat} {l : List Int} {e : Int} (m : Int) (h : Rd w g b c l e false) :
    Calls Tryd.prog 67 #[.pointer (some ⟨g, 0, none⟩), .int .i64 m] w fun x w' => x = .returned (.int .i64 (belowS m ⟨l, e⟩).1) ∧ At w g false (belowS m ⟨l, e⟩).2 w' := by
  by_cases he : e = 0
  · subst he
    have hd : ((0 : Int) != 0) = false := rfl
    obtain ⟨n, k, x, hp⟩ : ∃ n k x, peekP l = (n, k, x) := ⟨_, _, _, rfl⟩
    have V := Lib.hid (peekV_of hp)
    by_cases hx : x = 0
    · subst hx
      by_cases hin : 0 ≤ n ∧ n < m
      · have hn := belowS_ok hp hin
        obtain ⟨hin1, hin2⟩ := hin
        have t1 : decide (n < 0) = false := decide_eq_false (by omega)
        have t2 : decide (m ≤ n) = false := decide_eq_false (by omega)
        obtain ⟨hk1, hk9, hkl⟩ := peekP_ok hp h.bytes
        have h0 := h.c0
        have f0 := h.f 0
        have hm := h.row.2.1
        obtain ⟨K, rfl⟩ := Int.eq_ofNat_of_zero_le (show 0 ≤ k by omega)
        rw [Int.toNat_natCast] at hn
        rw [hn]
        obtain ⟨bb, off, rfl, hcell⟩ := C_block h.row (by omega)
        have hA := adv h (k := K) (by omega)
        have hcap := h.cap
        have HR := Aside0.mk h
        clear hn hp h hcell hin1 hin2
        by_cases hc : c = K
        · have A1 := Aside0.mk (hA.1 hc)
          subst hc
          clear hA
          go_enter Tryd.func67, Tryd.ntmps67
          go_wp2_with (first | (go_at_call 77; (with_reducible refine (dead_ HR.out).mono ?_); rintro e w' ⟨rfl, rfl⟩) | (go_at_call 78; (with_reducible refine (peek_ HR.out).mono ?_); rw [V.out]; rintro e w' ⟨rfl, rfl⟩) | (go_at_call 79; (with_reducible refine (fail_ HR.out _).mono ?_); rintro e w' ⟨rfl, rfl⟩))
          go_ret
          exact ⟨rfl, A1.out⟩
        · have A1 := Aside0.mk (hA.2 hc)
          have hc2 : (c == K) = false := beq_eq_false_iff_ne.2 hc
          clear hA
          go_enter Tryd.func67, Tryd.ntmps67
          go_wp2_with (first | (go_at_call 77; (with_reducible refine (dead_ HR.out).mono ?_); rintro e w' ⟨rfl, rfl⟩) | (go_at_call 78; (with_reducible refine (peek_ HR.out).mono ?_); rw [V.out]; rintro e w' ⟨rfl, rfl⟩) | (go_at_call 79; (with_reducible refine (fail_ HR.out _).mono ?_); rintro e w' ⟨rfl, rfl⟩))
          go_ret
          exact ⟨rfl, A1.out⟩
      · rw [belowS_out hp hin]
        have HR := Aside0.mk h
        have A1 := Aside0.mk (At.of (ins := false) (s := ⟨l, 11⟩) (h.wrong 11) (upd_set _ _ _ _))
        by_cases hn : n < 0
        · have t1 := decide_eq_true hn
          clear hp h hin hn
          go_enter Tryd.func67, Tryd.ntmps67
          go_wp2_with (first | (go_at_call 77; (with_reducible refine (dead_ HR.out).mono ?_); rintro e w' ⟨rfl, rfl⟩) | (go_at_call 78; (with_reducible refine (peek_ HR.out).mono ?_); rw [V.out]; rintro e w' ⟨rfl, rfl⟩) | (go_at_call 79; (with_reducible refine (fail_ HR.out _).mono ?_); rintro e w' ⟨rfl, rfl⟩))
          go_ret
          exact ⟨rfl, A1.out⟩
        · have t1 := decide_eq_false hn
          have t2 : decide (m ≤ n) = true := decide_eq_true (by omega)
          clear hp h hin hn
          go_enter Tryd.func67, Tryd.ntmps67
          go_wp2_with (first | (go_at_call 77; (with_reducible refine (dead_ HR.out).mono ?_); rintro e w' ⟨rfl, rfl⟩) | (go_at_call 78; (with_reducible refine (peek_ HR.out).mono ?_); rw [V.out]; rintro e w' ⟨rfl, rfl⟩) | (go_at_call 79; (with_reducible refine (fail_ HR.out _).mono ?_); rintro e w' ⟨rfl, rfl⟩))
          go_ret
          exact ⟨rfl, A1.out⟩
    · rw [belowS_bad hp hx]
      have hx2 : (x != 0) = true := bne_iff_ne.2 hx
      have hx3 : (x == 0) = false := beq_eq_false_iff_ne.2 hx
      have HR := Aside0.mk h
      have A1 := Aside0.mk (At.of (ins := false) (s := ⟨l, x⟩) (h.wrong x) (upd_set _ _ _ _))
      clear hp h hx
      go_enter Tryd.func67, Tryd.ntmps67
      go_wp2_with (first | (go_at_call 77; (with_reducible refine (dead_ HR.out).mono ?_); rintro e w' ⟨rfl, rfl⟩) | (go_at_call 78; (with_reducible refine (peek_ HR.out).mono ?_); rw [V.out]; rintro e w' ⟨rfl, rfl⟩) | (go_at_call 79; (with_reducible refine (fail_ HR.out _).mono ?_); rintro e w' ⟨rfl, rfl⟩))
      go_ret
      exact ⟨rfl, A1.out⟩
  · rw [belowS_dead he]
    have he2 : (e != 0) = true := bne_iff_ne.2 he
    have HR := Aside0.mk h
    have A1 := Aside0.mk (At.refl (s := ⟨l, e⟩) h)
    clear h he
    go_enter Tryd.func67, Tryd.ntmps67
    go_wp2_with (go_at_call 77; (with_reducible refine (dead_ HR.out).mono ?_); rintro e w' ⟨rfl, rfl⟩)
    go_ret
    exact ⟨rfl, A1.out⟩
def truthS (s : St) : Bool × St :=
  if s.e = 0 then (match s.l with | [] => (false, ⟨s.l, 12⟩) | x :: r => if 1 < x then (false, ⟨s.l, 11⟩) else (x == 1, ⟨r, 0⟩)) else (false, s)
set_option maxHeartbeats 1000000 in
theorem truth_ {w : World} {g : Nat} {b : Option Addr} {c : Nat} {l : List Int} {e : Int} (h : Rd w g b c l e false) :
    Calls Tryd.prog 69 #[.pointer (some ⟨g, 0, none⟩)] w fun x w' => x = .returned (.bool (truthS ⟨l, e⟩).1) ∧ At w g false (truthS ⟨l, e⟩).2 w' := by
  by_cases he : e = 0
  · subst he
    have hd : ((0 : Int) != 0) = false := rfl
    have h0 := h.c0
    cases l with
    | nil =>
      rw [show truthS ⟨[], 0⟩ = (false, ⟨[], 12⟩) from rfl]
      have HR := Aside0.mk h
      have A1 := Aside0.mk (At.of (ins := false) (s := ⟨[], 12⟩) (h.wrong 12) (upd_set _ _ _ _))
      clear h
      go_enter Tryd.func69, Tryd.ntmps69
      go_wp2_with (first | (go_at_call 77; (with_reducible refine (dead_ HR.out).mono ?_); rintro e w' ⟨rfl, rfl⟩) | (go_at_call 79; (with_reducible refine (fail_ HR.out _).mono ?_); rintro e w' ⟨rfl, rfl⟩))
      go_ret
      exact ⟨rfl, A1.out⟩
    | cons x r =>
      obtain ⟨bb, off, rfl, hcell⟩ := C_block h.row (by simp)
      have hc0 := hcell 0 (by simp)
      rw [List.getElem_cons_zero, Nat.add_zero] at hc0
      obtain ⟨hx0, hx1⟩ := h.bytes x List.mem_cons_self
      have hm := h.row.2.1
      have hcap := h.cap
      have f0 := h.f 0
      have hA := adv h (k := 1) (by simp)
      have HR := Aside0.mk h
      by_cases hx : 1 < x
      · rw [show truthS ⟨x :: r, 0⟩ = (false, ⟨x :: r, 11⟩) by simp [truthS, hx]]
        have A1 := Aside0.mk (At.of (ins := false) (s := ⟨x :: r, 11⟩) (h.wrong 11) (upd_set _ _ _ _))
        have t := decide_eq_true hx
        simp only [List.length_cons] at h0 hm hcap
        clear h hA hcell hx
        go_enter Tryd.func69, Tryd.ntmps69
        go_wp2_with (first | (go_at_call 77; (with_reducible refine (dead_ HR.out).mono ?_); rintro e w' ⟨rfl, rfl⟩) | (go_at_call 79; (with_reducible refine (fail_ HR.out _).mono ?_); rintro e w' ⟨rfl, rfl⟩))
        go_ret
        exact ⟨rfl, A1.out⟩
      · rw [show truthS ⟨x :: r, 0⟩ = (x == 1, ⟨r, 0⟩) by simp [truthS, hx]]
        have t := decide_eq_false hx
        simp only [List.length_cons, List.drop_succ_cons, List.drop_zero, Nat.add_sub_cancel] at h0 hm hcap hA
        clear h hcell hx
        by_cases hc : c = 1
        · have A1 := Aside0.mk (hA.1 hc)
          subst hc
          clear hA
          go_enter Tryd.func69, Tryd.ntmps69
          go_wp2_with (first | (go_at_call 77; (with_reducible refine (dead_ HR.out).mono ?_); rintro e w' ⟨rfl, rfl⟩) | (go_at_call 79; (with_reducible refine (fail_ HR.out _).mono ?_); rintro e w' ⟨rfl, rfl⟩))
          go_ret
          exact ⟨rfl, A1.out⟩
        · have A1 := Aside0.mk (hA.2 hc)
          have hc2 : (c == 1) = false := beq_eq_false_iff_ne.2 hc
          clear hA
          go_enter Tryd.func69, Tryd.ntmps69
          go_wp2_with (first | (go_at_call 77; (with_reducible refine (dead_ HR.out).mono ?_); rintro e w' ⟨rfl, rfl⟩) | (go_at_call 79; (with_reducible refine (fail_ HR.out _).mono ?_); rintro e w' ⟨rfl, rfl⟩))
          go_ret
          exact ⟨rfl, A1.out⟩
  · rw [show truthS ⟨l, e⟩ = (false, ⟨l, e⟩) by simp [truthS, he]]
    have he2 : (e != 0) = true := bne_iff_ne.2 he
    have HR := Aside0.mk h
    have A1 := Aside0.mk (At.refl (s := ⟨l, e⟩) h)
    clear h he
    go_enter Tryd.func69, Tryd.ntmps69
    go_wp2_with (go_at_call 77; (with_reducible refine (dead_ HR.out).mono ?_); rintro e w' ⟨rfl, rfl⟩)
    go_ret
    exact ⟨rfl, A1.out⟩
def failS (s : St) : St := if s.e = 0 then ⟨s.l, 11⟩ else s
theorem markWrong_ {w : World} {g : Nat} {b : Option Addr} {c : Nat} {l : List Int} {e : Int} (h : Rd w g b c l e false) :
    Calls Tryd.prog 68 #[.pointer (some ⟨g, 0, none⟩)] w fun x w' => x = .returned (.tuple #[]) ∧ At w g false (failS ⟨l, e⟩) w' := by
  have HR := Aside0.mk h
  by_cases he : e = 0
  · subst he
    rw [show failS ⟨l, 0⟩ = ⟨l, 11⟩ from rfl]
    have hd : ((0 : Int) != 0) = false := rfl
    have A1 := Aside0.mk (At.of (ins := false) (s := ⟨l, 11⟩) (h.wrong 11) (upd_set _ _ _ _))
    clear h
    go_enter Tryd.func68, Tryd.ntmps68
    go_wp2_with (first | (go_at_call 77; (with_reducible refine (dead_ HR.out).mono ?_); rintro e w' ⟨rfl, rfl⟩) | (go_at_call 79; (with_reducible refine (fail_ HR.out _).mono ?_); rintro e w' ⟨rfl, rfl⟩))
    go_end0
    exact ⟨rfl, A1.out⟩
  · rw [show failS ⟨l, e⟩ = ⟨l, e⟩ by simp [failS, he]]
    have he2 : (e != 0) = true := bne_iff_ne.2 he
    have A1 := Aside0.mk (At.refl (s := ⟨l, e⟩) h)
    clear h he
    go_enter Tryd.func68, Tryd.ntmps68
    go_wp2_with (go_at_call 77; (with_reducible refine (dead_ HR.out).mono ?_); rintro e w' ⟨rfl, rfl⟩)
    go_end0
    exact ⟨rfl, A1.out⟩
end Go.Proofs.YthaoiamgkpkcbaaDoor.Pk
