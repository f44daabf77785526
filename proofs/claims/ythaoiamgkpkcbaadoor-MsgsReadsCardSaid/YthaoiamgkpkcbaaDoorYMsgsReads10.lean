/- The contracts of the reader's Num and Below, outside of read. Conditions: a reader whose bytes fit in memory. · The contracts of pack.New and of the reader's Row, outside of read. Conditions: bytes that fit in memory. · Written by a program of this session over the kit's print: functions and their contracts. · Written by a program of this session over the kit's print: functions and their contracts. -/
import Derived.Test.YthaoiamgkpkcbaaDoorYMsgsReads4
import Derived.Test.YthaoiamgkpkcbaaDoorProg
import Derived.Below
import Derived.Deep.Draws
import Derived.Deep.AppendLies
import Derived.Maps.AppendAt
import Derived.OwnWalk
import Derived.Laws.BytesArg
import Derived.Laws.MakeOwn
import Derived.Laws.OwnMore
import Derived.Deep.OwnRows
import Derived.Tactics
import Derived.Lib.ConvBytes
import Derived.Laws.Slices
import Derived.WalkKit
import Derived.KernelRfl
import Derived.RowKit3
import Derived.Deep.LoopGhost
import Derived.Deep.QuietTactic
import Derived.BigQuiet
import Derived.WideLaws
import Derived.Deep.DeepCutAuto
import Derived.Deep.CutBlock
import Derived.Deep.RegionHeld3
import Derived.Laws.Rows
import Derived.Lib.AppendStr
import Derived.ArgAppend
import Derived.Laws.IdiomCopy
import Derived.OrdersHeld
import Derived.Laws.BitsLemmas
import Derived.RowKit
import Derived.Test.YthaoiamgkpkcbaaDoorYMsgsReads0
import Derived.Test.YthaoiamgkpkcbaaDoorYMsgsReads2
import Derived.Test.YthaoiamgkpkcbaaDoorYMsgsReads5
import Derived.Test.YthaoiamgkpkcbaaDoorYMsgsReads3

namespace Go.Proofs.YthaoiamgkpkcbaaDoor.Pk
open Go.ChangeShapes Go.WideShapes Go.ChangeAt Go.RowKit
open Go.Proofs.YthaoiamgkpkcbaaDoor.Hlp Go.Proofs.YthaoiamgkpkcbaaDoor.Wrd Go.Proofs.YthaoiamgkpkcbaaDoorW.PrintWords Go.Proofs.YthaoiamgkpkcbaaDoorW.PrintLast Go.Proofs.YthaoiamgkpkcbaaDoorW.PrintMore
set_option linter.unusedVariables false
set_option linter.unusedSimpArgs false
/-- what a read number takes lies within the bytes -/
theorem peekP_ok {l : List Int} {n k : Int} (h : peekP l = (n, k, 0)) (hb : ∀ x ∈ l, 0 ≤ x ∧ x < 256) : 1 ≤ k ∧ k ≤ 9 ∧ k ≤ l.length := by
  cases l with
  | nil => cases h
  | cons a r =>
    rw [peekP_cons] at h
    split at h
    · cases h
    split at h
    · cases h
    split at h
    · cases h
    · obtain ⟨h1, h2⟩ := hb a List.mem_cons_self
      cases h
      simp only [List.length_cons]
      omega
/-- a reader as it goes on: what is left, what is wrong -/
structure St where
  l : List Int
  e : Int
/-- the reader stands so, and nothing else has been turned -/
def At (w : World) (g : Nat) (ins : Bool) (s : St) (w' : World) : Prop := ∃ b c, Rd w' g b c s.l s.e ins ∧ w.grownBy w' (some g)
theorem At.of {w w' : World} {g : Nat} {ins : Bool} {s : St} {b : Option Addr} {c : Nat} (h : Rd w' g b c s.l s.e ins) (k : w.grownBy w' (some g)) : At w g ins s w' := ⟨b, c, h, k⟩
/-- the slice that is left behind k bytes, whatever room there is -/
theorem adv {w : World} {g bb off c : Nat} {l : List Int} {ins : Bool} {k : Nat} (h : Rd w g (some ⟨bb, off, none⟩) c l 0 ins) (hk : k ≤ l.length) :
    (c = k → At w g ins ⟨l.drop k, 0⟩ (w.setCell ⟨g, 0, none⟩ (.slice (some ⟨bb, off, none⟩) 0 0))) ∧
    (c ≠ k → At w g ins ⟨l.drop k, 0⟩ (w.setCell ⟨g, 0, none⟩ (.slice (some ⟨bb, off + k, none⟩) (l.length - k) (c - k)))) := by
  have hc := h.cap
  constructor
  · intro e
    have hl : l.drop k = [] := List.drop_eq_nil_of_le (by omega)
    rw [hl]
    exact At.of (h.none 0) (upd_set _ _ _ _)
  · intro _
    have := h.rest k hk
    rw [List.length_drop] at this
    exact At.of this (upd_set _ _ _ _)
theorem At.refl {w : World} {g : Nat} {b : Option Addr} {c : Nat} {s : St} {ins : Bool} (h : Rd w g b c s.l s.e ins) : At w g ins s w := ⟨b, c, h, upd_refl w _⟩
def belowS (m : Int) (s : St) : Int × St :=
  if s.e = 0 then (if (peekP s.l).2.2 = 0 then (if 0 ≤ (peekP s.l).1 ∧ (peekP s.l).1 < m then ((peekP s.l).1, ⟨s.l.drop (peekP s.l).2.1.toNat, 0⟩) else (0, ⟨s.l, 11⟩)) else (0, ⟨s.l, (peekP s.l).2.2⟩)) else (0, s)
theorem belowS_dead {m : Int} {s : St} (h : s.e ≠ 0) : belowS m s = (0, s) := by unfold belowS; rw [if_neg h]
theorem belowS_ok {m : Int} {l : List Int} {n k : Int} (h : peekP l = (n, k, 0)) (h1 : 0 ≤ n ∧ n < m) : belowS m ⟨l, 0⟩ = (n, ⟨l.drop k.toNat, 0⟩) := by simp [belowS, h, h1]
theorem belowS_out {m : Int} {l : List Int} {n k : Int} (h : peekP l = (n, k, 0)) (h1 : ¬ (0 ≤ n ∧ n < m)) : belowS m ⟨l, 0⟩ = (0, ⟨l, 11⟩) := by simp [belowS, h, h1]
theorem belowS_bad {m : Int} {l : List Int} {n k x : Int} (h : peekP l = (n, k, x)) (hx : x ≠ 0) : belowS m ⟨l, 0⟩ = (0, ⟨l, x⟩) := by simp [belowS, h, hx]
set_option maxHeartbeats 1000000 in
theorem below_ {w : World} {g : Nat} {b : Option Addr} {c : Nat} {l : List Int} {e : Int} (m : Int) (h : Rd w g b c l e false) :
    Calls Tryd.prog 67 #[.pointer (some ⟨g, 0, none⟩), .int .i64 m] w fun x w' => x = .returned (.int .i64 (belowS m ⟨l, e⟩).1) ∧ At w g false (belowS m ⟨l, e⟩).2 w' := by
  by_cases he : e = 0
  · subst he
    have hd : ((0 : Int) != 0) = false := rfl
    obtain ⟨n, k, x, hp⟩ : ∃ n k x, peekP l = (n, k, x) := ⟨_, _, _, rfl⟩
    have V := Lib.hid (peekV_of hp)
    by_cases hx : x = 0
    · subst hx
      by_cases hin : 0 ≤ n ∧ n < m
      · have hn := belowS_ok hp hin
        obtain ⟨hin1, hin2⟩ := hin
        have t1 : decide (n < 0) = false := decide_eq_false (by omega)
        have t2 : decide (m ≤ n) = false := decide_eq_false (by omega)
        obtain ⟨hk1, hk9, hkl⟩ := peekP_ok hp h.bytes
        have h0 := h.c0
        have f0 := h.f 0
        have hm := h.row.2.1
        obtain ⟨K, rfl⟩ := Int.eq_ofNat_of_zero_le (show 0 ≤ k by omega)
        rw [Int.toNat_natCast] at hn
        rw [hn]
        obtain ⟨bb, off, rfl, hcell⟩ := C_block h.row (by omega)
        have hA := adv h (k := K) (by omega)
        have hcap := h.cap
        have HR := Aside0.mk h
        clear hn hp h hcell hin1 hin2
        by_cases hc : c = K
        · have A1 := Aside0.mk (hA.1 hc)
          subst hc
          clear hA
          go_enter Tryd.func67, Tryd.ntmps67
          go_wp2_with (first | (go_at_call 77; (with_reducible refine (dead_ HR.out).mono ?_); rintro e w' ⟨rfl, rfl⟩) | (go_at_call 78; (with_reducible refine (peek_ HR.out).mono ?_); rw [V.out]; rintro e w' ⟨rfl, rfl⟩) | (go_at_call 79; (with_reducible refine (fail_ HR.out _).mono ?_); rintro e w' ⟨rfl, rfl⟩))
          go_ret
          exact ⟨rfl, A1.out⟩
        · have A1 := Aside0.mk (hA.2 hc)
          have hc2 : (c == K) = false := beq_eq_false_iff_ne.2 hc
          clear hA
          go_enter Tryd.func67, Tryd.ntmps67
          go_wp2_with (first | (go_at_call 77; (with_reducible refine (dead_ HR.out).mono ?_); rintro e w' ⟨rfl, rfl⟩) | (go_at_call 78; (with_reducible refine (peek_ HR.out).mono ?_); rw [V.out]; rintro e w' ⟨rfl, rfl⟩) | (go_at_call 79; (with_reducible refine (fail_ HR.out _).mono ?_); rintro e w' ⟨rfl, rfl⟩))
          go_ret
          exact ⟨rfl, A1.out⟩
      · rw [belowS_out hp hin]
        have HR := Aside0.mk h
        have A1 := Aside0.mk (At.of (ins := false) (s := ⟨l, 11⟩) (h.wrong 11) (upd_set _ _ _ _))
        by_cases hn : n < 0
        · have t1 := decide_eq_true hn
          clear hp h hin hn
          go_enter Tryd.func67, Tryd.ntmps67
          go_wp2_with (first | (go_at_call 77; (with_reducible refine (dead_ HR.out).mono ?_); rintro e w' ⟨rfl, rfl⟩) | (go_at_call 78; (with_reducible refine (peek_ HR.out).mono ?_); rw [V.out]; rintro e w' ⟨rfl, rfl⟩) | (go_at_call 79; (with_reducible refine (fail_ HR.out _).mono ?_); rintro e w' ⟨rfl, rfl⟩))
          go_ret
          exact ⟨rfl, A1.out⟩
        · have t1 := decide_eq_false hn
          have t2 : decide (m ≤ n) = true := decide_eq_true (by omega)
          clear hp h hin hn
          go_enter Tryd.func67, Tryd.ntmps67
          go_wp2_with (first | (go_at_call 77; (with_reducible refine (dead_ HR.out).mono ?_); rintro e w' ⟨rfl, rfl⟩) | (go_at_call 78; (with_reducible refine (peek_ HR.out).mono ?_); rw [V.out]; rintro e w' ⟨rfl, rfl⟩) | (go_at_call 79; (with_reducible refine (fail_ HR.out _).mono ?_); rintro e w' ⟨rfl, rfl⟩))
          go_ret
          exact ⟨rfl, A1.out⟩
    · rw [belowS_bad hp hx]
      have hx2 : (x != 0) = true := bne_iff_ne.2 hx
      have hx3 : (x == 0) = false := beq_eq_false_iff_ne.2 hx
      have HR := Aside0.mk h
      have A1 := Aside0.mk (At.of (ins := false) (s := ⟨l, x⟩) (h.wrong x) (upd_set _ _ _ _))
      clear hp h hx
      go_enter Tryd.func67, Tryd.ntmps67
      go_wp2_with (first | (go_at_call 77; (with_reducible refine (dead_ HR.out).mono ?_); rintro e w' ⟨rfl, rfl⟩) | (go_at_call 78; (with_reducible refine (peek_ HR.out).mono ?_); rw [V.out]; rintro e w' ⟨rfl, rfl⟩) | (go_at_call 79; (with_reducible refine (fail_ HR.out _).mono ?_); rintro e w' ⟨rfl, rfl⟩))
      go_ret
      exact ⟨rfl, A1.out⟩
  · rw [belowS_dead he]
    have he2 : (e != 0) = true := bne_iff_ne.2 he
    have HR := Aside0.mk h
    have A1 := Aside0.mk (At.refl (s := ⟨l, e⟩) h)
    clear h he
    go_enter Tryd.func67, Tryd.ntmps67
    go_wp2_with (go_at_call 77; (with_reducible refine (dead_ HR.out).mono ?_); rintro e w' ⟨rfl, rfl⟩)
    go_ret
    exact ⟨rfl, A1.out⟩
def truthS (s : St) : Bool × St :=
  if s.e = 0 then (match s.l with | [] => (false, ⟨s.l, 12⟩) | x :: r => if 1 < x then (false, ⟨s.l, 11⟩) else (x == 1, ⟨r, 0⟩)) else (false, s)
set_option maxHeartbeats 1000000 in
theorem truth_ {w : World} {g : Nat} {b : Option Addr} {c : Nat} {l : List Int} {e : Int} (h : Rd w g b c l e false) :
    Calls Tryd.prog 69 #[.pointer (some ⟨g, 0, none⟩)] w fun x w' => x = .returned (.bool (truthS ⟨l, e⟩).1) ∧ At w g false (truthS ⟨l, e⟩).2 w' := by
  by_cases he : e = 0
  · subst he
    have hd : ((0 : Int) != 0) = false := rfl
    have h0 := h.c0
    cases l with
    | nil =>
      rw [show truthS ⟨[], 0⟩ = (false, ⟨[], 12⟩) from rfl]
      have HR := Aside0.mk h
      have A1 := Aside0.mk (At.of (ins := false) (s := ⟨[], 12⟩) (h.wrong 12) (upd_set _ _ _ _))
      clear h
      go_enter Tryd.func69, Tryd.ntmps69
      go_wp2_with (first | (go_at_call 77; (with_reducible refine (dead_ HR.out).mono ?_); rintro e w' ⟨rfl, rfl⟩) | (go_at_call 79; (with_reducible refine (fail_ HR.out _).mono ?_); rintro e w' ⟨rfl, rfl⟩))
      go_ret
      exact ⟨rfl, A1.out⟩
    | cons x r =>
      obtain ⟨bb, off, rfl, hcell⟩ := C_block h.row (by simp)
      have hc0 := hcell 0 (by simp)
      rw [List.getElem_cons_zero, Nat.add_zero] at hc0
      obtain ⟨hx0, hx1⟩ := h.bytes x List.mem_cons_self
      have hm := h.row.2.1
      have hcap := h.cap
      have f0 := h.f 0
      have hA := adv h (k := 1) (by simp)
      have HR := Aside0.mk h
      by_cases hx : 1 < x
      · rw [show truthS ⟨x :: r, 0⟩ = (false, ⟨x :: r, 11⟩) by simp [truthS, hx]]
        have A1 := Aside0.mk (At.of (ins := false) (s := ⟨x :: r, 11⟩) (h.wrong 11) (upd_set _ _ _ _))
        have t := decide_eq_true hx
        simp only [List.length_cons] at h0 hm hcap
        clear h hA hcell hx
        go_enter Tryd.func69, Tryd.ntmps69
        go_wp2_with (first | (go_at_call 77; (with_reducible refine (dead_ HR.out).mono ?_); rintro e w' ⟨rfl, rfl⟩) | (go_at_call 79; (with_reducible refine (fail_ HR.out _).mono ?_); rintro e w' ⟨rfl, rfl⟩))
        go_ret
        exact ⟨rfl, A1.out⟩
      · rw [show truthS ⟨x :: r, 0⟩ = (x == 1, ⟨r, 0⟩) by simp [truthS, hx]]
        have t := decide_eq_false hx
        simp only [List.length_cons, List.drop_succ_cons, List.drop_zero, Nat.add_sub_cancel] at h0 hm hcap hA
        clear h hcell hx
        by_cases hc : c = 1
        · have A1 := Aside0.mk (hA.1 hc)
          subst hc
          clear hA
          go_enter Tryd.func69, Tryd.ntmps69
          go_wp2_with (first | (go_at_call 77; (with_reducible refine (dead_ HR.out).mono ?_); rintro e w' ⟨rfl, rfl⟩) | (go_at_call 79; (with_reducible refine (fail_ HR.out _).mono ?_); rintro e w' ⟨rfl, rfl⟩))
          go_ret
          exact ⟨rfl, A1.out⟩
        · have A1 := Aside0.mk (hA.2 hc)
          have hc2 : (c == 1) = false := beq_eq_false_iff_ne.2 hc
          clear hA
          go_enter Tryd.func69, Tryd.ntmps69
          go_wp2_with (first | (go_at_call 77; (with_reducible refine (dead_ HR.out).mono ?_); rintro e w' ⟨rfl, rfl⟩) | (go_at_call 79; (with_reducible refine (fail_ HR.out _).mono ?_); rintro e w' ⟨rfl, rfl⟩))
          go_ret
          exact ⟨rfl, A1.out⟩
  · rw [show truthS ⟨l, e⟩ = (false, ⟨l, e⟩) by simp [truthS, he]]
    have he2 : (e != 0) = true := bne_iff_ne.2 he
    have HR := Aside0.mk h
    have A1 := Aside0.mk (At.refl (s := ⟨l, e⟩) h)
    clear h he
    go_enter Tryd.func69, Tryd.ntmps69
    go_wp2_with (go_at_call 77; (with_reducible refine (dead_ HR.out).mono ?_); rintro e w' ⟨rfl, rfl⟩)
    go_ret
    exact ⟨rfl, A1.out⟩
def failS (s : St) : St := if s.e = 0 then ⟨s.l, 11⟩ else s
theorem markWrong_ {w : World} {g : Nat} {b : Option Addr} {c : Nat} {l : List Int} {e : Int} (h : Rd w g b c l e false) :
    Calls Tryd.prog 68 #[.pointer (some ⟨g, 0, none⟩)] w fun x w' => x = .returned (.tuple #[]) ∧ At w g false (failS ⟨l, e⟩) w' := by
  have HR := Aside0.mk h
  by_cases he : e = 0
  · subst he
    rw [show failS ⟨l, 0⟩ = ⟨l, 11⟩ from rfl]
    have hd : ((0 : Int) != 0) = false := rfl
    have A1 := Aside0.mk (At.of (ins := false) (s := ⟨l, 11⟩) (h.wrong 11) (upd_set _ _ _ _))
    clear h
    go_enter Tryd.func68, Tryd.ntmps68
    go_wp2_with (first | (go_at_call 77; (with_reducible refine (dead_ HR.out).mono ?_); rintro e w' ⟨rfl, rfl⟩) | (go_at_call 79; (with_reducible refine (fail_ HR.out _).mono ?_); rintro e w' ⟨rfl, rfl⟩))
    go_end0
    exact ⟨rfl, A1.out⟩
  · rw [show failS ⟨l, e⟩ = ⟨l, e⟩ by simp [failS, he]]
    have he2 : (e != 0) = true := bne_iff_ne.2 he
    have A1 := Aside0.mk (At.refl (s := ⟨l, e⟩) h)
    clear h he
    go_enter Tryd.func68, Tryd.ntmps68
    go_wp2_with (go_at_call 77; (with_reducible refine (dead_ HR.out).mono ?_); rintro e w' ⟨rfl, rfl⟩)
    go_end0
    exact ⟨rfl, A1.out⟩
end Go.Proofs.YthaoiamgkpkcbaaDoor.Pk
namespace Go.Proofs.YthaoiamgkpkcbaaDoor.Pk
open Go.ChangeShapes Go.WideShapes Go.ChangeAt Go.RowKit
open Go.Proofs.YthaoiamgkpkcbaaDoor.Hlp Go.Proofs.YthaoiamgkpkcbaaDoor.Wrd Go.Proofs.YthaoiamgkpkcbaaDoorW.PrintWords Go.Proofs.YthaoiamgkpkcbaaDoorW.PrintLast Go.Proofs.YthaoiamgkpkcbaaDoorW.PrintMore
set_option linter.unusedVariables false
set_option linter.unusedSimpArgs false
theorem info8 : (Tryd.prog.info? 5).map (fun i => (i.zero, i.size, i.bytes)) = some (some (.int .u8 0), 1, 1) := by kernel_rfl
theorem Rd.below {w w1 : World} {g : Nat} {b : Option Addr} {c : Nat} {l : List Int} {e : Int} {ins : Bool} (h : Rd w g b c l e ins) (hb : Below w.heap.size w w1) : Rd w1 g b c l e ins where
  blk := blk_below h.blk hb
  row := Kd.C_below h.row hb
  cap := h.cap
  bytes := h.bytes
  typ := fun h0 p o x => by obtain ⟨cs, fr, hp⟩ := h.typ h0 p o x; exact ⟨cs, fr, (hb.block p (blk_lt hp)).trans hp⟩
/-- another reader has gone on -/
theorem Rd.other {w w' : World} {g g2 : Nat} {b b2 : Option Addr} {c c2 : Nat} {l l2 : List Int} {e e2 : Int} {ins ins2 : Bool} (h : Rd w g b c l e ins) (h2 : Rd w g2 b2 c2 l2 e2 ins2) (hg : w.grownBy w' (some g2)) (hne : g ≠ g2) : Rd w' g b c l e ins where
  blk := blk_grown h.blk hg (by intro x; injection x with x; exact hne x)
  row := by
    rcases Nat.eq_zero_or_pos l.length with h0 | h0
    · rw [List.length_eq_zero_iff.1 h0]; exact C_empty
    · obtain ⟨bb, off, rfl, hc⟩ := C_block h.row h0
      have hb : bb ≠ g2 := by
        rintro rfl
        exact h2.noByte _ _ (hc 0 h0)
      exact C_mk h.row.2.1 fun k hk => cell_grown hg (hc k hk) (by intro x; injection x with x; exact hb x)
  cap := h.cap
  bytes := h.bytes
  typ := fun h0 p o x => by
    obtain ⟨cs, fr, hp⟩ := h.typ h0 p o x
    refine ⟨cs, fr, (hg.block p (blk_lt hp) ?_).trans hp⟩
    intro e2; injection e2 with e2; subst e2
    have := h2.blk; rw [hp] at this; injection this with this; injection this with _ this _; exact absurd this (by decide)
theorem R_farg {α : Type} {d : Kd α} {e : Nat} {w : World} {base : Nat} {v : Value} {xs : List α} {g : Nat} (h : d.R e w base (fun _ => True) v xs) (hg : g < base) (i : Nat) (u : Value) : d.R e (w.setCell ⟨g, i, none⟩ u) base (fun _ => True) v xs :=
  Kd.R_mono (Kd.R_far (p := ⟨g, i, none⟩) (Kd.R_bound h) (fun k hk => by have := hk.2.1; simp; omega) u) (fun _ _ => trivial)
theorem C_take {α : Type} {enc : α → Value} {h1 : ∀ x, (enc x).oneCell' = true} {w : World} {A : Option Addr} {xs : List α} (h : (Kd.scalar enc h1).C w A xs.length xs) (k : Nat) (hk : k ≤ xs.length) :
    (Kd.scalar enc h1).C w A k (xs.take k) := by
  have hl : (xs.take k).length = k := by rw [List.length_take]; omega
  rcases Nat.eq_zero_or_pos k with h0 | h0
  · subst h0; exact ⟨hl, by omega, fun h => absurd h (Nat.lt_irrefl 0)⟩
  · obtain ⟨b, off, rfl, hc⟩ := C_block h (by omega)
    have := C_mk (enc := enc) (h1 := h1) (w := w) (b := b) (off := off) (xs := xs.take k) (by have := h.2.1; omega) (fun j hj => by rw [hl] at hj; rw [hc j (by omega), List.getElem_take])
    rw [hl] at this
    exact this
/-- a new reader -/
def Born (w : World) (l : List Int) (x : Ending) (w' : World) : Prop := ∃ g b c, x = .returned (.pointer (some ⟨g, 0, none⟩)) ∧ Rd w' g b c l 0 false ∧ Below w.heap.size w w' ∧ w.heap.size ≤ g ∧ g < w'.heap.size
set_option maxHeartbeats 1000000 in
theorem new_ {w : World} {A : Option Addr} {c : Nat} {l : List Int} (hr : Kd.C (Kd.int .u8) w A l.length l) (hc : l.length ≤ c) (hb : ∀ x ∈ l, 0 ≤ x ∧ x < 256) (hl : l.length ≤ 140737488351232) :
    Calls Tryd.prog 46 #[.slice A l.length c] w (Born w l) := by
  have HR := Aside0.mk hr
  clear hr
  go_enter Tryd.func46, Tryd.ntmps46
  go_wp2_with ((with_reducible refine gate_builtin (b := .append) rfl ?_); at_builtin; refine Kd.R_append_rows (Kd.int .u8) (w0 := w) w.heap.size rfl _ _ 24 5 (.int .u8 0) 1 rfl Tryd.underlying24 info8 rfl (by decide) (by omega) (.slice none 0 0) [] l _ _ _ (fun _ => True) (fun _ => False) rfl rfl (Kd.R_nil _ _ _ _ _) HR.out (fun _ _ h => h) (fun _ h => h.elim) (fun _ _ => trivial) (Below.refl _ _) (Nat.le_refl _) (by simp; omega) ?_; intro v1 w1 ho hb1 hg hat; rw [List.nil_append] at ho; have HTy := Aside0.mk (own_typed (Kd.R_own ho).choose_spec); obtain ⟨A1, c1, rfl, hc1, hr1⟩ := Kd.R_reads ho; have HR1 := Aside0.mk hr1; have HB := Aside0.mk hb1; clear hr1 ho hb1 hg hat)
  go_ret
  have hB := HB.out
  refine ⟨w1.heap.size, A1, c1, rfl, ⟨blk_new _ _, Kd.C_alloc HR1.out _, hc1, hb, fun h0 p o x => by obtain ⟨cs, hp⟩ := HTy.out p (by rw [x]; rfl); exact ⟨cs, _, blk_alloc hp _⟩⟩, below_alloc hB _, hB.size, ?_⟩
  simp
def rowS (s : St) : List Int × St :=
  if s.e = 0 then (if (peekP s.l).2.2 = 0 then (if 0 ≤ (peekP s.l).1 ∧ (peekP s.l).1 ≤ 65536 then (if (s.l.length : Int) - (peekP s.l).2.1 < (peekP s.l).1 then ([], ⟨s.l, 12⟩) else ((s.l.drop (peekP s.l).2.1.toNat).take (peekP s.l).1.toNat, ⟨s.l.drop ((peekP s.l).2.1.toNat + (peekP s.l).1.toNat), 0⟩)) else ([], ⟨s.l, 11⟩)) else ([], ⟨s.l, (peekP s.l).2.2⟩)) else ([], s)
theorem rowS_dead {s : St} (h : s.e ≠ 0) : rowS s = ([], s) := by unfold rowS; rw [if_neg h]
theorem rowS_bad {l : List Int} {n k x : Int} (h : peekP l = (n, k, x)) (hx : x ≠ 0) : rowS ⟨l, 0⟩ = ([], ⟨l, x⟩) := by simp [rowS, h, hx]
theorem rowS_out {l : List Int} {n k : Int} (h : peekP l = (n, k, 0)) (h1 : ¬ (0 ≤ n ∧ n ≤ 65536)) : rowS ⟨l, 0⟩ = ([], ⟨l, 11⟩) := by simp [rowS, h, h1]
theorem rowS_short {l : List Int} {n k : Int} (h : peekP l = (n, k, 0)) (h1 : 0 ≤ n ∧ n ≤ 65536) (h2 : (l.length : Int) - k < n) : rowS ⟨l, 0⟩ = ([], ⟨l, 12⟩) := by simp [rowS, h, h1, h2]
theorem rowS_ok {l : List Int} {n k : Nat} (h : peekP l = ((n : Int), (k : Int), 0)) (h1 : n ≤ 65536) (h2 : k + n ≤ l.length) : rowS ⟨l, 0⟩ = ((l.drop k).take n, ⟨l.drop (k + n), 0⟩) := by
  have h3 : ¬ ((l.length : Int) - (k : Int) < (n : Int)) := by omega
  have h4 : (0 : Int) ≤ (n : Int) ∧ (n : Int) ≤ 65536 := by omega
  simp [rowS, h, h3, h4]
/-- what Row tells: a row of its own, and where the reader stands -/
def RowPost (w : World) (g : Nat) (r : List Int × St) (x : Ending) (w' : World) : Prop := ∃ v, x = .returned v ∧ Kd.R (Kd.int .u8) 5 w' w.heap.size (fun _ => True) v r.1 ∧ At w g false r.2 w'
theorem RowPost.nil {w w' : World} {g : Nat} {s : St} (h : At w g false s w') : RowPost w g ([], s) (.returned (.slice none 0 0)) w' := ⟨_, rfl, Kd.R_nil _ _ _ _ _, h⟩
/-- the reader behind a row that was made -/
theorem RowPost.made {w w1 : World} {g : Nat} {v : Value} {xs : List Int} {s : St} {u : Value} (hg : g < w.heap.size) (hb : Below w.heap.size w w1) (ho : Kd.R (Kd.int .u8) 5 w1 w.heap.size (fun _ => True) v xs) (hA : At w1 g false s (w1.setCell ⟨g, 0, none⟩ u)) :
    RowPost w g (xs, s) (.returned v) (w1.setCell ⟨g, 0, none⟩ u) := by
  obtain ⟨b, c, hr, hk⟩ := hA
  exact ⟨v, rfl, R_farg ho hg 0 u, b, c, hr, upd_trans (grown_of_below hb _) hk⟩
set_option maxHeartbeats 2000000 in
theorem row_ {w : World} {g : Nat} {b : Option Addr} {c : Nat} {l : List Int} {e : Int} (h : Rd w g b c l e false) (hl : l.length ≤ 140737488351232) :
    Calls Tryd.prog 80 #[.pointer (some ⟨g, 0, none⟩)] w (RowPost w g (rowS ⟨l, e⟩)) := by
  have hgs := blk_lt h.blk
  by_cases he : e = 0
  · subst he
    have hd : ((0 : Int) != 0) = false := rfl
    obtain ⟨n, k, x, hp⟩ : ∃ n k x, peekP l = (n, k, x) := ⟨_, _, _, rfl⟩
    have V := Lib.hid (peekV_of hp)
    have h0 := h.c0
    have f0 := h.f 0
    have hm := h.row.2.1
    have hcap := h.cap
    by_cases hx : x = 0
    · subst hx
      obtain ⟨hk1, hk9, hkl⟩ := peekP_ok hp h.bytes
      by_cases hin : 0 ≤ n ∧ n ≤ 65536
      · by_cases hs : (l.length : Int) - k < n
        · rw [rowS_short hp hin hs]
          obtain ⟨hin1, hin2⟩ := hin
          have t1 : decide (n < 0) = false := decide_eq_false (by omega)
          have t2 : decide (65536 < n) = false := decide_eq_false (by omega)
          have t3 : decide ((l.length : Int) - k < n) = true := decide_eq_true hs
          have HR := Aside0.mk h
          have A1 := Aside0.mk (At.of (ins := false) (s := ⟨l, 12⟩) (h.wrong 12) (upd_set _ _ _ _))
          clear h hp hs hin1 hin2
          go_enter Tryd.func80, Tryd.ntmps80
          go_wp2_with (first | (go_at_call 77; (with_reducible refine (dead_ HR.out).mono ?_); rintro e w' ⟨rfl, rfl⟩) | (go_at_call 78; (with_reducible refine (peek_ HR.out).mono ?_); rw [V.out]; rintro e w' ⟨rfl, rfl⟩) | (go_at_call 79; (with_reducible refine (fail_ HR.out _).mono ?_); rintro e w' ⟨rfl, rfl⟩))
          go_ret
          exact RowPost.nil A1.out
        · obtain ⟨hin1, hin2⟩ := hin
          obtain ⟨K, rfl⟩ := Int.eq_ofNat_of_zero_le (show 0 ≤ k by omega)
          obtain ⟨m, rfl⟩ := Int.eq_ofNat_of_zero_le hin1
          have hkn : K + m ≤ l.length := by omega
          rw [rowS_ok hp (by omega) hkn]
          have t1 : decide ((m : Int) < 0) = false := decide_eq_false (by omega)
          have t2 : decide (65536 < (m : Int)) = false := decide_eq_false (by omega)
          have t2n : decide (65536 < m) = false := decide_eq_false (by omega)
          have t3 : decide ((l.length : Int) - (K : Int) < (m : Int)) = false := decide_eq_false (by omega)
          obtain ⟨bb, off, rfl, hcell⟩ := C_block h.row (by omega)
          have hA0 := fun (w1 : World) (h1 : Rd w1 g (some ⟨bb, off, none⟩) c l 0 false) => adv h1 (k := K + m) hkn
          have HR := Aside0.mk h
          have hmk : ((K : Int) + (m : Int)) = ((K + m : Nat) : Int) := by omega
          by_cases hc : c = K
          · obtain rfl : m = 0 := by omega
            have HS : Aside0 (Kd.C (Kd.int .u8) w (some ⟨bb, off, none⟩) 0 []) := ⟨C_empty⟩
            have hA := Aside0.mk hA0
            subst hc
            rw [List.take_zero, Nat.add_zero]
            have A1 := Aside0.mk ((hA.out w h).1 rfl)
            clear h hp hcell hA0 hA hin1 hin2 hs hmk HS
            go_enter Tryd.func80, Tryd.ntmps80
            go_wp2_with (first | (go_at_call 77; (with_reducible refine (dead_ HR.out).mono ?_); rintro e w' ⟨rfl, rfl⟩) | (go_at_call 78; (with_reducible refine (peek_ HR.out).mono ?_); rw [V.out]; rintro e w' ⟨rfl, rfl⟩))
            go_ret
            exact RowPost.nil A1.out
          · have hc2 : (c == K) = false := beq_eq_false_iff_ne.2 hc
            have HS : Aside0 (Kd.C (Kd.int .u8) w (some ⟨bb, off + K, none⟩) (K + m - K) ((l.drop K).take m)) := ⟨by rw [Nat.add_sub_cancel_left]; exact C_take (C_drop h.row K (by omega)) m (by rw [List.length_drop]; omega)⟩
            obtain ⟨ys, hys⟩ : ∃ ys, (l.drop K).take m = ys := ⟨_, rfl⟩
            rw [hys] at HS ⊢
            clear hys h hp hcell hin1 hin2 hs
            by_cases hc3 : c = K + m
            · subst hc3
              have hA := Aside0.mk (fun w1 h1 => (hA0 w1 h1).1 rfl)
              clear hA0
              have hm2 := Aside0.mk hmk
              clear hmk
              go_enter Tryd.func80, Tryd.ntmps80
              go_wp2_with (first | (go_at_call 77; (with_reducible refine (dead_ HR.out).mono ?_); rintro e w' ⟨rfl, rfl⟩) | (go_at_call 78; (with_reducible refine (peek_ HR.out).mono ?_); rw [V.out]; rintro e w' ⟨rfl, rfl⟩) | ((with_reducible refine gate_builtin (b := .append) rfl ?_); at_builtin; refine Kd.R_append_rows (Kd.int .u8) (w0 := w) w.heap.size rfl _ _ 24 5 (.int .u8 0) 1 rfl Tryd.underlying24 info8 rfl (by decide) (by omega) (.slice none 0 0) [] ys _ _ _ (fun _ => True) (fun _ => False) rfl rfl (Kd.R_nil _ _ _ _ _) HS.out (fun _ _ h => h) (fun _ h => h.elim) (fun _ _ => trivial) (Below.refl _ _) (Nat.le_refl _) (by simp; omega) ?_; intro v1 w1 ho hb1 hg hat; rw [List.nil_append] at ho; obtain ⟨h0', f0'⟩ := (show w1.cell? ⟨g, 0, none⟩ = _ ∧ w1.frozen? ⟨g, 0, none⟩ = false from ⟨(HR.out.below hb1).c0, (HR.out.below hb1).f 0⟩); have HO := Aside0.mk ho; have HB := Aside0.mk hb1; have HR1 := Aside0.mk (HR.out.below hb1); clear h0 f0 ho hb1 hg hat))
              go_ret
              exact RowPost.made hgs HB.out HO.out (hA.out _ HR1.out)
            · have hA := Aside0.mk (fun w1 h1 => (hA0 w1 h1).2 hc3)
              have hc4 : (c == K + m) = false := beq_eq_false_iff_ne.2 hc3
              clear hA0
              have hm2 := Aside0.mk hmk
              clear hmk
              go_enter Tryd.func80, Tryd.ntmps80
              go_wp2_with (first | (go_at_call 77; (with_reducible refine (dead_ HR.out).mono ?_); rintro e w' ⟨rfl, rfl⟩) | (go_at_call 78; (with_reducible refine (peek_ HR.out).mono ?_); rw [V.out]; rintro e w' ⟨rfl, rfl⟩) | ((with_reducible refine gate_builtin (b := .append) rfl ?_); at_builtin; refine Kd.R_append_rows (Kd.int .u8) (w0 := w) w.heap.size rfl _ _ 24 5 (.int .u8 0) 1 rfl Tryd.underlying24 info8 rfl (by decide) (by omega) (.slice none 0 0) [] ys _ _ _ (fun _ => True) (fun _ => False) rfl rfl (Kd.R_nil _ _ _ _ _) HS.out (fun _ _ h => h) (fun _ h => h.elim) (fun _ _ => trivial) (Below.refl _ _) (Nat.le_refl _) (by simp; omega) ?_; intro v1 w1 ho hb1 hg hat; rw [List.nil_append] at ho; obtain ⟨h0', f0'⟩ := (show w1.cell? ⟨g, 0, none⟩ = _ ∧ w1.frozen? ⟨g, 0, none⟩ = false from ⟨(HR.out.below hb1).c0, (HR.out.below hb1).f 0⟩); have HO := Aside0.mk ho; have HB := Aside0.mk hb1; have HR1 := Aside0.mk (HR.out.below hb1); clear h0 f0 ho hb1 hg hat))
              go_ret
              exact RowPost.made hgs HB.out HO.out (hA.out _ HR1.out)
      · rw [rowS_out hp hin]
        have HR := Aside0.mk h
        have A1 := Aside0.mk (At.of (ins := false) (s := ⟨l, 11⟩) (h.wrong 11) (upd_set _ _ _ _))
        by_cases hn : n < 0
        · have t1 := decide_eq_true hn
          clear hp h hin hn
          go_enter Tryd.func80, Tryd.ntmps80
          go_wp2_with (first | (go_at_call 77; (with_reducible refine (dead_ HR.out).mono ?_); rintro e w' ⟨rfl, rfl⟩) | (go_at_call 78; (with_reducible refine (peek_ HR.out).mono ?_); rw [V.out]; rintro e w' ⟨rfl, rfl⟩) | (go_at_call 79; (with_reducible refine (fail_ HR.out _).mono ?_); rintro e w' ⟨rfl, rfl⟩))
          go_ret
          exact RowPost.nil A1.out
        · have t1 := decide_eq_false hn
          have t2 : decide (65536 < n) = true := decide_eq_true (by omega)
          clear hp h hin hn
          go_enter Tryd.func80, Tryd.ntmps80
          go_wp2_with (first | (go_at_call 77; (with_reducible refine (dead_ HR.out).mono ?_); rintro e w' ⟨rfl, rfl⟩) | (go_at_call 78; (with_reducible refine (peek_ HR.out).mono ?_); rw [V.out]; rintro e w' ⟨rfl, rfl⟩) | (go_at_call 79; (with_reducible refine (fail_ HR.out _).mono ?_); rintro e w' ⟨rfl, rfl⟩))
          go_ret
          exact RowPost.nil A1.out
    · rw [rowS_bad hp hx]
      have hx2 : (x != 0) = true := bne_iff_ne.2 hx
      have HR := Aside0.mk h
      have A1 := Aside0.mk (At.of (ins := false) (s := ⟨l, x⟩) (h.wrong x) (upd_set _ _ _ _))
      clear hp h hx
      go_enter Tryd.func80, Tryd.ntmps80
      go_wp2_with (first | (go_at_call 77; (with_reducible refine (dead_ HR.out).mono ?_); rintro e w' ⟨rfl, rfl⟩) | (go_at_call 78; (with_reducible refine (peek_ HR.out).mono ?_); rw [V.out]; rintro e w' ⟨rfl, rfl⟩) | (go_at_call 79; (with_reducible refine (fail_ HR.out _).mono ?_); rintro e w' ⟨rfl, rfl⟩))
      go_ret
      exact RowPost.nil A1.out
  · rw [rowS_dead he]
    have he2 : (e != 0) = true := bne_iff_ne.2 he
    have HR := Aside0.mk h
    have A1 := Aside0.mk (At.refl (s := ⟨l, e⟩) h)
    clear h he
    go_enter Tryd.func80, Tryd.ntmps80
    go_wp2_with (go_at_call 77; (with_reducible refine (dead_ HR.out).mono ?_); rintro e w' ⟨rfl, rfl⟩)
    go_ret
    exact RowPost.nil A1.out
end Go.Proofs.YthaoiamgkpkcbaaDoor.Pk
namespace Go.Proofs.YthaoiamgkpkcbaaDoor.QA
open Go.RowKit Go.Proofs.YthaoiamgkpkcbaaDoorW.PrintWords Go.Proofs.YthaoiamgkpkcbaaDoorW.PrintLast Go.Proofs.YthaoiamgkpkcbaaDoorW.PrintMore
attribute [local go_sem] max2_int min2_int max_two min_two max_three min_three max_four min_four   -- for this text's walks alone
set_option linter.unusedVariables false
set_option linter.unusedSimpArgs false
def errW : Option Int → Value
  | none => .nilIface
  | some c => .iface 0 (.int .i64 c)
theorem errW_none : errW none = .nilIface := rfl
theorem errW_some (c : Int) : errW (some c) = .iface 0 (.int .i64 c) := rfl

-- the values' own types
end Go.Proofs.YthaoiamgkpkcbaaDoor.QA
namespace Go.Proofs.YthaoiamgkpkcbaaDoor.QA
open Go.RowKit Go.Proofs.YthaoiamgkpkcbaaDoorW.PrintWords Go.Proofs.YthaoiamgkpkcbaaDoorW.PrintLast Go.Proofs.YthaoiamgkpkcbaaDoorW.PrintMore
attribute [local go_sem] max2_int min2_int max_two min_two max_three min_three max_four min_four   -- for this text's walks alone
set_option linter.unusedVariables false
set_option linter.unusedSimpArgs false
theorem eqA23 (d : Nat) (w : World) (x0 y0 : Int) (x1 y1 : Int) (x2 y2 : Int) :
    (Op.equalIn (d + 2) 23 (.agg #[.int .i64 x0, .int .i64 x1, .int .i64 x2]) (.agg #[.int .i64 y0, .int .i64 y1, .int .i64 y2])).run Tryd.prog w = .ok (x0 == y0 && (x1 == y1 && (x2 == y2))) w := by
  refine eqA_of Tryd.underlying23 (by kernel_rfl) ?_
  refine eqf_cons (by rfl) (by go_simp; rfl) (by go_simp; rfl) (by go_simp) ?_
  refine eqf_cons (by rfl) (by go_simp; rfl) (by go_simp; rfl) (by go_simp) ?_
  exact eqf_last (by rfl) (by go_simp; rfl) (by go_simp; rfl) (by go_simp)
end Go.Proofs.YthaoiamgkpkcbaaDoor.QA
