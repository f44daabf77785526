/- What messages may be, plain; the contracts of within, ring.Check, none, and of tags.Same with an empty entry. Conditions: bytes are bytes. -/
import Derived.Test.YthaoiamgkpkcbaaDoorZMsgsTwice21
namespace Go.Proofs.YthaoiamgkpkcbaaDoor.Ms
open Go.ChangeShapes Go.WideShapes Go.ChangeAt Go.RowKit Go.Proofs.YthaoiamgkpkcbaaDoor.Pk Go.Proofs.YthaoiamgkpkcbaaDoor.Tg
open Go.Proofs.YthaoiamgkpkcbaaDoor.Hlp Go.Proofs.YthaoiamgkpkcbaaDoor.Wrd Go.Proofs.YthaoiamgkpkcbaaDoor.Lex Go.Proofs.YthaoiamgkpkcbaaDoorW.PrintWords Go.Proofs.YthaoiamgkpkcbaaDoorW.PrintLast Go.Proofs.YthaoiamgkpkcbaaDoorW.PrintMore
set_option linter.unusedVariables false
set_option linter.unusedSimpArgs false
/-- a message -/
structure Ms where
  kind : Int
  fr : Int
  dst : Int
  ep : Int
  op : Int
  n : Int
  f : Bool
  e : E6
  L : List E6
  R : List Int
  each : Int
  keep : Int
/-- where its rows lie -/
structure Pl where
  vA : Option Addr
  vc : Nat
  lA : Option Addr
  lc : Nat
  rA : Option Addr
  rc : Nat
abbrev Ms.val (m : Ms) (p : Pl) : Array Value := #[.int .i64 m.kind, .int .i64 m.fr, .int .i64 m.dst, .int .i64 m.ep, .int .i64 m.op, .int .i64 m.n, .bool m.f, .string m.e.f0, .int .i64 m.e.f1.f0, .int .i64 m.e.f1.f1, .int .i64 m.e.f1.f2, .bool m.e.f2.f0, .slice p.vA m.e.f2.f1.length p.vc, .slice p.lA m.L.length p.lc, .slice p.rA m.R.length p.rc, .int .i64 m.each, .int .i64 m.keep]
structure Lies (w : World) (m : Ms) (p : Pl) : Prop where
  v : Kd.C (Kd.int .u8) w p.vA m.e.f2.f1.length m.e.f2.f1
  vc : m.e.f2.f1.length ≤ p.vc
  l : Kd.C kE w p.lA m.L.length m.L
  lc : m.L.length ≤ p.lc
  r : Kd.C (Kd.int .i64) w p.rA m.R.length m.R
  rc : m.R.length ≤ p.rc
theorem Lies.below {w w1 : World} {m : Ms} {p : Pl} (h : Lies w m p) (hb : Below w.heap.size w w1) : Lies w1 m p :=
  ⟨Kd.C_below h.v hb, h.vc, Kd.C_below h.l hb, h.lc, Kd.C_below h.r hb, h.rc⟩
def Bytes (l : List Int) : Prop := ∀ x ∈ l, 0 ≤ x ∧ x < 256
/-! rings -/
def riseB (last : Int) : List Int → Bool
  | [] => true
  | x :: l => decide (last < x ∧ x ≤ 1048575) && riseB x l
def ringB (R : List Int) (each keep : Int) : Bool := decide (1 ≤ R.length ∧ R.length ≤ 64) && riseB (-1) R && decide (1 ≤ each ∧ each ≤ 64 ∧ 1 ≤ keep ∧ keep ≤ R.length)
theorem rises_l0 (l : List Int) (hl : l.length < 9223372036854775807) : ∀ (d i : Nat) (last : Int), l.length - i = d → i ≤ l.length → Since (fun k => QR.ring_rises.l0 k last l (l.length : Int) (i : Int)) (riseB last (l.drop i)) := by
  intro d
  induction d with
  | zero =>
    intro i last hd hi
    obtain rfl : i = l.length := by omega
    refine Since.none fun k => ?_
    simp only [QR.ring_rises.l0]
    rw [if_neg (Int.lt_irrefl _), List.drop_length]; rfl
  | succ d ih =>
    intro i last hd hi
    have h1 : i < l.length := by omega
    have hr : rd l (i : Int) = l[i] := by simp [rd, h1]
    have hw : wrap64 ((i : Int) + 1) = ((i + 1 : Nat) : Int) := by unfold wrap64; omega
    rw [List.drop_eq_getElem_cons h1]
    show Since _ (decide (last < l[i] ∧ l[i] ≤ 1048575) && riseB l[i] (l.drop (i + 1)))
    by_cases h2 : l[i] ≤ last
    · refine Since.none fun k => ?_
      simp only [QR.ring_rises.l0]
      rw [if_pos (by omega), if_pos (by omega), if_pos (by omega), hr, if_pos h2, decide_eq_false (by omega)]; rfl
    · by_cases h3 : l[i] > 1048575
      · refine Since.none fun k => ?_
        simp only [QR.ring_rises.l0]
        rw [if_pos (by omega), if_pos (by omega), if_pos (by omega), hr, if_neg h2, if_pos h3, decide_eq_false (by omega)]; rfl
      · refine Since.one (ih (i + 1) l[i] (by omega) (by omega)) fun k hk => ?_
        simp only [QR.ring_rises.l0]
        rw [if_pos (by omega), if_pos (by omega), if_pos (by omega), hr, if_neg h2, if_neg h3, hw, decide_eq_true (show last < l[i] ∧ l[i] ≤ 1048575 by omega), Bool.true_and]
        exact hk
theorem ring_ev (l : List Int) (each keep : Int) (hl : l.length < 9223372036854775807) : Since (fun k => QR.ring_Check.f k l each keep) (if ringB l each keep = true then 0 else 2) := by
  have h0 := rises_l0 l hl _ 0 (-1) rfl (Nat.zero_le _)
  rw [List.drop_zero] at h0
  refine h0.map fun k hk => ?_
  unfold QR.ring_Check.f QR.ring_rises.f ringB
  rw [show QR.ring_rises.l0 k (-1) l (l.length : Int) 0 = some (riseB (-1) l) from hk, Option.bind_some]
  by_cases h1 : (l.length : Int) = 0
  · rw [if_pos h1, decide_eq_false (show ¬ (1 ≤ l.length ∧ l.length ≤ 64) by omega)]; rfl
  rw [if_neg h1]
  by_cases h2 : (l.length : Int) > 64
  · rw [if_pos h2, decide_eq_false (show ¬ (1 ≤ l.length ∧ l.length ≤ 64) by omega)]; rfl
  rw [if_neg h2, decide_eq_true (show 1 ≤ l.length ∧ l.length ≤ 64 by omega), Bool.true_and]
  cases hb : riseB (-1) l
  · rfl
  · rw [if_pos rfl, Bool.true_and]
    by_cases h3 : each < 1
    · rw [if_pos h3, decide_eq_false (by omega)]; rfl
    by_cases h4 : each > 64
    · rw [if_neg h3, if_pos h4, decide_eq_false (by omega)]; rfl
    by_cases h5 : keep < 1
    · rw [if_neg h3, if_neg h4, if_pos h5, decide_eq_false (by omega)]; rfl
    by_cases h6 : keep > (l.length : Int)
    · rw [if_neg h3, if_neg h4, if_neg h5, if_pos h6, decide_eq_false (by omega)]; rfl
    · rw [if_neg h3, if_neg h4, if_neg h5, if_neg h6, decide_eq_true (by omega)]; rfl
theorem ring_c {w : World} {A : Option Addr} {n c : Nat} {l : List Int} (each keep : Int) {r : Bool} (hq : ringB l each keep = r) (hr : Kd.C (Kd.int .i64) w A n l) (hc : n ≤ c) (hl : n < 9223372036854775807) :
    Calls Tryd.prog 40 #[.agg #[.slice A n c, .int .i64 each, .int .i64 keep]] w fun e w' => e = .returned (.int .i64 (if r = true then 0 else 2)) ∧ Below w.heap.size w w' := by
  obtain rfl : l.length = n := hr.1
  subst hq
  obtain ⟨K, hK⟩ := ring_ev l each keep hl
  exact QR.ring_Check.calls K A c l each keep _ w hr hc (hK K (Nat.le_refl _))
def noneB (l : List Int) (each keep : Int) : Bool := decide (l.length = 0 ∧ each = 0 ∧ keep = 0)
theorem none_c {w : World} {A : Option Addr} {n c : Nat} {l : List Int} (each keep : Int) {r : Bool} (hq : noneB l each keep = r) (hr : Kd.C (Kd.int .i64) w A n l) (hc : n ≤ c) :
    Calls Tryd.prog 41 #[.agg #[.slice A n c, .int .i64 each, .int .i64 keep]] w fun e w' => e = .returned (.bool r) ∧ Below w.heap.size w w' := by
  obtain rfl : l.length = n := hr.1
  subst hq
  refine QR.msgs_none.calls A c l each keep _ w hr hc ?_
  unfold QR.msgs_none.f noneB
  by_cases h1 : l.length = 0
  · by_cases h2 : each = 0
    · by_cases h3 : keep = 0 <;> simp [h1, h2, h3]
    · simp [h1, h2]
  · simp [h1]
def withinB (n m : Int) : Bool := decide (0 ≤ n ∧ n ≤ m)
theorem within_c (n m : Int) {r : Bool} (hq : withinB n m = r) (w : World) : Calls Tryd.prog 36 #[.int .i64 n, .int .i64 m] w fun e w' => e = .returned (.bool r) ∧ Below w.heap.size w w' := by
  subst hq
  refine (QR.msgs_within.calls n m (withinB n m) w ?_).mono (fun e w' h => ⟨h.1, h.2.below⟩)
  unfold QR.msgs_within.f withinB
  by_cases h1 : n ≥ 0
  · simp [h1]
  · simp [h1]
theorem within_d (n m : Int) {r : Bool} (hq : withinB n m = r) (w : World) : Calls Tryd.prog 36 #[.int .i64 n, .int .i64 m] w fun e w' => e = .returned (.bool r) ∧ Drawn0 w w' := by
  subst hq
  refine QR.msgs_within.calls n m (withinB n m) w ?_
  unfold QR.msgs_within.f withinB
  by_cases h1 : n ≥ 0
  · simp [h1]
  · simp [h1]
theorem known_d (k : Int) {r : Bool} (hq : decide (1 ≤ k ∧ k ≤ 17) = r) (w : World) : Calls Tryd.prog 35 #[.int .i64 k] w fun e w' => e = .returned (.bool r) ∧ Drawn0 w w' := by
  subst hq
  refine QR.msgs_known.calls k (decide (1 ≤ k ∧ k ≤ 17)) w ?_
  unfold QR.msgs_known.f
  by_cases h1 : k ≥ 1
  · by_cases h2 : k ≤ 17 <;> simp [h1, h2]
  · simp [h1]
/-- an entry as it is laid at first, its bytes aside -/
def zeroB (x : E6) : Bool := decide (x.f0.toList = [] ∧ x.f1.f0 = 0 ∧ x.f1.f1 = 0 ∧ x.f1.f2 = 0 ∧ x.f2.f0 = false)
theorem same0 (x : E6) : sameE x.f0 x.f1.f0 x.f1.f1 x.f1.f2 x.f2.f0 x.f2.f1 ⟨#[]⟩ 0 0 0 false [] = zeroB x := by
  unfold sameE zeroB sameV
  have e0 : (⟨#[]⟩ : ByteArray).toList = [] := by rw [EncC.toList_eq]
  rw [e0]
  by_cases h0 : x.f0.toList = []
  · by_cases h1 : x.f1.f0 = 0
    · by_cases h2 : x.f1.f1 = 0
      · by_cases h3 : x.f1.f2 = 0
        · cases x.f2.f0 <;> simp [h0, h1, h2, h3]
        · simp [h0, h1, h2, h3]
      · simp [h0, h1, h2]
    · simp [h0, h1]
  · simp [h0]
theorem zero_c {w : World} {A : Option Addr} {d : Nat} (x : E6) {r : Bool} (hq : zeroB x = r) (hb : Bytes x.f2.f1) (hr : Kd.C (Kd.int .u8) w A x.f2.f1.length x.f2.f1) (hc : x.f2.f1.length ≤ d) :
    Calls Tryd.prog 39 #[.agg #[.string x.f0, .int .i64 x.f1.f0, .int .i64 x.f1.f1, .int .i64 x.f1.f2, .bool x.f2.f0, .slice A x.f2.f1.length d], .agg #[.string ⟨#[]⟩, .int .i64 0, .int .i64 0, .int .i64 0, .bool false, .slice none 0 0]] w fun e w' => e = .returned (.bool r) ∧ Below w.heap.size w w' :=
  se_c x.f0 x.f1.f0 x.f1.f1 x.f1.f2 x.f2.f0 ⟨#[]⟩ 0 0 0 false ((same0 x).trans hq) hb (by intro y hy; cases hy) hr hc C_empty (Nat.le_refl _)
/-! what may be -/
def a1 (m : Ms) : Bool := decide (1 ≤ m.kind ∧ m.kind ≤ 17) && withinB m.fr 1048575 && withinB m.dst 1048575 && withinB m.ep 1099511627775 && withinB m.op 1099511627775 && withinB m.n 1099511627775
def a2 (m : Ms) : Bool := a1 m && ((hasV m.kind).n || (m.n == 0)) && ((hasV m.kind).f || !m.f) && ((hasV m.kind).l || decide (m.L.length = 0)) && rightB m.L
def a3 (m : Ms) : Bool := if (hasV m.kind).e = true then a2 m && decide (okE m.e) else a2 m && zeroB m.e && decide (m.e.f2.f1.length = 0)
def a4 (m : Ms) : Bool := if (hasV m.kind).r = true then a3 m && ringB m.R m.each m.keep else a3 m && noneB m.R m.each m.keep
def checkM (m : Ms) : Int := if a4 m = true then 0 else 2
end Go.Proofs.YthaoiamgkpkcbaaDoor.Ms
