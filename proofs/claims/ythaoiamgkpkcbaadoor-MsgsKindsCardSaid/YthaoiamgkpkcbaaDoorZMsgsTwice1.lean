/- What an argument that is a tag, a value, an entry reads as. · Helpers on rows that are read: an element's cell, the row's block, a row out of its cells. Conditions: none. · The reader of pack: its block, and the contracts of dead, fail, Failed, Left, End. Conditions: a reader whose bytes fit in memory. -/
import Derived.Test.YthaoiamgkpkcbaaDoorZMsgsTwice0
import Derived.Test.YthaoiamgkpkcbaaDoorRows
import Derived.Test.YthaoiamgkpkcbaaDoorWWords
import Derived.Test.YthaoiamgkpkcbaaDoorWLast
import Derived.Test.YthaoiamgkpkcbaaDoorWMore
import Derived.WalkKit
import Derived.ProofKit
import Derived.OpenShut
import Derived.WalkLawsBesides
import Derived.Lib.Hide
import Derived.Deep.LoopGhost
import Derived.Deep.QuietTactic
import Derived.BigQuiet
import Derived.WideLaws
namespace Go.Proofs.YthaoiamgkpkcbaaDoor.Opn
open Go.RowKit Go.Proofs.YthaoiamgkpkcbaaDoorW.PrintWords
abbrev kTag : Kd (Int × Int × Int) := Kd.pair (Kd.int .i64) (Kd.pair (Kd.int .i64) (Kd.int .i64))
def wInt (n : Int) : Prop := (Lit.int .i64 n).wf = true
def wTag (p : Int × Int × Int) : Prop := wInt p.1 ∧ wInt p.2.1 ∧ wInt p.2.2
theorem opens_tag : Opens Tryd.prog 23 kTag wTag := by
  refine @opens_struct _ _ _ _ _ _ Tryd.underlying23 (by kernel_rfl) ?_
  refine @fopens_cons Tryd.prog _ _ 0 _ _ (Kd.int .i64) (Kd.pair (Kd.int .i64) (Kd.int .i64)) (wInt) (fun q => wInt q.1 ∧ wInt q.2) rfl (by kernel_rfl) ?_ ?_
  · exact @opens_int _ _ _ Tryd.underlying3
  refine @fopens_cons Tryd.prog _ _ 1 _ _ (Kd.int .i64) (Kd.int .i64) (wInt) (wInt) rfl (by kernel_rfl) ?_ ?_
  · exact @opens_int _ _ _ Tryd.underlying3
  exact @fopens_one Tryd.prog _ 2 _ (Kd.int .i64) (wInt) rfl (by kernel_rfl) (@opens_int _ _ _ Tryd.underlying3)
abbrev kVal : Kd (Bool × List Int) := Kd.pair Kd.bool (Kd.slice 5 (Kd.int .u8))
def wBytes (l : List Int) : Prop := l.length ≤ maxLen ∧ l.length * 1 ≤ 140737488351232 ∧ ∀ x ∈ l, (Lit.int .u8 x).wf = true
def wVal (p : Bool × List Int) : Prop := True ∧ wBytes p.2
theorem opens_val : Opens Tryd.prog 26 kVal wVal := by
  refine @opens_struct _ _ _ _ _ _ Tryd.underlying26 (by kernel_rfl) ?_
  refine @fopens_cons Tryd.prog _ _ 0 _ _ (Kd.bool) (Kd.slice 5 (Kd.int .u8)) (fun _ => True) (wBytes) rfl (by kernel_rfl) ?_ ?_
  · exact @opens_bool _ _ Tryd.underlying4
  exact @fopens_one Tryd.prog _ 1 _ (Kd.slice 5 (Kd.int .u8)) (wBytes) rfl (by kernel_rfl) (@opens_slice _ _ _ _ _ _ 1 Tryd.underlying24 (by kernel_rfl) (by kernel_rfl) (@opens_int _ _ _ Tryd.underlying5))
abbrev kEnt : Kd (ByteArray × (Int × Int × Int) × Bool × List Int) := Kd.pair Kd.string (Kd.pair kTag kVal)
def wEnt (p : ByteArray × (Int × Int × Int) × Bool × List Int) : Prop := p.1.size ≤ 140737488351232 ∧ wTag p.2.1 ∧ wVal p.2.2
theorem opens_ent : Opens Tryd.prog 28 kEnt wEnt := by
  refine @opens_struct _ _ _ _ _ _ Tryd.underlying28 (by kernel_rfl) ?_
  refine @fopens_cons Tryd.prog _ _ 0 _ _ (Kd.string) (Kd.pair kTag kVal) (fun s => s.size ≤ 140737488351232) (fun q => wTag q.1 ∧ wVal q.2) rfl (by kernel_rfl) ?_ ?_
  · exact @opens_string _ _ Tryd.underlying9
  refine @fopens_cons Tryd.prog _ _ 1 _ _ (kTag) (kVal) (wTag) (wVal) rfl (by kernel_rfl) ?_ ?_
  · exact @opens_tag
  exact @fopens_one Tryd.prog _ 4 _ (kVal) (wVal) rfl (by kernel_rfl) (@opens_val)
/-- a tag's three numbers -/
theorem tag_cells {w : World} {cs : List Value} {p : Int × Int × Int} (h : kTag.K w p cs) : cs = [.int .i64 p.1, .int .i64 p.2.1, .int .i64 p.2.2] := by
  obtain ⟨_, _, rfl, rfl, _, _, rfl, rfl, rfl⟩ := h
  rfl

theorem val_cells {w : World} {cs : List Value} {p : Bool × List Int} (h : kVal.K w p cs) : ∃ A c, cs = [.bool p.1, .slice A p.2.length c] ∧ p.2.length ≤ c ∧ Kd.C (Kd.int .u8) w A p.2.length p.2 := by
  obtain ⟨_, _, rfl, rfl, A, c, rfl, hc, hC⟩ := h
  exact ⟨A, c, rfl, hc, hC⟩
theorem ent_cells {w : World} {cs : List Value} {p : ByteArray × (Int × Int × Int) × Bool × List Int} (h : kEnt.K w p cs) :
    ∃ A c, cs = [.string p.1, .int .i64 p.2.1.1, .int .i64 p.2.1.2.1, .int .i64 p.2.1.2.2, .bool p.2.2.1, .slice A p.2.2.2.length c] ∧ p.2.2.2.length ≤ c ∧ Kd.C (Kd.int .u8) w A p.2.2.2.length p.2.2.2 := by
  obtain ⟨_, _, rfl, rfl, _, _, rfl, ht, hv⟩ := h
  obtain rfl := tag_cells ht
  obtain ⟨A, c, rfl, hc, hC⟩ := val_cells hv
  exact ⟨A, c, rfl, hc, hC⟩

end Go.Proofs.YthaoiamgkpkcbaaDoor.Opn

namespace Go.Proofs.YthaoiamgkpkcbaaDoor.Hlp
open Go.RowKit Go.Proofs.YthaoiamgkpkcbaaDoorW.PrintWords Go.Proofs.YthaoiamgkpkcbaaDoorW.PrintLast Go.Proofs.YthaoiamgkpkcbaaDoorW.PrintMore
theorem C_at {α : Type} {enc : α → Value} {h1 : ∀ x, (enc x).oneCell' = true} {w : World} {A : Option Addr} {xs : List α} (h : (Kd.scalar enc h1).C w A xs.length xs) (k : Nat) (hk : k < xs.length) :
    ∃ ad, A = some ad ∧ w.cell? (ad.add k) = some (enc xs[k]) := by
  obtain ⟨ad, e, hc⟩ := h.2.2 (by omega)
  obtain ⟨c, hs, hr, hcell⟩ := hc k _ (List.getElem?_eq_getElem hk)
  obtain rfl : c = [enc xs[k]] := hr
  have := hcell 0 _ rfl
  rw [show (Kd.scalar enc h1).sz = 1 from rfl, Nat.mul_one, Nat.add_zero] at this
  exact ⟨ad, e, this⟩
/-- a row that is read, by its block -/
theorem C_block {α : Type} {enc : α → Value} {h1 : ∀ x, (enc x).oneCell' = true} {w : World} {A : Option Addr} {xs : List α} (h : (Kd.scalar enc h1).C w A xs.length xs) (h0 : 0 < xs.length) :
    ∃ b off, A = some ⟨b, off, none⟩ ∧ ∀ (k : Nat) (hk : k < xs.length), w.cell? ⟨b, off + k, none⟩ = some (enc xs[k]) := by
  obtain ⟨ad, rfl, hc⟩ := C_at h 0 h0
  obtain ⟨b, off, sp⟩ := ad
  cases sp with
  | some x => simp [World.cell?, Addr.add] at hc; split at hc <;> simp at hc
  | none =>
    refine ⟨b, off, rfl, fun k hk => ?_⟩
    obtain ⟨ad, he, hc⟩ := C_at h k hk
    injection he with he
    subst he
    rw [← hc]
    unfold Addr.add
    split <;> simp_all
theorem C_mk {α : Type} {enc : α → Value} {h1 : ∀ x, (enc x).oneCell' = true} {w : World} {b off : Nat} {xs : List α} (hm : xs.length ≤ 9223372036854775807) (h : ∀ (k : Nat) (hk : k < xs.length), w.cell? ⟨b, off + k, none⟩ = some (enc xs[k])) :
    (Kd.scalar enc h1).C w (some ⟨b, off, none⟩) xs.length xs := by
  refine ⟨rfl, hm, fun _ => ⟨_, rfl, fun j p hj => ?_⟩⟩
  obtain ⟨hlt, hp⟩ := List.getElem?_eq_some_iff.1 hj
  subst hp
  refine ⟨[enc xs[j]], rfl, rfl, fun i u hu => ?_⟩
  have hi : i = 0 := by
    have := (List.getElem?_eq_some_iff.1 hu).1
    simp at this; exact this
  subst hi
  simp at hu
  subst hu
  rw [show (Kd.scalar enc h1).sz = 1 from rfl, Nat.mul_one, Nat.add_zero, ← h j hlt]
  unfold Addr.add
  split <;> simp_all
theorem C_empty {α : Type} {enc : α → Value} {h1 : ∀ x, (enc x).oneCell' = true} {w : World} {A : Option Addr} : (Kd.scalar enc h1).C w A ([] : List α).length [] := ⟨rfl, by simp, fun h => absurd h (Nat.lt_irrefl 0)⟩
/-- a store into a cell that is not the row's -/
theorem C_set {α : Type} {enc : α → Value} {h1 : ∀ x, (enc x).oneCell' = true} {w : World} {A : Option Addr} {xs : List α} {g i : Nat} {u : Value} (h : (Kd.scalar enc h1).C w A xs.length xs) (hne : ∀ x j, w.cell? ⟨g, j, none⟩ ≠ some (enc x)) :
    (Kd.scalar enc h1).C (w.setCell ⟨g, i, none⟩ u) A xs.length xs := by
  rcases Nat.eq_zero_or_pos xs.length with h0 | h0
  · obtain rfl := List.length_eq_zero_iff.1 h0
    exact C_empty
  · obtain ⟨b, off, rfl, hc⟩ := C_block h h0
    have hb : b ≠ g := by
      rintro rfl
      exact hne _ _ (hc 0 h0)
    refine C_mk h.2.1 fun k hk => ?_
    rw [← hc k hk]
    have : (w.setCell ⟨g, i, none⟩ u).heap[b]? = w.heap[b]? := Below.heap_setCell w _ u b (by simpa using hb)
    simp [World.cell?, this]
/-- the rest of a row -/
theorem C_drop {α : Type} {enc : α → Value} {h1 : ∀ x, (enc x).oneCell' = true} {w : World} {b off : Nat} {xs : List α} (h : (Kd.scalar enc h1).C w (some ⟨b, off, none⟩) xs.length xs) (k : Nat) (hk : k ≤ xs.length) :
    (Kd.scalar enc h1).C w (some ⟨b, off + k, none⟩) (xs.drop k).length (xs.drop k) := by
  rcases Nat.eq_zero_or_pos (xs.drop k).length with h0 | h0
  · rw [List.length_eq_zero_iff.1 h0]; exact C_empty
  · obtain ⟨b', off', he, hc⟩ := C_block h (by rw [List.length_drop] at h0; omega)
    injection he with he
    injection he with e1 e2 _
    subst e1; subst e2
    refine C_mk (by have := h.2.1; rw [List.length_drop]; omega) fun j hj => ?_
    rw [List.length_drop] at hj
    rw [Nat.add_assoc, hc (k + j) (by omega), List.getElem_drop]
/-- a block that was just made is a row -/
theorem C_blk {α : Type} {enc : α → Value} {h1 : ∀ x, (enc x).oneCell' = true} {w : World} {g : Nat} {e : TypeId} {fr : Nat × Nat} {xs : List α} {cs : Array Value} (hm : xs.length ≤ 9223372036854775807) (h : w.heap[g]? = some (.cells cs e fr)) (hcs : cs.toList = xs.map enc) :
    (Kd.scalar enc h1).C w (some ⟨g, 0, none⟩) xs.length xs := by
  refine C_mk hm fun k hk => ?_
  rw [Nat.zero_add, cell_of_row w g k cs e fr h, ← Array.getElem?_toList, hcs]
  simp [hk]
end Go.Proofs.YthaoiamgkpkcbaaDoor.Hlp

namespace Go.Proofs.YthaoiamgkpkcbaaDoor.Pk
open Go.ChangeShapes Go.WideShapes Go.ChangeAt Go.RowKit
open Go.Proofs.YthaoiamgkpkcbaaDoor.Hlp Go.Proofs.YthaoiamgkpkcbaaDoorW.PrintWords Go.Proofs.YthaoiamgkpkcbaaDoorW.PrintLast Go.Proofs.YthaoiamgkpkcbaaDoorW.PrintMore
set_option linter.unusedVariables false
set_option linter.unusedSimpArgs false
theorem ret_i {k : IntKind} {a b : Int} (h : a = b) : Ending.returned (.int k a) = .returned (.int k b) := by rw [h]
theorem ret_b {a b : Bool} (h : a = b) : Ending.returned (.bool a) = .returned (.bool b) := by rw [h]

/-- a block keeps its elements' type -/
theorem typ_set {w : World} {p e : Nat} (a : Addr) (u : Value) (h : ∃ cs fr, w.heap[p]? = some (.cells cs e fr)) : ∃ cs fr, (w.setCell a u).heap[p]? = some (.cells cs e fr) := by
  obtain ⟨cs, fr, h⟩ := h
  by_cases hp : p = a.block
  · subst hp
    have hx : (w.setCell a u).heap[a.block]? = (w.heap[a.block]?).map fun o => match o with | .cells c elem frozen => .cells (if a.spot.isSome = true then c else c.setIfInBounds a.off u) elem frozen | o => o := by
      simp only [World.setCell, Array.getElem?_modify, if_true]
      first | rfl | (congr 1; funext o; cases o <;> rfl)
    rw [h] at hx
    exact ⟨_, _, hx⟩
  · exact ⟨cs, fr, (Below.heap_setCell w a u p hp).trans h⟩
/-- A reader's block: its bytes (a row that is read), what is wrong, whether it is inside of read. -/
structure Rd (w : World) (g : Nat) (b : Option Addr) (c : Nat) (l : List Int) (e : Int) (ins : Bool) : Prop where
  blk : w.heap[g]? = some (.cells #[.slice b l.length c, .int .i64 e, .bool ins] 110 (0, 0))
  row : Kd.C (Kd.int .u8) w b l.length l
  cap : l.length ≤ c
  bytes : ∀ x ∈ l, 0 ≤ x ∧ x < 256
  typ : l ≠ [] → ∀ p o, b = some ⟨p, o, none⟩ → ∃ cs fr, w.heap[p]? = some (.cells cs 5 fr)

section
variable {w : World} {g : Nat} {b : Option Addr} {c : Nat} {l : List Int} {e : Int} {ins : Bool}
theorem Rd.c0 (h : Rd w g b c l e ins) : w.cell? ⟨g, 0, none⟩ = some (.slice b l.length c) := by rw [blk_cell h.blk]; rfl
theorem Rd.c1 (h : Rd w g b c l e ins) : w.cell? ⟨g, 1, none⟩ = some (.int .i64 e) := by rw [blk_cell h.blk]; rfl
theorem Rd.c2 (h : Rd w g b c l e ins) : w.cell? ⟨g, 2, none⟩ = some (.bool ins) := by rw [blk_cell h.blk]; rfl
theorem Rd.f (h : Rd w g b c l e ins) (i : Nat) : w.frozen? ⟨g, i, none⟩ = false := blk_frozen h.blk i
end

theorem Rd.noByte {w : World} {g : Nat} {b : Option Addr} {c : Nat} {l : List Int} {e : Int} {ins : Bool} (h : Rd w g b c l e ins) (x : Int) (j : Nat) : w.cell? ⟨g, j, none⟩ ≠ some (.int .u8 x) := by
  rw [blk_cell h.blk]
  match j with
  | 0 => simp
  | 1 => simp
  | 2 => simp
  | j + 3 => simp
/-- what was wrong is told -/
theorem Rd.wrong {w : World} {g : Nat} {b : Option Addr} {c : Nat} {l : List Int} {e : Int} {ins : Bool} (h : Rd w g b c l e ins) (e' : Int) : Rd (w.setCell ⟨g, 1, none⟩ (.int .i64 e')) g b c l e' ins where
  blk := by rw [blk_set h.blk]; rfl
  row := C_set h.row h.noByte
  cap := h.cap
  bytes := h.bytes
  typ := fun h0 p o x => typ_set _ _ (h.typ h0 p o x)
/-- the rest of the bytes is what is left -/
theorem Rd.rest {w : World} {g bb off : Nat} {c : Nat} {l : List Int} {e : Int} {ins : Bool} (h : Rd w g (some ⟨bb, off, none⟩) c l e ins) (k : Nat) (hk : k ≤ l.length) :
    Rd (w.setCell ⟨g, 0, none⟩ (.slice (some ⟨bb, off + k, none⟩) (l.drop k).length (c - k))) g (some ⟨bb, off + k, none⟩) (c - k) (l.drop k) e ins where
  blk := by rw [blk_set h.blk]; rfl
  row := C_set (C_drop h.row k hk) h.noByte
  cap := by have := h.cap; rw [List.length_drop]; omega
  bytes := fun x hx => h.bytes x (List.mem_of_mem_drop hx)
  typ := fun h0 p o x => by
    injection x with x; injection x with x1 _; subst x1
    exact typ_set _ _ (h.typ (by rintro rfl; simp at h0) bb off rfl)
/-- .. or the slice as a whole, where its room is used up -/
theorem Rd.none {w : World} {g : Nat} {b : Option Addr} {c : Nat} {l : List Int} {e : Int} {ins : Bool} (h : Rd w g b c l e ins) (c' : Nat) :
    Rd (w.setCell ⟨g, 0, none⟩ (.slice b 0 c')) g b c' [] e ins where
  blk := by rw [blk_set h.blk]; rfl
  row := C_empty
  cap := Nat.zero_le _
  bytes := by simp
  typ := fun h0 => absurd rfl h0
theorem upd_set (w : World) (g i : Nat) (u : Value) : w.grownBy (w.setCell ⟨g, i, none⟩ u) (some g) :=
  ⟨rfl, rfl, rfl, by simp [World.setCell], fun k _ hk => Below.heap_setCell w _ u k (by intro e; exact hk (by rw [e]))⟩
theorem upd_refl (w : World) (row : Option Nat) : w.grownBy w row := ⟨rfl, rfl, rfl, Nat.le_refl _, fun _ _ _ => rfl⟩
theorem upd_trans {w w1 w2 : World} {row : Option Nat} (h : w.grownBy w1 row) (k : w1.grownBy w2 row) : w.grownBy w2 row :=
  ⟨k.os.trans h.os, k.tape.trans h.tape, k.output.trans h.output, Nat.le_trans h.size k.size, fun i hi hr => (k.block i (Nat.lt_of_lt_of_le hi h.size) hr).trans (h.block i hi hr)⟩
theorem upd_drewN {w w1 : World} {row : Option Nat} (h : w.grownBy w1 row) (n : Nat) : w.grownBy (w1.drewN n) row := ⟨h.os, h.tape, h.output, h.size, h.block⟩

/-- dead: was anything wrong? -/
theorem dead_ {w : World} {g : Nat} {b : Option Addr} {c : Nat} {l : List Int} {e : Int} {ins : Bool} (h : Rd w g b c l e ins) :
    Calls Tryd.prog 77 #[.pointer (some ⟨g, 0, none⟩)] w fun x w' => x = .returned (.bool (e != 0)) ∧ w = w' := by
  have h1 := h.c1
  go_enter Tryd.func77, Tryd.ntmps77
  go_wp2
  go_ret
  exact ⟨rfl, rfl⟩
/-- fail, outside of read -/
theorem fail_ {w : World} {g : Nat} {b : Option Addr} {c : Nat} {l : List Int} {e : Int} (h : Rd w g b c l e false) (e' : Int) :
    Calls Tryd.prog 79 #[.pointer (some ⟨g, 0, none⟩), .int .i64 e'] w fun x w' => x = .returned (.tuple #[]) ∧ w' = w.setCell ⟨g, 1, none⟩ (.int .i64 e') := by
  have h1 := h.c1
  have h2 := h.c2
  have f1 := h.f 1
  have h3 := (h.wrong e').c2
  go_enter Tryd.func79, Tryd.ntmps79
  go_wp2
  go_end0
  exact ⟨rfl, rfl⟩
theorem failed_ {w : World} {g : Nat} {b : Option Addr} {c : Nat} {l : List Int} {e : Int} {ins : Bool} (h : Rd w g b c l e ins) :
    Calls Tryd.prog 81 #[.pointer (some ⟨g, 0, none⟩)] w fun x w' => x = .returned (.bool (e != 0)) ∧ w = w' := by
  go_enter Tryd.func81, Tryd.ntmps81
  go_wp2_with (go_at_call 77; refine (dead_ h).mono ?_; rintro e w' ⟨rfl, rfl⟩)
  go_ret
  exact ⟨rfl, rfl⟩
/-- what End tells -/
def endP (l : List Int) (e : Int) : Int := if e = 0 then (if l = [] then 0 else 11) else e
theorem end_ {w : World} {g : Nat} {b : Option Addr} {c : Nat} {l : List Int} {e : Int} {ins : Bool} (h : Rd w g b c l e ins) :
    Calls Tryd.prog 48 #[.pointer (some ⟨g, 0, none⟩)] w fun x w' => x = .returned (.int .i64 (endP l e)) ∧ w = w' := by
  have h0 := h.c0
  have h1 := h.c1
  have hm := h.row.2.1
  unfold endP
  by_cases he : e = 0
  · rw [if_pos he]
    subst he
    by_cases hl : l = []
    · rw [if_pos hl]
      subst hl
      go_enter Tryd.func48, Tryd.ntmps48
      go_wp2
      go_ret
      exact ⟨rfl, rfl⟩
    · rw [if_neg hl]
      have hp : 0 < l.length := List.length_pos_iff.2 hl
      have t := decide_eq_true hp
      go_enter Tryd.func48, Tryd.ntmps48
      go_wp2
      go_ret
      exact ⟨rfl, rfl⟩
  · rw [if_neg he]
    have t : (e != 0) = true := bne_iff_ne.2 he
    go_enter Tryd.func48, Tryd.ntmps48
    go_wp2
    go_ret
    exact ⟨rfl, rfl⟩
theorem end_nil {w : World} : Calls Tryd.prog 48 #[.pointer none] w fun x w' => x = .returned (.int .i64 1) ∧ w = w' := by
  go_enter Tryd.func48, Tryd.ntmps48
  go_wp2
  go_ret
  exact ⟨rfl, rfl⟩
end Go.Proofs.YthaoiamgkpkcbaaDoor.Pk
