/- What an argument that is a tag, a value, an entry reads as. · Helpers on rows that are read: an element's cell, the row's block, a row out of its cells. Conditions: none. · The reader of pack: its block, and the contracts of dead, fail, Failed, Left, End. Conditions: a reader whose bytes fit in memory. · A word out of its bytes, the highest first; 'u<<8 | c' as a sum. Conditions: bytes, words of 64 bits. · The contract of the reader's peek: the number at the place. Conditions: a reader whose bytes fit in memory. · Words of the kit's print (print.sh), those that are named here. · Words of the kit's print (print.sh), those that are named here. · Words of the kit's print (print.sh), those that are named here. · Words of the kit's print (print.sh), those that are named here. · Words of the kit's print (print.sh), those that are named here. · Words of the kit's print (print.sh), those that are named here. · Words of the kit's print (print.sh), those that are named here. · Words of the kit's print (print.sh), those that are named here. · Words of the kit's print (print.sh), those that are named here. · A number's bytes: its bytes, the highest first, behind their count; what is read of them. Plain: no program. Conditions: numbers of 64 bits. · Written by a program of this session over the kit's print: functions and their contracts. · Written by a program of this session over the kit's print: functions and their contracts. · Written by a program of this session over the kit's print: functions and their contracts. -/
import Derived.Test.YthaoiamgkpkcbaaDoorYMsgsWrites1
import Derived.Test.YthaoiamgkpkcbaaDoorRows
import Derived.Test.YthaoiamgkpkcbaaDoorYMsgsWrites0
import Derived.WalkKit
import Derived.ProofKit
import Derived.OpenShut
import Derived.WalkLawsBesides
import Derived.Lib.Hide
import Derived.Deep.LoopGhost
import Derived.Deep.QuietTactic
import Derived.BigQuiet
import Derived.WideLaws
import Derived.Laws.BitsAllLaws
import Derived.Laws.Bits64
import Derived.Laws.StructEq
import Derived.IntWalk
import Derived.RowKit
import Derived.Laws.Wrap64
import Derived.Test.YthaoiamgkpkcbaaDoorProg
import Derived.Below
import Derived.Deep.Draws
import Derived.Deep.AppendLies
import Derived.Maps.AppendAt
import Derived.OwnWalk
import Derived.Laws.BytesArg
import Derived.Laws.MakeOwn
import Derived.Laws.OwnMore
import Derived.Deep.OwnRows
import Derived.Tactics
import Derived.Lib.ConvBytes
import Derived.Laws.Slices
import Derived.KernelRfl
import Derived.RowKit3
import Derived.Deep.DeepCutAuto
import Derived.Deep.CutBlock
import Derived.Deep.RegionHeld3
import Derived.Laws.Rows
import Derived.Lib.AppendStr
import Derived.ArgAppend
import Derived.Laws.IdiomCopy
import Derived.OrdersHeld
import Derived.Laws.BitsLemmas

namespace Go.Proofs.YthaoiamgkpkcbaaDoor.Opn
open Go.RowKit Go.Proofs.YthaoiamgkpkcbaaDoorW.PrintWords
abbrev kTag : Kd (Int × Int × Int) := Kd.pair (Kd.int .i64) (Kd.pair (Kd.int .i64) (Kd.int .i64))
def wInt (n : Int) : Prop := (Lit.int .i64 n).wf = true
def wTag (p : Int × Int × Int) : Prop := wInt p.1 ∧ wInt p.2.1 ∧ wInt p.2.2
theorem opens_tag : Opens Tryd.prog 23 kTag wTag := by
  refine @opens_struct _ _ _ _ _ _ Tryd.underlying23 (by kernel_rfl) ?_
  refine @fopens_cons Tryd.prog _ _ 0 _ _ (Kd.int .i64) (Kd.pair (Kd.int .i64) (Kd.int .i64)) (wInt) (fun q => wInt q.1 ∧ wInt q.2) rfl (by kernel_rfl) ?_ ?_
  · exact @opens_int _ _ _ Tryd.underlying3
  refine @fopens_cons Tryd.prog _ _ 1 _ _ (Kd.int .i64) (Kd.int .i64) (wInt) (wInt) rfl (by kernel_rfl) ?_ ?_
  · exact @opens_int _ _ _ Tryd.underlying3
  exact @fopens_one Tryd.prog _ 2 _ (Kd.int .i64) (wInt) rfl (by kernel_rfl) (@opens_int _ _ _ Tryd.underlying3)
abbrev kVal : Kd (Bool × List Int) := Kd.pair Kd.bool (Kd.slice 5 (Kd.int .u8))
def wBytes (l : List Int) : Prop := l.length ≤ maxLen ∧ l.length * 1 ≤ 140737488351232 ∧ ∀ x ∈ l, (Lit.int .u8 x).wf = true
def wVal (p : Bool × List Int) : Prop := True ∧ wBytes p.2
theorem opens_val : Opens Tryd.prog 26 kVal wVal := by
  refine @opens_struct _ _ _ _ _ _ Tryd.underlying26 (by kernel_rfl) ?_
  refine @fopens_cons Tryd.prog _ _ 0 _ _ (Kd.bool) (Kd.slice 5 (Kd.int .u8)) (fun _ => True) (wBytes) rfl (by kernel_rfl) ?_ ?_
  · exact @opens_bool _ _ Tryd.underlying4
  exact @fopens_one Tryd.prog _ 1 _ (Kd.slice 5 (Kd.int .u8)) (wBytes) rfl (by kernel_rfl) (@opens_slice _ _ _ _ _ _ 1 Tryd.underlying24 (by kernel_rfl) (by kernel_rfl) (@opens_int _ _ _ Tryd.underlying5))
end Go.Proofs.YthaoiamgkpkcbaaDoor.Opn
namespace Go.Proofs.YthaoiamgkpkcbaaDoor.Hlp
open Go.RowKit Go.Proofs.YthaoiamgkpkcbaaDoorW.PrintWords Go.Proofs.YthaoiamgkpkcbaaDoorW.PrintLast Go.Proofs.YthaoiamgkpkcbaaDoorW.PrintMore
theorem C_at {α : Type} {enc : α → Value} {h1 : ∀ x, (enc x).oneCell' = true} {w : World} {A : Option Addr} {xs : List α} (h : (Kd.scalar enc h1).C w A xs.length xs) (k : Nat) (hk : k < xs.length) :
    ∃ ad, A = some ad ∧ w.cell? (ad.add k) = some (enc xs[k]) := by
  obtain ⟨ad, e, hc⟩ := h.2.2 (by omega)
  obtain ⟨c, hs, hr, hcell⟩ := hc k _ (List.getElem?_eq_getElem hk)
  obtain rfl : c = [enc xs[k]] := hr
  have := hcell 0 _ rfl
  rw [show (Kd.scalar enc h1).sz = 1 from rfl, Nat.mul_one, Nat.add_zero] at this
  exact ⟨ad, e, this⟩
/-- a row that is read, by its block -/
theorem C_block {α : Type} {enc : α → Value} {h1 : ∀ x, (enc x).oneCell' = true} {w : World} {A : Option Addr} {xs : List α} (h : (Kd.scalar enc h1).C w A xs.length xs) (h0 : 0 < xs.length) :
    ∃ b off, A = some ⟨b, off, none⟩ ∧ ∀ (k : Nat) (hk : k < xs.length), w.cell? ⟨b, off + k, none⟩ = some (enc xs[k]) := by
  obtain ⟨ad, rfl, hc⟩ := C_at h 0 h0
  obtain ⟨b, off, sp⟩ := ad
  cases sp with
  | some x => simp [World.cell?, Addr.add] at hc; split at hc <;> simp at hc
  | none =>
    refine ⟨b, off, rfl, fun k hk => ?_⟩
    obtain ⟨ad, he, hc⟩ := C_at h k hk
    injection he with he
    subst he
    rw [← hc]
    unfold Addr.add
    split <;> simp_all
theorem C_mk {α : Type} {enc : α → Value} {h1 : ∀ x, (enc x).oneCell' = true} {w : World} {b off : Nat} {xs : List α} (hm : xs.length ≤ 9223372036854775807) (h : ∀ (k : Nat) (hk : k < xs.length), w.cell? ⟨b, off + k, none⟩ = some (enc xs[k])) :
    (Kd.scalar enc h1).C w (some ⟨b, off, none⟩) xs.length xs := by
  refine ⟨rfl, hm, fun _ => ⟨_, rfl, fun j p hj => ?_⟩⟩
  obtain ⟨hlt, hp⟩ := List.getElem?_eq_some_iff.1 hj
  subst hp
  refine ⟨[enc xs[j]], rfl, rfl, fun i u hu => ?_⟩
  have hi : i = 0 := by
    have := (List.getElem?_eq_some_iff.1 hu).1
    simp at this; exact this
  subst hi
  simp at hu
  subst hu
  rw [show (Kd.scalar enc h1).sz = 1 from rfl, Nat.mul_one, Nat.add_zero, ← h j hlt]
  unfold Addr.add
  split <;> simp_all
theorem C_empty {α : Type} {enc : α → Value} {h1 : ∀ x, (enc x).oneCell' = true} {w : World} {A : Option Addr} : (Kd.scalar enc h1).C w A ([] : List α).length [] := ⟨rfl, by simp, fun h => absurd h (Nat.lt_irrefl 0)⟩
/-- a store into a cell that is not the row's -/
theorem C_set {α : Type} {enc : α → Value} {h1 : ∀ x, (enc x).oneCell' = true} {w : World} {A : Option Addr} {xs : List α} {g i : Nat} {u : Value} (h : (Kd.scalar enc h1).C w A xs.length xs) (hne : ∀ x j, w.cell? ⟨g, j, none⟩ ≠ some (enc x)) :
    (Kd.scalar enc h1).C (w.setCell ⟨g, i, none⟩ u) A xs.length xs := by
  rcases Nat.eq_zero_or_pos xs.length with h0 | h0
  · obtain rfl := List.length_eq_zero_iff.1 h0
    exact C_empty
  · obtain ⟨b, off, rfl, hc⟩ := C_block h h0
    have hb : b ≠ g := by
      rintro rfl
      exact hne _ _ (hc 0 h0)
    refine C_mk h.2.1 fun k hk => ?_
    rw [← hc k hk]
    have : (w.setCell ⟨g, i, none⟩ u).heap[b]? = w.heap[b]? := Below.heap_setCell w _ u b (by simpa using hb)
    simp [World.cell?, this]
/-- the rest of a row -/
theorem C_drop {α : Type} {enc : α → Value} {h1 : ∀ x, (enc x).oneCell' = true} {w : World} {b off : Nat} {xs : List α} (h : (Kd.scalar enc h1).C w (some ⟨b, off, none⟩) xs.length xs) (k : Nat) (hk : k ≤ xs.length) :
    (Kd.scalar enc h1).C w (some ⟨b, off + k, none⟩) (xs.drop k).length (xs.drop k) := by
  rcases Nat.eq_zero_or_pos (xs.drop k).length with h0 | h0
  · rw [List.length_eq_zero_iff.1 h0]; exact C_empty
  · obtain ⟨b', off', he, hc⟩ := C_block h (by rw [List.length_drop] at h0; omega)
    injection he with he
    injection he with e1 e2 _
    subst e1; subst e2
    refine C_mk (by have := h.2.1; rw [List.length_drop]; omega) fun j hj => ?_
    rw [List.length_drop] at hj
    rw [Nat.add_assoc, hc (k + j) (by omega), List.getElem_drop]
/-- a block that was just made is a row -/
theorem C_blk {α : Type} {enc : α → Value} {h1 : ∀ x, (enc x).oneCell' = true} {w : World} {g : Nat} {e : TypeId} {fr : Nat × Nat} {xs : List α} {cs : Array Value} (hm : xs.length ≤ 9223372036854775807) (h : w.heap[g]? = some (.cells cs e fr)) (hcs : cs.toList = xs.map enc) :
    (Kd.scalar enc h1).C w (some ⟨g, 0, none⟩) xs.length xs := by
  refine C_mk hm fun k hk => ?_
  rw [Nat.zero_add, cell_of_row w g k cs e fr h, ← Array.getElem?_toList, hcs]
  simp [hk]
end Go.Proofs.YthaoiamgkpkcbaaDoor.Hlp
namespace Go.Proofs.YthaoiamgkpkcbaaDoor.Pk
open Go.ChangeShapes Go.WideShapes Go.ChangeAt Go.RowKit
open Go.Proofs.YthaoiamgkpkcbaaDoor.Hlp Go.Proofs.YthaoiamgkpkcbaaDoorW.PrintWords Go.Proofs.YthaoiamgkpkcbaaDoorW.PrintLast Go.Proofs.YthaoiamgkpkcbaaDoorW.PrintMore
set_option linter.unusedVariables false
set_option linter.unusedSimpArgs false
/-- a block keeps its elements' type -/
theorem typ_set {w : World} {p e : Nat} (a : Addr) (u : Value) (h : ∃ cs fr, w.heap[p]? = some (.cells cs e fr)) : ∃ cs fr, (w.setCell a u).heap[p]? = some (.cells cs e fr) := by
  obtain ⟨cs, fr, h⟩ := h
  by_cases hp : p = a.block
  · subst hp
    have hx : (w.setCell a u).heap[a.block]? = (w.heap[a.block]?).map fun o => match o with | .cells c elem frozen => .cells (if a.spot.isSome = true then c else c.setIfInBounds a.off u) elem frozen | o => o := by
      simp only [World.setCell, Array.getElem?_modify, if_true]
      first | rfl | (congr 1; funext o; cases o <;> rfl)
    rw [h] at hx
    exact ⟨_, _, hx⟩
  · exact ⟨cs, fr, (Below.heap_setCell w a u p hp).trans h⟩
/-- A reader's block: its bytes (a row that is read), what is wrong, whether it is inside of read. -/
structure Rd (w : World) (g : Nat) (b : Option Addr) (c : Nat) (l : List Int) (e : Int) (ins : Bool) : Prop where
  blk : w.heap[g]? = some (.cells #[.slice b l.length c, .int .i64 e, .bool ins] 110 (0, 0))
  row : Kd.C (Kd.int .u8) w b l.length l
  cap : l.length ≤ c
  bytes : ∀ x ∈ l, 0 ≤ x ∧ x < 256
  typ : l ≠ [] → ∀ p o, b = some ⟨p, o, none⟩ → ∃ cs fr, w.heap[p]? = some (.cells cs 5 fr)
section
variable {w : World} {g : Nat} {b : Option Addr} {c : Nat} {l : List Int} {e : Int} {ins : Bool}
theorem Rd.c0 (h : Rd w g b c l e ins) : w.cell? ⟨g, 0, none⟩ = some (.slice b l.length c) := by rw [blk_cell h.blk]; rfl
theorem Rd.c1 (h : Rd w g b c l e ins) : w.cell? ⟨g, 1, none⟩ = some (.int .i64 e) := by rw [blk_cell h.blk]; rfl
theorem Rd.c2 (h : Rd w g b c l e ins) : w.cell? ⟨g, 2, none⟩ = some (.bool ins) := by rw [blk_cell h.blk]; rfl
theorem Rd.f (h : Rd w g b c l e ins) (i : Nat) : w.frozen? ⟨g, i, none⟩ = false := blk_frozen h.blk i
end
theorem Rd.noByte {w : World} {g : Nat} {b : Option Addr} {c : Nat} {l : List Int} {e : Int} {ins : Bool} (h : Rd w g b c l e ins) (x : Int) (j : Nat) : w.cell? ⟨g, j, none⟩ ≠ some (.int .u8 x) := by
  rw [blk_cell h.blk]
  match j with
  | 0 => simp
  | 1 => simp
  | 2 => simp
  | j + 3 => simp
/-- what was wrong is told -/
theorem Rd.wrong {w : World} {g : Nat} {b : Option Addr} {c : Nat} {l : List Int} {e : Int} {ins : Bool} (h : Rd w g b c l e ins) (e' : Int) : Rd (w.setCell ⟨g, 1, none⟩ (.int .i64 e')) g b c l e' ins where
  blk := by rw [blk_set h.blk]; rfl
  row := C_set h.row h.noByte
  cap := h.cap
  bytes := h.bytes
  typ := fun h0 p o x => typ_set _ _ (h.typ h0 p o x)
/-- the rest of the bytes is what is left -/
theorem Rd.rest {w : World} {g bb off : Nat} {c : Nat} {l : List Int} {e : Int} {ins : Bool} (h : Rd w g (some ⟨bb, off, none⟩) c l e ins) (k : Nat) (hk : k ≤ l.length) :
    Rd (w.setCell ⟨g, 0, none⟩ (.slice (some ⟨bb, off + k, none⟩) (l.drop k).length (c - k))) g (some ⟨bb, off + k, none⟩) (c - k) (l.drop k) e ins where
  blk := by rw [blk_set h.blk]; rfl
  row := C_set (C_drop h.row k hk) h.noByte
  cap := by have := h.cap; rw [List.length_drop]; omega
  bytes := fun x hx => h.bytes x (List.mem_of_mem_drop hx)
  typ := fun h0 p o x => by
    injection x with x; injection x with x1 _; subst x1
    exact typ_set _ _ (h.typ (by rintro rfl; simp at h0) bb off rfl)
/-- .. or the slice as a whole, where its room is used up -/
theorem Rd.none {w : World} {g : Nat} {b : Option Addr} {c : Nat} {l : List Int} {e : Int} {ins : Bool} (h : Rd w g b c l e ins) (c' : Nat) :
    Rd (w.setCell ⟨g, 0, none⟩ (.slice b 0 c')) g b c' [] e ins where
  blk := by rw [blk_set h.blk]; rfl
  row := C_empty
  cap := Nat.zero_le _
  bytes := by simp
  typ := fun h0 => absurd rfl h0
theorem upd_set (w : World) (g i : Nat) (u : Value) : w.grownBy (w.setCell ⟨g, i, none⟩ u) (some g) :=
  ⟨rfl, rfl, rfl, by simp [World.setCell], fun k _ hk => Below.heap_setCell w _ u k (by intro e; exact hk (by rw [e]))⟩
theorem upd_refl (w : World) (row : Option Nat) : w.grownBy w row := ⟨rfl, rfl, rfl, Nat.le_refl _, fun _ _ _ => rfl⟩
theorem upd_trans {w w1 w2 : World} {row : Option Nat} (h : w.grownBy w1 row) (k : w1.grownBy w2 row) : w.grownBy w2 row :=
  ⟨k.os.trans h.os, k.tape.trans h.tape, k.output.trans h.output, Nat.le_trans h.size k.size, fun i hi hr => (k.block i (Nat.lt_of_lt_of_le hi h.size) hr).trans (h.block i hi hr)⟩
/-- dead: was anything wrong? -/
theorem dead_ {w : World} {g : Nat} {b : Option Addr} {c : Nat} {l : List Int} {e : Int} {ins : Bool} (h : Rd w g b c l e ins) :
    Calls Tryd.prog 77 #[.pointer (some ⟨g, 0, none⟩)] w fun x w' => x = .returned (.bool (e != 0)) ∧ w = w' := by
  have h1 := h.c1
  go_enter Tryd.func77, Tryd.ntmps77
  go_wp2
  go_ret
  exact ⟨rfl, rfl⟩
/-- fail, outside of read -/
theorem fail_ {w : World} {g : Nat} {b : Option Addr} {c : Nat} {l : List Int} {e : Int} (h : Rd w g b c l e false) (e' : Int) :
    Calls Tryd.prog 79 #[.pointer (some ⟨g, 0, none⟩), .int .i64 e'] w fun x w' => x = .returned (.tuple #[]) ∧ w' = w.setCell ⟨g, 1, none⟩ (.int .i64 e') := by
  have h1 := h.c1
  have h2 := h.c2
  have f1 := h.f 1
  have h3 := (h.wrong e').c2
  go_enter Tryd.func79, Tryd.ntmps79
  go_wp2
  go_end0
  exact ⟨rfl, rfl⟩
theorem failed_ {w : World} {g : Nat} {b : Option Addr} {c : Nat} {l : List Int} {e : Int} {ins : Bool} (h : Rd w g b c l e ins) :
    Calls Tryd.prog 81 #[.pointer (some ⟨g, 0, none⟩)] w fun x w' => x = .returned (.bool (e != 0)) ∧ w = w' := by
  go_enter Tryd.func81, Tryd.ntmps81
  go_wp2_with (go_at_call 77; refine (dead_ h).mono ?_; rintro e w' ⟨rfl, rfl⟩)
  go_ret
  exact ⟨rfl, rfl⟩
/-- what End tells -/
def endP (l : List Int) (e : Int) : Int := if e = 0 then (if l = [] then 0 else 11) else e
theorem end_ {w : World} {g : Nat} {b : Option Addr} {c : Nat} {l : List Int} {e : Int} {ins : Bool} (h : Rd w g b c l e ins) :
    Calls Tryd.prog 48 #[.pointer (some ⟨g, 0, none⟩)] w fun x w' => x = .returned (.int .i64 (endP l e)) ∧ w = w' := by
  have h0 := h.c0
  have h1 := h.c1
  have hm := h.row.2.1
  unfold endP
  by_cases he : e = 0
  · rw [if_pos he]
    subst he
    by_cases hl : l = []
    · rw [if_pos hl]
      subst hl
      go_enter Tryd.func48, Tryd.ntmps48
      go_wp2
      go_ret
      exact ⟨rfl, rfl⟩
    · rw [if_neg hl]
      have hp : 0 < l.length := List.length_pos_iff.2 hl
      have t := decide_eq_true hp
      go_enter Tryd.func48, Tryd.ntmps48
      go_wp2
      go_ret
      exact ⟨rfl, rfl⟩
  · rw [if_neg he]
    have t : (e != 0) = true := bne_iff_ne.2 he
    go_enter Tryd.func48, Tryd.ntmps48
    go_wp2
    go_ret
    exact ⟨rfl, rfl⟩
end Go.Proofs.YthaoiamgkpkcbaaDoor.Pk
namespace Go.Proofs.YthaoiamgkpkcbaaDoor.Wrd
open Go
theorem or_byte {u c : Int} (h0 : 0 ≤ u) (h1 : u < 72057594037927936) (h2 : 0 ≤ c) (h3 : c < 256) : bits .or .u64 (u * 256) c = u * 256 + c := by
  obtain ⟨U, rfl⟩ := Int.eq_ofNat_of_zero_le h0
  obtain ⟨C, rfl⟩ := Int.eq_ofNat_of_zero_le h2
  have := u64_or_nat (U * 256) C (by omega) (by omega)
  have e : (((U * 256 : Nat)) : Int) = (U : Int) * 256 := by omega
  rw [e] at this
  rw [this]
  have h := Nat.two_pow_add_eq_or_of_lt (i := 8) (b := C) (by omega) U
  rw [show U * 256 = 2 ^ 8 * U from by omega, ← h]
  omega
/-- a word out of its bytes, the highest first -/
def wordOf (l : List Int) : Int := l.foldl (fun u c => u * 256 + c) 0
theorem wordOf_snoc (l : List Int) (c : Int) : wordOf (l ++ [c]) = wordOf l * 256 + c := by unfold wordOf; rw [List.foldl_append]; rfl
theorem wordFrom_bd : ∀ (l : List Int) (a : Int) (n : Nat), 0 ≤ a → a < 256 ^ n → (∀ x ∈ l, 0 ≤ x ∧ x < 256) → 0 ≤ l.foldl (fun u c => u * 256 + c) a ∧ l.foldl (fun u c => u * 256 + c) a < 256 ^ (n + l.length)
  | [], a, n, h0, h1, _ => ⟨h0, h1⟩
  | c :: l, a, n, h0, h1, h => by
    obtain ⟨h3, h4⟩ := h c List.mem_cons_self
    have := wordFrom_bd l (a * 256 + c) (n + 1) (by omega) (by rw [Int.pow_succ]; omega) (fun x hx => h x (List.mem_cons_of_mem _ hx))
    rw [List.foldl_cons, List.length_cons, show n + (l.length + 1) = n + 1 + l.length from by omega]
    exact this
theorem wordOf_bd (l : List Int) (h : ∀ x ∈ l, 0 ≤ x ∧ x < 256) : 0 ≤ wordOf l ∧ wordOf l < 256 ^ l.length := by
  have := wordFrom_bd l 0 0 (by omega) (by decide) h
  rwa [Nat.zero_add] at this
end Go.Proofs.YthaoiamgkpkcbaaDoor.Wrd
namespace Go.Proofs.YthaoiamgkpkcbaaDoor.Pk
open Go.ChangeShapes Go.WideShapes Go.ChangeAt Go.RowKit
open Go.Proofs.YthaoiamgkpkcbaaDoor.Hlp Go.Proofs.YthaoiamgkpkcbaaDoor.Wrd Go.Proofs.YthaoiamgkpkcbaaDoorW.PrintWords Go.Proofs.YthaoiamgkpkcbaaDoorW.PrintLast Go.Proofs.YthaoiamgkpkcbaaDoorW.PrintMore
set_option linter.unusedVariables false
set_option linter.unusedSimpArgs false
/-- the number at the begin: it, the bytes that it takes, what is wrong -/
def peekP : List Int → Int × Int × Int
  | [] => (0, 0, 12)
  | k :: r => if 8 < k then (0, 0, 11) else if (r.length : Int) < k then (0, 0, 12) else if 0 < k ∧ r.getD 0 0 = 0 then (0, 0, 11) else (wrap64 (wordOf (r.take k.toNat)), 1 + k, 0)
theorem peekP_cons (k : Int) (r : List Int) : peekP (k :: r) = if 8 < k then (0, 0, 11) else if (r.length : Int) < k then (0, 0, 12) else if 0 < k ∧ r.getD 0 0 = 0 then (0, 0, 11) else (wrap64 (wordOf (r.take k.toNat)), 1 + k, 0) := rfl
def peekV (l : List Int) : Value := .tuple #[.int .i64 (peekP l).1, .int .i64 (peekP l).2.1, .int .i64 (peekP l).2.2]
theorem peekV_of {l : List Int} {a b c : Int} (h : peekP l = (a, b, c)) : peekV l = .tuple #[.int .i64 a, .int .i64 b, .int .i64 c] := by unfold peekV; rw [h]
set_option maxRecDepth 100000 in
set_option maxHeartbeats 2000000 in
theorem peek_ {w : World} {g : Nat} {b : Option Addr} {c : Nat} {l : List Int} {e : Int} {ins : Bool} (h : Rd w g b c l e ins) :
    Calls Tryd.prog 78 #[.pointer (some ⟨g, 0, none⟩)] w fun x w' => x = .returned (peekV l) ∧ w = w' := by
  have h0 := h.c0
  have hm := h.row.2.1
  cases l with
  | nil =>
    have V := Lib.hid (peekV_of (rfl : peekP [] = (0, 0, 12)))
    go_enter Tryd.func78, Tryd.ntmps78
    go_wp2
    go_ret3
    exact ⟨by rw [V.out]; rfl, rfl⟩
  | cons k r =>
    obtain ⟨bb, off, rfl, hc⟩ := C_block h.row (by simp)
    have hc0 := hc 0 (by simp)
    rw [List.getElem_cons_zero, Nat.add_zero] at hc0
    have hcap := h.cap
    obtain ⟨hk0, hk1⟩ := h.bytes k List.mem_cons_self
    have HB := Aside0.mk (fun x hx => h.bytes x (List.mem_cons_of_mem k hx))
    have HC := Aside0.mk hc
    simp only [List.length_cons] at h0 hm hcap
    clear hc h
    by_cases h8 : 8 < k
    · have V := Lib.hid (peekV_of (show peekP (k :: r) = (0, 0, 11) by rw [peekP_cons, if_pos h8]))
      have t := decide_eq_true h8
      go_enter Tryd.func78, Tryd.ntmps78
      go_wp2
      go_ret3
      exact ⟨by rw [V.out]; rfl, rfl⟩
    have t := decide_eq_false h8
    by_cases hs : (r.length : Int) < k
    · have V := Lib.hid (peekV_of (show peekP (k :: r) = (0, 0, 12) by rw [peekP_cons, if_neg h8, if_pos hs]))
      have t2 : decide ((r.length : Int) + 1 ≤ k) = true := decide_eq_true (by omega)
      go_enter Tryd.func78, Tryd.ntmps78
      go_wp2
      go_ret3
      exact ⟨by rw [V.out]; rfl, rfl⟩
    have t2 : decide ((r.length : Int) + 1 ≤ k) = false := decide_eq_false (by omega)
    by_cases hz : 0 < k ∧ r.getD 0 0 = 0
    · have V := Lib.hid (peekV_of (show peekP (k :: r) = (0, 0, 11) by rw [peekP_cons, if_neg h8, if_neg hs, if_pos hz]))
      obtain ⟨hz1, hz2⟩ := hz
      have hr0 : 0 < r.length := by omega
      have hc1 := HC.out 1 (by simp; omega)
      have hz3 : (k :: r)[1]'(by simp; omega) = 0 := by rw [List.getElem_cons_succ, ← hz2]; simp [hr0]
      rw [hz3] at hc1
      have t3 := decide_eq_true hz1
      clear hz2 hz3
      go_enter Tryd.func78, Tryd.ntmps78
      go_wp2
      go_ret3
      exact ⟨by rw [V.out]; rfl, rfl⟩
    have V := Lib.hid (peekV_of (show peekP (k :: r) = (wrap64 (wordOf (r.take k.toNat)), 1 + k, 0) by rw [peekP_cons, if_neg h8, if_neg hs, if_neg hz]))
    by_cases hk : k = 0
    · subst hk
      have W0 : Aside0 (wrap64 (wordOf (r.take (0 : Int).toNat)) = 0) := ⟨by simp [wordOf, wrap64]⟩
      by_cases hc1 : c = 1
      · subst hc1
        obtain rfl : r = [] := by cases r; rfl; simp at hcap
        go_enter Tryd.func78, Tryd.ntmps78
        go_wp2
        go_loop [6, 53] (fun u i => u = .int .u64 0 ∧ i = .int .i64 0) (fun _ _ => 0)
        case atStart => exact ⟨rfl, rfl⟩
        case round =>
          obtain ⟨rfl, rfl⟩ := hrel
          go_wp2
          go_ret3
          exact ⟨by rw [V.out, W0.out]; rfl, rfl⟩
      · have hc2 : (c == 1) = false := by simpa using hc1
        go_enter Tryd.func78, Tryd.ntmps78
        go_wp2
        go_loop [6, 53] (fun u i => u = .int .u64 0 ∧ i = .int .i64 0) (fun _ _ => 0)
        case atStart => exact ⟨rfl, rfl⟩
        case round =>
          obtain ⟨rfl, rfl⟩ := hrel
          go_wp2
          go_ret3
          exact ⟨by rw [V.out, W0.out]; rfl, rfl⟩
    · have t3 : decide (0 < k) = true := decide_eq_true (by omega)
      have hr0 : 0 < r.length := by omega
      have hc1 := HC.out 1 (by simp; omega)
      have hz3 : r[0] ≠ 0 := fun e => hz ⟨by omega, by simp [hr0, e]⟩
      rw [List.getElem_cons_succ] at hc1
      have t4 : (r[0] == 0) = false := beq_eq_false_iff_ne.2 hz3
      generalize r[0] = y at *
      clear hz3 hz
      obtain ⟨n, rfl⟩ := Int.eq_ofNat_of_zero_le hk0
      have hc2 : (c == 1) = false := by simp; omega
      go_enter Tryd.func78, Tryd.ntmps78
      go_wp2
      have hn8 : n ≤ 8 := by omega
      have hnl : n ≤ r.length := by omega
      rw [Int.toNat_natCast] at V
      go_loop [6, 53] (fun u i => ∃ j : Nat, j ≤ n ∧ u = .int .u64 (wordOf (r.take j)) ∧ i = .int .i64 j) (fun _ i => n - (intOf i).toNat)
      case atStart => exact ⟨0, by omega, rfl, rfl⟩
      case round =>
        obtain ⟨j, hj, rfl, rfl⟩ := hrel
        by_cases hlt : j < n
        · have hjl : j < r.length := by omega
          have hcell := HC.out (j + 1) (by simp; omega)
          rw [List.getElem_cons_succ, show off + (j + 1) = off + 1 + j from by omega] at hcell
          have HT : Aside0 (wordOf (r.take (j + 1)) = wordOf (r.take j) * 256 + r[j]) := ⟨by rw [List.take_succ_eq_append_getElem hjl, wordOf_snoc]⟩
          obtain ⟨hx0, hx1⟩ := HB.out r[j] (List.getElem_mem hjl)
          have hU := wordOf_bd (r.take j) (fun x hx => HB.out x (List.mem_of_mem_take hx))
          rw [List.length_take, Nat.min_eq_left (by omega)] at hU
          have hp : (256 : Int) ^ j ≤ 256 ^ 7 := by
            have := Nat.pow_le_pow_right (n := 256) (by decide) (show j ≤ 7 by omega)
            have e : ((256 ^ j : Nat) : Int) ≤ ((256 ^ 7 : Nat) : Int) := Int.ofNat_le.2 this
            simpa using e
          have hU0 := hU.1
          have hU1 : wordOf (r.take j) < 72057594037927936 := by have := hU.2; omega
          have HO := Aside0.mk (or_byte hU0 hU1 hx0 hx1)
          clear hU hp
          have t9 : decide ((j : Int) < (n : Int)) = true := decide_eq_true (by omega)
          generalize r[j] = x at *
          generalize wordOf (r.take j) = u at *
          go_wp2_with fail
          go_round
          case rel => exact ⟨j + 1, by omega, by rw [HT.out, ← HO.out], by go_num⟩
          case measure => simp [intOf]; omega
        · obtain rfl : j = n := by omega
          clear HB HC
          generalize wordOf (r.take j) = u at *
          go_wp2_with fail
          go_ret3
          exact ⟨by rw [V.out]; rfl, rfl⟩
end Go.Proofs.YthaoiamgkpkcbaaDoor.Pk
/-! ### 50. A region's order in a table, made once a region: each step asks the table (numbers alone), not the operations -/
namespace Go.Proofs.YthaoiamgkpkcbaaDoorW.PrintLast
open Go.Proofs.YthaoiamgkpkcbaaDoorW.PrintWords (Aside0)
section
variable {md : Region.Mode} {ops : Array Oper} {T : Bool × List (List Nat × List Nat)} {l l' li lj lk : Array Bool} {ds : List Nat} {i j k : Nat}
theorem gd (l : Array Bool) (j : Nat) (b : Bool) : l.getD j b = l.toList.getD j b := by simp [Array.getD_eq_getD_getElem?, List.getD_eq_getElem?_getD]
end
end Go.Proofs.YthaoiamgkpkcbaaDoorW.PrintLast
/-! ### 56. Four, five, six operations that may come up next, in any order -/
namespace Go.Proofs.YthaoiamgkpkcbaaDoorW.PrintLast
section
variable {P : Program} {ops : Array Oper} {Q : Exit → Act → World → Prop} {md : Region.Mode} {S : World → Prop} {ds : List Nat} {T : Bool × List (List Nat × List Nat)}
end
end Go.Proofs.YthaoiamgkpkcbaaDoorW.PrintLast
/-! ### 52. A row that stays read whatever happens to a block (a set of blocks) doesn't lie there -/
namespace Go.Proofs.YthaoiamgkpkcbaaDoorW.PrintWords
open Go.RowKit
namespace Kd
section
variable {α : Type} {d : Kd α} {W : World} {g n : Nat} {S ok : Nat → Prop} {A : Option Addr} {ad : Addr} {xs : List α}
end
end Kd
end Go.Proofs.YthaoiamgkpkcbaaDoorW.PrintWords
/-! ### 54. Behind orders that were drawn quietly: the same facts at the world's new name; a flat row's foot -/
namespace Go.Proofs.YthaoiamgkpkcbaaDoorW.PrintWords
open Go.RowKit
section
variable {w w' u : World} {m B g : Nat} {o : Obj} {row : Option Nat} {S : Nat → Prop} {a : Addr} {v : Value}
end
namespace Kd
section
variable {α : Type} {d : Kd α} {e base n m : Nat} {ok : Nat → Prop} {w w' : World} {v : Value} {A : Option Addr} {xs : List α}
theorem C_at (hq : w.drewN m = w') (h : d.C w A n xs) : d.C w' A n xs := by subst hq; exact C_drewN h m
end
end Kd
end Go.Proofs.YthaoiamgkpkcbaaDoorW.PrintWords
/-! ### 53. '==' of structs as_ one Bool -/
namespace Go.Proofs.YthaoiamgkpkcbaaDoorW.PrintWords
open Go.RowKit
section
variable {P : Program} {d : Nat} {xs ys : Array Value} {f : Field} {fs : List Field} {a b : Value} {r s : Bool} {w : World}
/-- The last field that counts. -/
theorem eqf_last (hn : (f.name == "_") = false) (ha : (part f.type xs f.offset).run P w = .ok a w) (hb : (part f.type ys f.offset).run P w = .ok b w) (he : (Op.equalIn d f.type a b).run P w = .ok r w) : (Op.eqFields d xs ys [f]).run P w = .ok r w := by
  have hn' : f.name ≠ "_" := by simpa using hn
  simp only [Op.eqFields, if_pos hn', Sem.run_bind, ha, hb, he, Result.andThen_ok]
  cases r <;> simp
theorem eqf_cons (hn : (f.name == "_") = false) (ha : (part f.type xs f.offset).run P w = .ok a w) (hb : (part f.type ys f.offset).run P w = .ok b w) (he : (Op.equalIn d f.type a b).run P w = .ok r w) (hr : (Op.eqFields d xs ys fs).run P w = .ok s w) : (Op.eqFields d xs ys (f :: fs)).run P w = .ok (r && s) w := by
  have hn' : f.name ≠ "_" := by simpa using hn
  rw [Op.eqFields]
  simp only [if_pos hn', Sem.run_bind, ha, hb, he, Result.andThen_ok]
  cases r
  · simp
  · simpa using hr
theorem eqA_of {t : TypeId} {fs : Array Field} (hu : P.underlying t = some (.struct fs)) (hp : P.stoodInHeld t = false) (h : (Op.eqFields d xs ys fs.toList).run P w = .ok r w) : (Op.equalIn (d + 1) t (.agg xs) (.agg ys)).run P w = .ok r w := by
  have hf : P.fieldsOf t = fs := by simp [Program.fieldsOf, hu]
  rw [run_equalIn_struct (P := P) w d t xs ys (by rw [hf]; exact hu) hp, hf]
  exact h
end
end Go.Proofs.YthaoiamgkpkcbaaDoorW.PrintWords
/-! ### 55. Reps told from the front, no append: for rows of one-cell elements and of wider ones -/
namespace Go.Proofs.YthaoiamgkpkcbaaDoorW.PrintWords
/-- One cell an element. -/
theorem Reps.one {α : Type} {R : α → List Value → Prop} {ps : List α} {cs : List Value} {p : α} {v : Value} (hp : R p [v]) (h : Reps R 1 ps cs) : Reps R 1 (p :: ps) (v :: cs) := by
  refine ⟨by simp [h.1], fun j q hq => ?_⟩
  cases j with
  | zero =>
    simp only [List.getElem?_cons_zero, Option.some.injEq] at hq
    subst hq
    simpa using hp
  | succ j =>
    simp only [List.getElem?_cons_succ] at hq
    have h1 := h.2 j q hq
    simpa [Nat.mul_one] using h1
/-- More cells an element: told apart by the cells' list. -/
theorem Reps.front {α : Type} {R : α → List Value → Prop} {size : Nat} {ps : List α} {cs c all : List Value} {p : α} (hp : R p c) (hc : c.length = size) (h : Reps R size ps cs) (ha : c ++ cs = all) : Reps R size (p :: ps) all := by
  subst ha
  refine ⟨by rw [List.length_append, hc, h.1, List.length_cons, Nat.succ_mul, Nat.add_comm], fun j q hq => ?_⟩
  cases j with
  | zero =>
    simp only [List.getElem?_cons_zero, Option.some.injEq] at hq
    subst hq
    rw [Nat.zero_mul, List.drop_zero, List.take_append_of_le_length (by omega), List.take_of_length_le (by omega)]
    exact hp
  | succ j =>
    simp only [List.getElem?_cons_succ] at hq
    have h1 := h.2 j q hq
    rw [Nat.succ_mul, List.drop_append, List.drop_of_length_le (by rw [hc]; exact Nat.le_add_left _ _), List.nil_append, hc, Nat.add_sub_cancel]
    exact h1
theorem Reps.c2 {α : Type} {R : α → List Value → Prop} {ps : List α} {cs : List Value} {p : α} {va vb : Value} (hp : R p [va, vb]) (h : Reps R 2 ps cs) : Reps R 2 (p :: ps) (va :: vb :: cs) := Reps.front hp rfl h rfl
theorem Reps.c3 {α : Type} {R : α → List Value → Prop} {ps : List α} {cs : List Value} {p : α} {va vb vc : Value} (hp : R p [va, vb, vc]) (h : Reps R 3 ps cs) : Reps R 3 (p :: ps) (va :: vb :: vc :: cs) := Reps.front hp rfl h rfl
theorem Reps.c4 {α : Type} {R : α → List Value → Prop} {ps : List α} {cs : List Value} {p : α} {va vb vc vd : Value} (hp : R p [va, vb, vc, vd]) (h : Reps R 4 ps cs) : Reps R 4 (p :: ps) (va :: vb :: vc :: vd :: cs) := Reps.front hp rfl h rfl
theorem Reps.c5 {α : Type} {R : α → List Value → Prop} {ps : List α} {cs : List Value} {p : α} {va vb vc vd ve : Value} (hp : R p [va, vb, vc, vd, ve]) (h : Reps R 5 ps cs) : Reps R 5 (p :: ps) (va :: vb :: vc :: vd :: ve :: cs) := Reps.front hp rfl h rfl
theorem Reps.c6 {α : Type} {R : α → List Value → Prop} {ps : List α} {cs : List Value} {p : α} {va vb vc vd ve vf : Value} (hp : R p [va, vb, vc, vd, ve, vf]) (h : Reps R 6 ps cs) : Reps R 6 (p :: ps) (va :: vb :: vc :: vd :: ve :: vf :: cs) := Reps.front hp rfl h rfl
theorem Reps.c7 {α : Type} {R : α → List Value → Prop} {ps : List α} {cs : List Value} {p : α} {va vb vc vd ve vf vg : Value} (hp : R p [va, vb, vc, vd, ve, vf, vg]) (h : Reps R 7 ps cs) : Reps R 7 (p :: ps) (va :: vb :: vc :: vd :: ve :: vf :: vg :: cs) := Reps.front hp rfl h rfl
theorem Reps.c8 {α : Type} {R : α → List Value → Prop} {ps : List α} {cs : List Value} {p : α} {va vb vc vd ve vf vg vh : Value} (hp : R p [va, vb, vc, vd, ve, vf, vg, vh]) (h : Reps R 8 ps cs) : Reps R 8 (p :: ps) (va :: vb :: vc :: vd :: ve :: vf :: vg :: vh :: cs) := Reps.front hp rfl h rfl
theorem Reps.c9 {α : Type} {R : α → List Value → Prop} {ps : List α} {cs : List Value} {p : α} {va vb vc vd ve vf vg vh vi : Value} (hp : R p [va, vb, vc, vd, ve, vf, vg, vh, vi]) (h : Reps R 9 ps cs) : Reps R 9 (p :: ps) (va :: vb :: vc :: vd :: ve :: vf :: vg :: vh :: vi :: cs) := Reps.front hp rfl h rfl
theorem Reps.c10 {α : Type} {R : α → List Value → Prop} {ps : List α} {cs : List Value} {p : α} {va vb vc vd ve vf vg vh vi vj : Value} (hp : R p [va, vb, vc, vd, ve, vf, vg, vh, vi, vj]) (h : Reps R 10 ps cs) : Reps R 10 (p :: ps) (va :: vb :: vc :: vd :: ve :: vf :: vg :: vh :: vi :: vj :: cs) := Reps.front hp rfl h rfl
end Go.Proofs.YthaoiamgkpkcbaaDoorW.PrintWords
/-! ### 57. A region of open order by ONE relation over what is listed so far: each operation is shown once, whatever came up before it -/
namespace Go.Proofs.YthaoiamgkpkcbaaDoorW.PrintLast
/-- Number i is listed too. -/
def up (b : Nat → Bool) (i : Nat) : Nat → Bool := fun j => if j = i then true else b j
section
variable {P : Program} {ops : Array Oper} {Q : Exit → Act → World → Prop} {md : Region.Mode} {T : Bool × List (List Nat × List Nat)} {B : List Nat} {O : List Nat} {b : Nat → Bool} {i j n : Nat}
/-! The frame: what is listed has its destination filled. -/
end
end Go.Proofs.YthaoiamgkpkcbaaDoorW.PrintLast
namespace Go.Proofs.YthaoiamgkpkcbaaDoorW.PrintWords
open Go.RowKit
end Go.Proofs.YthaoiamgkpkcbaaDoorW.PrintWords
namespace Go.Proofs.YthaoiamgkpkcbaaDoorW.PrintLast
section
variable {ops : Array Oper} {a : Act} {o og : Oper} {g : Nat} {t : Tmp} {u : Bool}
end
end Go.Proofs.YthaoiamgkpkcbaaDoorW.PrintLast
/-! ### 58. A guarded operation whose guard is known to want it: the same goal without the guard -/
namespace Go.Proofs.YthaoiamgkpkcbaaDoorW.PrintWords
open Go.RowKit
section
variable {P : Program} {ops : Array Oper} {rest : List Oper} {o : Oper} {a : Act} {Q : Exit → Act → World → Prop} {W : World}
/-- The gate takes the guard off (hw: 'by rfl', 'by kernel_rfl': the guard's slot holds what is wanted). -/
theorem gate_guard (hw : Region.wanted o (yielded ops a.tmps) = true) (h : wpList P ops Q ({ o with guard := none } :: rest) a W) : wpList P ops Q (o :: rest) a W := by
  have h1 : Region.wanted { o with guard := none } (yielded ops a.tmps) = true := rfl
  unfold wpList at h ⊢
  rw [if_pos h1] at h
  rw [if_pos hw]
  exact h
end
end Go.Proofs.YthaoiamgkpkcbaaDoorW.PrintWords
namespace Go.Proofs.YthaoiamgkpkcbaaDoor.Enc
open Go Go.RowKit Go.Proofs.YthaoiamgkpkcbaaDoor.Wrd
set_option linter.unusedVariables false
/-- the digits of a number to the base 256, the highest first; of nought none -/
def beR (u : Nat) : List Int := if h : u = 0 then [] else beR (u / 256) ++ [((u % 256 : Nat) : Int)]
termination_by u
decreasing_by omega
theorem beR_zero : beR 0 = [] := by unfold beR; simp
theorem beR_pos {u : Nat} (h : u ≠ 0) : beR u = beR (u / 256) ++ [((u % 256 : Nat) : Int)] := by rw [beR]; simp [h]
theorem beR_ne {u : Nat} (h : u ≠ 0) : beR u ≠ [] := by rw [beR_pos h]; simp
theorem beR_nil {u : Nat} : beR u = [] ↔ u = 0 := by
  constructor
  · intro h; exact Classical.byContradiction fun e => beR_ne e h
  · rintro rfl; exact beR_zero
theorem beR_len_pos {u : Nat} : 0 < (beR u).length ↔ u ≠ 0 := by
  rw [List.length_pos_iff]; exact not_congr beR_nil
theorem beR_step (v c : Nat) (hc : c < 256) (h : v ≠ 0 ∨ c ≠ 0) : beR (v * 256 + c) = beR v ++ [(c : Int)] := by
  rw [beR_pos (by omega)]
  rw [show (v * 256 + c) / 256 = v from by omega, show (v * 256 + c) % 256 = c from by omega]
theorem wordOf_beR : ∀ u : Nat, wordOf (beR u) = (u : Int) := by
  intro u
  induction u using Nat.strongRecOn with
  | _ u ih =>
    by_cases h : u = 0
    · subst h; rw [beR_zero]; rfl
    · rw [beR_pos h, wordOf_snoc, ih (u / 256) (by omega)]; omega
theorem beR_bytes : ∀ u : Nat, ∀ x ∈ beR u, 0 ≤ x ∧ x < 256 := by
  intro u
  induction u using Nat.strongRecOn with
  | _ u ih =>
    intro x hx
    by_cases h : u = 0
    · subst h; rw [beR_zero] at hx; simp at hx
    · rw [beR_pos h] at hx
      rcases List.mem_append.1 hx with hx | hx
      · exact ih (u / 256) (by omega) x hx
      · simp at hx; subst hx; omega
theorem beR_len_le : ∀ (k u : Nat), u < 256 ^ k → (beR u).length ≤ k
  | 0, u, h => by
    have : u = 0 := by simpa using h
    rw [this, beR_zero]; simp
  | k + 1, u, h => by
    by_cases h0 : u = 0
    · rw [h0, beR_zero]; simp
    · rw [beR_pos h0, List.length_append, List.length_singleton]
      have := beR_len_le k (u / 256) (by rw [Nat.pow_succ] at h; omega)
      omega
theorem lt_of_beR_len (u : Nat) : u < 256 ^ (beR u).length := by
  have h := wordOf_bd (beR u) (beR_bytes u)
  rw [wordOf_beR] at h
  have e : ((256 ^ (beR u).length : Nat) : Int) = (256 : Int) ^ (beR u).length := by simp
  have h2 := h.2
  rw [← e] at h2
  exact Int.ofNat_lt.1 h2
theorem beR_len_iff {u k : Nat} : (beR u).length ≤ k ↔ u < 256 ^ k :=
  ⟨fun h => Nat.lt_of_lt_of_le (lt_of_beR_len u) (Nat.pow_le_pow_right (by decide) h), beR_len_le k u⟩
/-- a number as a word -/
def word (n : Int) : Nat := (n % 18446744073709551616).toNat
theorem word_lt (n : Int) : word n < 256 ^ 8 := by unfold word; omega
/-- a number's bytes -/
def numB (n : Int) : List Int := ((beR (word n)).length : Int) :: beR (word n)
theorem numB_len (n : Int) : (numB n).length ≤ 9 := by have := beR_len_le 8 (word n) (word_lt n); simp [numB]; omega
end Go.Proofs.YthaoiamgkpkcbaaDoor.Enc
namespace Go.Proofs.YthaoiamgkpkcbaaDoor.QR
open Go.RowKit Go.Proofs.YthaoiamgkpkcbaaDoorW.PrintWords Go.Proofs.YthaoiamgkpkcbaaDoorW.PrintLast Go.Proofs.YthaoiamgkpkcbaaDoorW.PrintMore
attribute [local go_sem] max2_int min2_int max_two min_two max_three min_three max_four min_four   -- for this text's walks alone
set_option linter.unusedVariables false
set_option linter.unusedSimpArgs false
def errW : Option Int → Value
  | none => .nilIface
  | some c => .iface 0 (.int .i64 c)
theorem errW_none : errW none = .nilIface := rfl
theorem errW_some (c : Int) : errW (some c) = .iface 0 (.int .i64 c) := rfl
theorem info5 : (Tryd.prog.info? 5).map (fun i => (i.zero, i.size, i.bytes)) = some (some (.int .u8 0), 1, 1) := by kernel_rfl
end Go.Proofs.YthaoiamgkpkcbaaDoor.QR
namespace Go.Proofs.YthaoiamgkpkcbaaDoor.QR
open Go.RowKit Go.Proofs.YthaoiamgkpkcbaaDoorW.PrintWords Go.Proofs.YthaoiamgkpkcbaaDoorW.PrintLast Go.Proofs.YthaoiamgkpkcbaaDoorW.PrintMore
attribute [local go_sem] max2_int min2_int max_two min_two max_three min_three max_four min_four   -- for this text's walks alone
set_option linter.unusedVariables false
set_option linter.unusedSimpArgs false
theorem eqA23 (d : Nat) (w : World) (x0 y0 : Int) (x1 y1 : Int) (x2 y2 : Int) :
    (Op.equalIn (d + 2) 23 (.agg #[.int .i64 x0, .int .i64 x1, .int .i64 x2]) (.agg #[.int .i64 y0, .int .i64 y1, .int .i64 y2])).run Tryd.prog w = .ok (x0 == y0 && (x1 == y1 && (x2 == y2))) w := by
  refine eqA_of Tryd.underlying23 (by kernel_rfl) ?_
  refine eqf_cons (by rfl) (by go_simp; rfl) (by go_simp; rfl) (by go_simp) ?_
  refine eqf_cons (by rfl) (by go_simp; rfl) (by go_simp; rfl) (by go_simp) ?_
  exact eqf_last (by rfl) (by go_simp; rfl) (by go_simp; rfl) (by go_simp)
end Go.Proofs.YthaoiamgkpkcbaaDoor.QR
namespace Go.Proofs.YthaoiamgkpkcbaaDoor.QR
open Go.RowKit Go.Proofs.YthaoiamgkpkcbaaDoorW.PrintWords Go.Proofs.YthaoiamgkpkcbaaDoorW.PrintLast Go.Proofs.YthaoiamgkpkcbaaDoorW.PrintMore
attribute [local go_sem] max2_int min2_int max_two min_two max_three min_three max_four min_four   -- for this text's walks alone
set_option linter.unusedVariables false
set_option linter.unusedSimpArgs false
/-! ### icehouseref02_Get: function 72 -/
def icehouseref02_Get.l0 : Nat → List Int → Int → Int → Int → Int → Option (Int × Int × Int)
  | 0, _, _, _, _, _ => none
  | k + 1, x0, x1, x7, x8, x9 => if x9 < x7 then (if 0 ≤ (wrap64 ((wrap64 (x1 + 1)) + x9)) then (if (wrap64 ((wrap64 (x1 + 1)) + x9)) < (x0.length : Int) then (icehouseref02_Get.l0 k x0 x1 x7 (IntKind.u64.wrap ((IntKind.u64.wrap (x8 * 256)) + (IntKind.u64.wrap (rd x0 (wrap64 ((wrap64 (x1 + 1)) + x9)))))) (wrap64 (x9 + 1))) else (none)) else (none)) else (if x7 > 0 then (if 0 ≤ (wrap64 (x1 + 1)) then (if (wrap64 (x1 + 1)) < (x0.length : Int) then (if (rd x0 (wrap64 (x1 + 1))) = 0 then (some (0, x1, 11)) else (some (wrap64 (x8), wrap64 ((wrap64 (x1 + 1)) + x7), 0))) else (none)) else (none)) else (some (wrap64 (x8), wrap64 ((wrap64 (x1 + 1)) + x7), 0)))
theorem icehouseref02_Get.mono_l : ∀ k, (∀ y0 y1 y2 y3 y4, LeO (icehouseref02_Get.l0 k y0 y1 y2 y3 y4) (icehouseref02_Get.l0 (k + 1) y0 y1 y2 y3 y4))
  | 0 => fun _ _ _ _ _ r h => by simp [icehouseref02_Get.l0] at h
  | k + 1 => by
    have ih0 := icehouseref02_Get.mono_l k
    · intro y0 y1 y2 y3 y4
      unfold icehouseref02_Get.l0
      repeat' first
      | (with_reducible exact ih0 _ _ _ _ _)
      | (with_reducible exact LeO.refl _)
      | (with_reducible exact LeO.none _)
      | (with_reducible refine LeO.ite ?_ ?_)
      | (with_reducible refine LeO.bind ?_ (fun _ => ?_))
      | exact ih0 _ _ _ _ _
      | exact LeO.none _
      | refine LeO.ite ?_ ?_
      | refine LeO.bind ?_ (fun _ => ?_)
/-! ### icehouseref02_GetTruth: function 51 -/
/-! ### icehouseref03_within: function 73 -/
def icehouseref03_within.f (a0 : Int) (a1 : Int) : Option (Bool) := if a0 ≥ 0 then (some (decide (a0 ≤ a1))) else (some false)
set_option maxHeartbeats 8000000 in
set_option maxRecDepth 100000 in
theorem icehouseref03_within.calls (a0 : Int) (a1 : Int) (r : Bool) (w : World) (h : icehouseref03_within.f a0 a1 = some r) :
    Calls Tryd.prog 73 #[.int .i64 a0, .int .i64 a1] w fun e w' => e = .returned (.bool r) ∧ Drawn0 w w' := by
  have H : (if a0 ≥ 0 then (some (decide (a0 ≤ a1))) else (some false)) = some r := h
  clear h
  by_cases c3 : a0 ≥ 0
  · rw [if_pos c3] at H
    have c3b0 : decide (0 ≤ a0) = true := decide_eq_true c3
    clear c3
    obtain rfl := Option.some.inj H
    go_enter Tryd.func73, Tryd.ntmps73
    go_wp2
    go_ret
    exact ⟨by first | rfl | (simp; done) | (simp [*]; done), by repeat (first | exact Drawn0.refl _ | apply Drawn0.step)⟩
  · rw [if_neg c3] at H
    have c3b0 : decide (0 ≤ a0) = false := decide_eq_false c3
    clear c3
    obtain rfl := Option.some.inj H
    go_enter Tryd.func73, Tryd.ntmps73
    go_wp2
    go_ret
    exact ⟨by first | rfl | (simp; done) | (simp [*]; done), by repeat (first | exact Drawn0.refl _ | apply Drawn0.step)⟩
/-! ### icehouseref03_GetNum: function 50 -/
/-! ### icehouseref03_Check: function 65 -/
def icehouseref03_Check.j0 : Nat → Bool → Int → Int → Int → Option (Int)
  | 0, _, _, _, _ => none
  | k + 1, x18, x111000, x111001, x111002 => if x18 = true then (some 2) else (if x111000 = 0 then (if x111001 > 0 then (some 2) else (if x111002 > 0 then (some 2) else (some 0))) else (some 0))
def icehouseref03_Check.f (k : Nat) (a0_0 : Int) (a0_1 : Int) (a0_2 : Int) : Option (Int) := (icehouseref03_within.f a0_0 1099511627775).bind fun t111 => (if t111 = true then ((icehouseref03_within.f a0_1 1048575).bind fun t112 => (if t112 = true then ((icehouseref03_within.f a0_2 1048575).bind fun t113 => (icehouseref03_Check.j0 k (!t113) a0_0 a0_1 a0_2)) else (icehouseref03_Check.j0 k true a0_0 a0_1 a0_2))) else (icehouseref03_Check.j0 k true a0_0 a0_1 a0_2))
theorem icehouseref03_Check.mono_l : ∀ k, (∀ y0 y1 y2 y3, LeO (icehouseref03_Check.j0 k y0 y1 y2 y3) (icehouseref03_Check.j0 (k + 1) y0 y1 y2 y3))
  | 0 => fun _ _ _ _ r h => by simp [icehouseref03_Check.j0] at h
  | k + 1 => by
    have ih0 := icehouseref03_Check.mono_l k
    · intro y0 y1 y2 y3
      unfold icehouseref03_Check.j0
      repeat' first
      | (with_reducible exact ih0 _ _ _ _)
      | (with_reducible exact LeO.refl _)
      | (with_reducible exact LeO.none _)
      | (with_reducible refine LeO.ite ?_ ?_)
      | (with_reducible refine LeO.bind ?_ (fun _ => ?_))
      | exact ih0 _ _ _ _
      | exact LeO.none _
      | refine LeO.ite ?_ ?_
      | refine LeO.bind ?_ (fun _ => ?_)
theorem icehouseref03_Check.mono : ∀ a0 a1 a2 k, LeO (icehouseref03_Check.f k a0 a1 a2) (icehouseref03_Check.f (k + 1) a0 a1 a2) := by
  intro a0 a1 a2 k
  have ih0 := icehouseref03_Check.mono_l k
  unfold icehouseref03_Check.f
  repeat' first
      | (with_reducible exact ih0 _ _ _ _)
      | (with_reducible exact LeO.refl _)
      | (with_reducible exact LeO.none _)
      | (with_reducible refine LeO.ite ?_ ?_)
      | (with_reducible refine LeO.bind ?_ (fun _ => ?_))
      | exact ih0 _ _ _ _
      | exact LeO.none _
      | refine LeO.ite ?_ ?_
      | refine LeO.bind ?_ (fun _ => ?_)
set_option maxHeartbeats 8000000 in
set_option maxRecDepth 100000 in
theorem icehouseref03_Check.calls (k : Nat) (a0_0 : Int) (a0_1 : Int) (a0_2 : Int) (r : Int) (w : World) (h : icehouseref03_Check.f k a0_0 a0_1 a0_2 = some r) :
    Calls Tryd.prog 65 #[.agg #[.int .i64 a0_0, .int .i64 a0_1, .int .i64 a0_2]] w fun e w' => e = .returned (.int .i64 r) ∧ Below w.heap.size w w' := by
  have hu23 := Tryd.underlying23
  have HB := Aside0.mk (Below.refl w.heap.size w)
  have H : ((icehouseref03_within.f a0_0 1099511627775).bind fun t111 => (if t111 = true then ((icehouseref03_within.f a0_1 1048575).bind fun t112 => (if t112 = true then ((icehouseref03_within.f a0_2 1048575).bind fun t113 => (icehouseref03_Check.j0 k (!t113) a0_0 a0_1 a0_2)) else (icehouseref03_Check.j0 k true a0_0 a0_1 a0_2))) else (icehouseref03_Check.j0 k true a0_0 a0_1 a0_2))) = some r := h
  clear h
  have HC2 := Aside0.mk H
  clear H
  go_enter Tryd.func65, Tryd.ntmps65
  go_upto_region 1 with (first | ((with_reducible refine gate_dst (N := 1) rfl ?_); refine box_event ?hg (N := 1) ?hd (cs := #[.int .i64 a0_0, .int .i64 a0_1, .int .i64 a0_2]) (t := 23) ?hr ?_; (case hd => rfl); (case hg => rfl); (case hr => first | (go_simp; done) | (go_simp; rfl)); intro gb110 hg w3 hbox hb; have n0_ := Aside0.mk (below_step (by repeat (first | (with_reducible first | exact HB.out | apply below_alloc | apply pw_below_drewN | apply below_drew1) | exact HB.out)) hb); have n1_ := Aside0.mk (hbox); have n2_ := Aside0.mk ((by rw [hg]; exact (below_size (by repeat (first | (with_reducible first | exact HB.out | apply below_alloc | apply pw_below_drewN | apply below_drew1) | exact HB.out))) : w.heap.size ≤ gb110)); have n3_ := Aside0.mk ((by rw [hg]; exact (below_size (by repeat (first | (with_reducible first | exact HB.out | apply below_alloc | apply pw_below_drewN | apply below_drew1) | exact HB.out))) : w.heap.size ≤ gb110)); clear HB; have HB := n0_; have BK110 := n1_; have GW110 := n2_; have GE110 := n3_; clear n0_ n1_ n2_ n3_; clear hb hbox hg))
  (try simp only [Act.put, List.setIfInBounds_toArray, List.set_cons_zero, List.set_cons_succ])
  go_cut [18] (fun v18 wc => ∃ (kq : Nat) (x18_1 : Bool), v18 = .bool x18_1 ∧ Aside0 (icehouseref03_Check.j0 kq x18_1 a0_0 a0_1 a0_2 = some r) ∧ Aside0 (kq ≤ k) ∧ Aside0 (wc.heap[gb110]? = some (.cells #[.int .i64 a0_0, .int .i64 a0_1, .int .i64 a0_2] 23 (0, 0))) ∧ Aside0 (Below w.heap.size w wc))
  case first =>
    have H := HC2.out
    clear HC2
    replace H := Option.bind_eq_some_iff.mp H
    obtain ⟨t111, A40, H⟩ := H
    replace H : (if t111 = true then ((icehouseref03_within.f a0_1 1048575).bind fun t112 => (if t112 = true then ((icehouseref03_within.f a0_2 1048575).bind fun t113 => (icehouseref03_Check.j0 k (!t113) a0_0 a0_1 a0_2)) else (icehouseref03_Check.j0 k true a0_0 a0_1 a0_2))) else (icehouseref03_Check.j0 k true a0_0 a0_1 a0_2)) = some r := H
    have A4 := Aside0.mk A40
    clear A40
    by_cases c5 : t111 = true
    · subst c5
      have H1 : ((icehouseref03_within.f a0_1 1048575).bind fun t112 => (if t112 = true then ((icehouseref03_within.f a0_2 1048575).bind fun t113 => (icehouseref03_Check.j0 k (!t113) a0_0 a0_1 a0_2)) else (icehouseref03_Check.j0 k true a0_0 a0_1 a0_2))) = some r := by rw [if_pos rfl] at H; exact H
      clear H
      have H := H1
      clear H1
      replace H := Option.bind_eq_some_iff.mp H
      obtain ⟨t112, A60, H⟩ := H
      replace H : (if t112 = true then ((icehouseref03_within.f a0_2 1048575).bind fun t113 => (icehouseref03_Check.j0 k (!t113) a0_0 a0_1 a0_2)) else (icehouseref03_Check.j0 k true a0_0 a0_1 a0_2)) = some r := H
      have A6 := Aside0.mk A60
      clear A60
      by_cases c7 : t112 = true
      · subst c7
        have H1 : ((icehouseref03_within.f a0_2 1048575).bind fun t113 => (icehouseref03_Check.j0 k (!t113) a0_0 a0_1 a0_2)) = some r := by rw [if_pos rfl] at H; exact H
        clear H
        have H := H1
        clear H1
        replace H := Option.bind_eq_some_iff.mp H
        obtain ⟨t113, A80, H⟩ := H
        replace H : (icehouseref03_Check.j0 k (!t113) a0_0 a0_1 a0_2) = some r := H
        have A8 := Aside0.mk A80
        clear A80
        have H' := Aside0.mk H
        clear H
        have hcz9_0 : w3.cell? ⟨gb110, 0, none⟩ = some (.int .i64 a0_0) := (blk_cell BK110.out 0).trans rfl
        have hcz9_1 : w3.cell? ⟨gb110, 1, none⟩ = some (.int .i64 a0_1) := (blk_cell BK110.out 1).trans rfl
        have hcz9_2 : w3.cell? ⟨gb110, 2, none⟩ = some (.int .i64 a0_2) := (blk_cell BK110.out 2).trans rfl
        have hfz9_0 := blk_frozen BK110.out 0
        have hfz9_1 := blk_frozen BK110.out 1
        have hfz9_2 := blk_frozen BK110.out 2
        go_wp2_with (first | ((with_reducible refine gate_callee (f := 73) rfl ?_); refine goesL_ (some 5) rfl rfl Tryd.func73 (by kernel_rfl) rfl #[.int .i64 a0_0, .int .i64 1099511627775] rfl (by (try simp only [List.map_toArray, List.map_cons, List.map_nil]); first | done | rfl | (simp only [List.length_drop, List.length_take]; rfl)) ?_; (with_reducible refine (icehouseref03_within.calls a0_0 1099511627775 true _ A4.out).mono ?_); rintro e w' ⟨rfl, ⟨nd, rfl⟩⟩; refine ⟨_, rfl, ?_⟩) | (go_at_call 73; (with_reducible refine (icehouseref03_within.calls a0_1 1048575 true _ A6.out).mono ?_); rintro e w' ⟨rfl, ⟨nd, rfl⟩⟩) | (go_at_call 73; (with_reducible refine (icehouseref03_within.calls a0_2 1048575 t113 _ A8.out).mono ?_); rintro e w' ⟨rfl, ⟨nd, rfl⟩⟩))
        go_meet
        case rel => exact ⟨_, (!t113), (by first | rfl | (simp; done) | (simp [*]; done)), H', ⟨by first | omega | exact Nat.le_refl _⟩, ⟨by (with_reducible repeat (first | refine blk_drewN ?_ _ | refine blk_drew ?_ | refine blk_alloc ?_ _)); exact BK110.out⟩, ⟨by repeat (first | (with_reducible first | exact HB.out | apply below_alloc | apply pw_below_drewN | apply below_drew1 | refine below_set ?_ GE110.out) | exact HB.out)⟩⟩
      · replace c7 := Bool.eq_false_iff.mpr c7
        subst c7
        have H1 : (icehouseref03_Check.j0 k true a0_0 a0_1 a0_2) = some r := by rw [if_neg (show ¬ (false = true) by decide)] at H; exact H
        clear H
        have H := H1
        clear H1
        have H' := Aside0.mk H
        clear H
        have hcz10_0 : w3.cell? ⟨gb110, 0, none⟩ = some (.int .i64 a0_0) := (blk_cell BK110.out 0).trans rfl
        have hcz10_1 : w3.cell? ⟨gb110, 1, none⟩ = some (.int .i64 a0_1) := (blk_cell BK110.out 1).trans rfl
        have hcz10_2 : w3.cell? ⟨gb110, 2, none⟩ = some (.int .i64 a0_2) := (blk_cell BK110.out 2).trans rfl
        have hfz10_0 := blk_frozen BK110.out 0
        have hfz10_1 := blk_frozen BK110.out 1
        have hfz10_2 := blk_frozen BK110.out 2
        go_wp2_with (first | ((with_reducible refine gate_callee (f := 73) rfl ?_); refine goesL_ (some 5) rfl rfl Tryd.func73 (by kernel_rfl) rfl #[.int .i64 a0_0, .int .i64 1099511627775] rfl (by (try simp only [List.map_toArray, List.map_cons, List.map_nil]); first | done | rfl | (simp only [List.length_drop, List.length_take]; rfl)) ?_; (with_reducible refine (icehouseref03_within.calls a0_0 1099511627775 true _ A4.out).mono ?_); rintro e w' ⟨rfl, ⟨nd, rfl⟩⟩; refine ⟨_, rfl, ?_⟩) | (go_at_call 73; (with_reducible refine (icehouseref03_within.calls a0_1 1048575 false _ A6.out).mono ?_); rintro e w' ⟨rfl, ⟨nd, rfl⟩⟩))
        go_meet
        case rel => exact ⟨_, (true), (by first | rfl | (simp; done) | (simp [*]; done)), H', ⟨by first | omega | exact Nat.le_refl _⟩, ⟨by (with_reducible repeat (first | refine blk_drewN ?_ _ | refine blk_drew ?_ | refine blk_alloc ?_ _)); exact BK110.out⟩, ⟨by repeat (first | (with_reducible first | exact HB.out | apply below_alloc | apply pw_below_drewN | apply below_drew1 | refine below_set ?_ GE110.out) | exact HB.out)⟩⟩
    · replace c5 := Bool.eq_false_iff.mpr c5
      subst c5
      have H1 : (icehouseref03_Check.j0 k true a0_0 a0_1 a0_2) = some r := by rw [if_neg (show ¬ (false = true) by decide)] at H; exact H
      clear H
      have H := H1
      clear H1
      have H' := Aside0.mk H
      clear H
      have hcz11_0 : w3.cell? ⟨gb110, 0, none⟩ = some (.int .i64 a0_0) := (blk_cell BK110.out 0).trans rfl
      have hcz11_1 : w3.cell? ⟨gb110, 1, none⟩ = some (.int .i64 a0_1) := (blk_cell BK110.out 1).trans rfl
      have hcz11_2 : w3.cell? ⟨gb110, 2, none⟩ = some (.int .i64 a0_2) := (blk_cell BK110.out 2).trans rfl
      have hfz11_0 := blk_frozen BK110.out 0
      have hfz11_1 := blk_frozen BK110.out 1
      have hfz11_2 := blk_frozen BK110.out 2
      go_wp2_with (first | ((with_reducible refine gate_callee (f := 73) rfl ?_); refine goesL_ (some 5) rfl rfl Tryd.func73 (by kernel_rfl) rfl #[.int .i64 a0_0, .int .i64 1099511627775] rfl (by (try simp only [List.map_toArray, List.map_cons, List.map_nil]); first | done | rfl | (simp only [List.length_drop, List.length_take]; rfl)) ?_; (with_reducible refine (icehouseref03_within.calls a0_0 1099511627775 false _ A4.out).mono ?_); rintro e w' ⟨rfl, ⟨nd, rfl⟩⟩; refine ⟨_, rfl, ?_⟩))
      go_meet
      case rel => exact ⟨_, (true), (by first | rfl | (simp; done) | (simp [*]; done)), H', ⟨by first | omega | exact Nat.le_refl _⟩, ⟨by (with_reducible repeat (first | refine blk_drewN ?_ _ | refine blk_drew ?_ | refine blk_alloc ?_ _)); exact BK110.out⟩, ⟨by repeat (first | (with_reducible first | exact HB.out | apply below_alloc | apply pw_below_drewN | apply below_drew1 | refine below_set ?_ GE110.out) | exact HB.out)⟩⟩
  case rest =>
    clear HC2
    try clear p2
    try clear c5
    try clear c6
    try clear c7
    try clear hcz10_0
    try clear hcz10_1
    try clear hcz10_2
    try clear hcz11_0
    try clear hcz11_1
    try clear hcz11_2
    try clear hcz9_0
    try clear hcz9_1
    try clear hcz9_2
    try clear hfz10_0
    try clear hfz10_1
    try clear hfz10_2
    try clear hfz11_0
    try clear hfz11_1
    try clear hfz11_2
    try clear hfz9_0
    try clear hfz9_1
    try clear hfz9_2
    obtain ⟨kq, x18_1, rfl, HA, HJ1, BK110, HB⟩ := hcut
    cases kq with
    | zero => exact absurd HA.out (by simp [icehouseref03_Check.j0])
    | succ kj1 =>
      have H := HA.out
      clear HA
      simp only [icehouseref03_Check.j0] at H
      by_cases c12 : x18_1 = true
      · subst c12
        have H1 : (some 2) = some r := by rw [if_pos rfl] at H; exact H
        clear H
        have H := H1
        clear H1
        obtain rfl := Option.some.inj H
        go_wp2
        go_ret
        exact ⟨by first | rfl | (simp [errW_none, errW_some] <;> rfl) | (simp [*, errW_none, errW_some] <;> rfl), by repeat (first | (with_reducible first | exact HB.out | apply below_alloc | apply pw_below_drewN | apply below_drew1 | refine below_set ?_ GE110.out) | exact HB.out)⟩
      · replace c12 := Bool.eq_false_iff.mpr c12
        subst c12
        have H1 : (if a0_0 = 0 then (if a0_1 > 0 then (some 2) else (if a0_2 > 0 then (some 2) else (some 0))) else (some 0)) = some r := by rw [if_neg (show ¬ (false = true) by decide)] at H; exact H
        clear H
        have H := H1
        clear H1
        by_cases c13 : a0_0 = 0
        · rw [if_pos c13] at H
          have c13b0 : (a0_0 == 0) = true := beq_iff_eq.mpr c13
          have c13b1 : (a0_0 != 0) = false := bne_eq_false_iff_eq.mpr c13
          clear c13
          by_cases c14 : a0_1 > 0
          · rw [if_pos c14] at H
            have c14b0 : decide (0 < a0_1) = true := decide_eq_true c14
            clear c14
            obtain rfl := Option.some.inj H
            have hcz15_0 : wc.cell? ⟨gb110, 0, none⟩ = some (.int .i64 a0_0) := (blk_cell BK110.out 0).trans rfl
            have hcz15_1 : wc.cell? ⟨gb110, 1, none⟩ = some (.int .i64 a0_1) := (blk_cell BK110.out 1).trans rfl
            have hcz15_2 : wc.cell? ⟨gb110, 2, none⟩ = some (.int .i64 a0_2) := (blk_cell BK110.out 2).trans rfl
            have hfz15_0 := blk_frozen BK110.out 0
            have hfz15_1 := blk_frozen BK110.out 1
            have hfz15_2 := blk_frozen BK110.out 2
            go_wp2
            go_ret
            exact ⟨by first | rfl | (simp [errW_none, errW_some] <;> rfl) | (simp [*, errW_none, errW_some] <;> rfl), by repeat (first | (with_reducible first | exact HB.out | apply below_alloc | apply pw_below_drewN | apply below_drew1 | refine below_set ?_ GE110.out) | exact HB.out)⟩
          · rw [if_neg c14] at H
            have c14b0 : decide (0 < a0_1) = false := decide_eq_false c14
            clear c14
            by_cases c16 : a0_2 > 0
            · rw [if_pos c16] at H
              have c16b0 : decide (0 < a0_2) = true := decide_eq_true c16
              clear c16
              obtain rfl := Option.some.inj H
              have hcz17_0 : wc.cell? ⟨gb110, 0, none⟩ = some (.int .i64 a0_0) := (blk_cell BK110.out 0).trans rfl
              have hcz17_1 : wc.cell? ⟨gb110, 1, none⟩ = some (.int .i64 a0_1) := (blk_cell BK110.out 1).trans rfl
              have hcz17_2 : wc.cell? ⟨gb110, 2, none⟩ = some (.int .i64 a0_2) := (blk_cell BK110.out 2).trans rfl
              have hfz17_0 := blk_frozen BK110.out 0
              have hfz17_1 := blk_frozen BK110.out 1
              have hfz17_2 := blk_frozen BK110.out 2
              go_wp2
              go_ret
              exact ⟨by first | rfl | (simp [errW_none, errW_some] <;> rfl) | (simp [*, errW_none, errW_some] <;> rfl), by repeat (first | (with_reducible first | exact HB.out | apply below_alloc | apply pw_below_drewN | apply below_drew1 | refine below_set ?_ GE110.out) | exact HB.out)⟩
            · rw [if_neg c16] at H
              have c16b0 : decide (0 < a0_2) = false := decide_eq_false c16
              clear c16
              obtain rfl := Option.some.inj H
              have hcz18_0 : wc.cell? ⟨gb110, 0, none⟩ = some (.int .i64 a0_0) := (blk_cell BK110.out 0).trans rfl
              have hcz18_1 : wc.cell? ⟨gb110, 1, none⟩ = some (.int .i64 a0_1) := (blk_cell BK110.out 1).trans rfl
              have hcz18_2 : wc.cell? ⟨gb110, 2, none⟩ = some (.int .i64 a0_2) := (blk_cell BK110.out 2).trans rfl
              have hfz18_0 := blk_frozen BK110.out 0
              have hfz18_1 := blk_frozen BK110.out 1
              have hfz18_2 := blk_frozen BK110.out 2
              go_wp2
              go_ret
              exact ⟨by first | rfl | (simp [errW_none, errW_some] <;> rfl) | (simp [*, errW_none, errW_some] <;> rfl), by repeat (first | (with_reducible first | exact HB.out | apply below_alloc | apply pw_below_drewN | apply below_drew1 | refine below_set ?_ GE110.out) | exact HB.out)⟩
        · rw [if_neg c13] at H
          have c13b0 : (a0_0 == 0) = false := beq_eq_false_iff_ne.mpr c13
          have c13b1 : (a0_0 != 0) = true := bne_iff_ne.mpr c13
          obtain rfl := Option.some.inj H
          have hcz19_0 : wc.cell? ⟨gb110, 0, none⟩ = some (.int .i64 a0_0) := (blk_cell BK110.out 0).trans rfl
          have hcz19_1 : wc.cell? ⟨gb110, 1, none⟩ = some (.int .i64 a0_1) := (blk_cell BK110.out 1).trans rfl
          have hcz19_2 : wc.cell? ⟨gb110, 2, none⟩ = some (.int .i64 a0_2) := (blk_cell BK110.out 2).trans rfl
          have hfz19_0 := blk_frozen BK110.out 0
          have hfz19_1 := blk_frozen BK110.out 1
          have hfz19_2 := blk_frozen BK110.out 2
          go_wp2
          go_ret
          exact ⟨by first | rfl | (simp [errW_none, errW_some] <;> rfl) | (simp [*, errW_none, errW_some] <;> rfl), by repeat (first | (with_reducible first | exact HB.out | apply below_alloc | apply pw_below_drewN | apply below_drew1 | refine below_set ?_ GE110.out) | exact HB.out)⟩
end Go.Proofs.YthaoiamgkpkcbaaDoor.QR
