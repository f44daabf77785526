/- What an argument that is a tag, a value, an entry reads as. · Helpers on rows that are read: an element's cell, the row's block, a row out of its cells. Conditions: none. · The reader of pack: its block, and the contracts of dead, fail, Failed, Left, End. Conditions: a reader whose bytes fit in memory. · A word out of its bytes, the highest first; 'u<<8 | c' as a sum. Conditions: bytes, words of 64 bits. · The contract of the reader's peek: the number at the place. Conditions: a reader whose bytes fit in memory. -/
import Derived.Test.YthaoiamgkpkcbaaDoorYMsgsReads1
import Derived.Test.YthaoiamgkpkcbaaDoorRows
import Derived.Test.YthaoiamgkpkcbaaDoorYMsgsReads0
import Derived.Test.YthaoiamgkpkcbaaDoorYMsgsReads2
import Derived.Test.YthaoiamgkpkcbaaDoorYMsgsReads3
import Derived.WalkKit
import Derived.ProofKit
import Derived.OpenShut
import Derived.WalkLawsBesides
import Derived.Lib.Hide
import Derived.Deep.LoopGhost
import Derived.Deep.QuietTactic
import Derived.BigQuiet
import Derived.WideLaws
import Derived.Laws.BitsAllLaws
import Derived.Laws.Bits64

namespace Go.Proofs.YthaoiamgkpkcbaaDoor.Opn
open Go.RowKit Go.Proofs.YthaoiamgkpkcbaaDoorW.PrintWords
end Go.Proofs.YthaoiamgkpkcbaaDoor.Opn
namespace Go.Proofs.YthaoiamgkpkcbaaDoor.Hlp
open Go.RowKit Go.Proofs.YthaoiamgkpkcbaaDoorW.PrintWords Go.Proofs.YthaoiamgkpkcbaaDoorW.PrintLast Go.Proofs.YthaoiamgkpkcbaaDoorW.PrintMore
theorem C_at {α : Type} {enc : α → Value} {h1 : ∀ x, (enc x).oneCell' = true} {w : World} {A : Option Addr} {xs : List α} (h : (Kd.scalar enc h1).C w A xs.length xs) (k : Nat) (hk : k < xs.length) :
    ∃ ad, A = some ad ∧ w.cell? (ad.add k) = some (enc xs[k]) := by
  obtain ⟨ad, e, hc⟩ := h.2.2 (by omega)
  obtain ⟨c, hs, hr, hcell⟩ := hc k _ (List.getElem?_eq_getElem hk)
  obtain rfl : c = [enc xs[k]] := hr
  have := hcell 0 _ rfl
  rw [show (Kd.scalar enc h1).sz = 1 from rfl, Nat.mul_one, Nat.add_zero] at this
  exact ⟨ad, e, this⟩
/-- a row that is read, by its block -/
theorem C_block {α : Type} {enc : α → Value} {h1 : ∀ x, (enc x).oneCell' = true} {w : World} {A : Option Addr} {xs : List α} (h : (Kd.scalar enc h1).C w A xs.length xs) (h0 : 0 < xs.length) :
    ∃ b off, A = some ⟨b, off, none⟩ ∧ ∀ (k : Nat) (hk : k < xs.length), w.cell? ⟨b, off + k, none⟩ = some (enc xs[k]) := by
  obtain ⟨ad, rfl, hc⟩ := C_at h 0 h0
  obtain ⟨b, off, sp⟩ := ad
  cases sp with
  | some x => simp [World.cell?, Addr.add] at hc; split at hc <;> simp at hc
  | none =>
    refine ⟨b, off, rfl, fun k hk => ?_⟩
    obtain ⟨ad, he, hc⟩ := C_at h k hk
    injection he with he
    subst he
    rw [← hc]
    unfold Addr.add
    split <;> simp_all
theorem C_mk {α : Type} {enc : α → Value} {h1 : ∀ x, (enc x).oneCell' = true} {w : World} {b off : Nat} {xs : List α} (hm : xs.length ≤ 9223372036854775807) (h : ∀ (k : Nat) (hk : k < xs.length), w.cell? ⟨b, off + k, none⟩ = some (enc xs[k])) :
    (Kd.scalar enc h1).C w (some ⟨b, off, none⟩) xs.length xs := by
  refine ⟨rfl, hm, fun _ => ⟨_, rfl, fun j p hj => ?_⟩⟩
  obtain ⟨hlt, hp⟩ := List.getElem?_eq_some_iff.1 hj
  subst hp
  refine ⟨[enc xs[j]], rfl, rfl, fun i u hu => ?_⟩
  have hi : i = 0 := by
    have := (List.getElem?_eq_some_iff.1 hu).1
    simp at this; exact this
  subst hi
  simp at hu
  subst hu
  rw [show (Kd.scalar enc h1).sz = 1 from rfl, Nat.mul_one, Nat.add_zero, ← h j hlt]
  unfold Addr.add
  split <;> simp_all
theorem C_empty {α : Type} {enc : α → Value} {h1 : ∀ x, (enc x).oneCell' = true} {w : World} {A : Option Addr} : (Kd.scalar enc h1).C w A ([] : List α).length [] := ⟨rfl, by simp, fun h => absurd h (Nat.lt_irrefl 0)⟩
/-- a store into a cell that is not the row's -/
theorem C_set {α : Type} {enc : α → Value} {h1 : ∀ x, (enc x).oneCell' = true} {w : World} {A : Option Addr} {xs : List α} {g i : Nat} {u : Value} (h : (Kd.scalar enc h1).C w A xs.length xs) (hne : ∀ x j, w.cell? ⟨g, j, none⟩ ≠ some (enc x)) :
    (Kd.scalar enc h1).C (w.setCell ⟨g, i, none⟩ u) A xs.length xs := by
  rcases Nat.eq_zero_or_pos xs.length with h0 | h0
  · obtain rfl := List.length_eq_zero_iff.1 h0
    exact C_empty
  · obtain ⟨b, off, rfl, hc⟩ := C_block h h0
    have hb : b ≠ g := by
      rintro rfl
      exact hne _ _ (hc 0 h0)
    refine C_mk h.2.1 fun k hk => ?_
    rw [← hc k hk]
    have : (w.setCell ⟨g, i, none⟩ u).heap[b]? = w.heap[b]? := Below.heap_setCell w _ u b (by simpa using hb)
    simp [World.cell?, this]
/-- the rest of a row -/
theorem C_drop {α : Type} {enc : α → Value} {h1 : ∀ x, (enc x).oneCell' = true} {w : World} {b off : Nat} {xs : List α} (h : (Kd.scalar enc h1).C w (some ⟨b, off, none⟩) xs.length xs) (k : Nat) (hk : k ≤ xs.length) :
    (Kd.scalar enc h1).C w (some ⟨b, off + k, none⟩) (xs.drop k).length (xs.drop k) := by
  rcases Nat.eq_zero_or_pos (xs.drop k).length with h0 | h0
  · rw [List.length_eq_zero_iff.1 h0]; exact C_empty
  · obtain ⟨b', off', he, hc⟩ := C_block h (by rw [List.length_drop] at h0; omega)
    injection he with he
    injection he with e1 e2 _
    subst e1; subst e2
    refine C_mk (by have := h.2.1; rw [List.length_drop]; omega) fun j hj => ?_
    rw [List.length_drop] at hj
    rw [Nat.add_assoc, hc (k + j) (by omega), List.getElem_drop]
/-- a block that was just made is a row -/
theorem C_blk {α : Type} {enc : α → Value} {h1 : ∀ x, (enc x).oneCell' = true} {w : World} {g : Nat} {e : TypeId} {fr : Nat × Nat} {xs : List α} {cs : Array Value} (hm : xs.length ≤ 9223372036854775807) (h : w.heap[g]? = some (.cells cs e fr)) (hcs : cs.toList = xs.map enc) :
    (Kd.scalar enc h1).C w (some ⟨g, 0, none⟩) xs.length xs := by
  refine C_mk hm fun k hk => ?_
  rw [Nat.zero_add, cell_of_row w g k cs e fr h, ← Array.getElem?_toList, hcs]
  simp [hk]
end Go.Proofs.YthaoiamgkpkcbaaDoor.Hlp
namespace Go.Proofs.YthaoiamgkpkcbaaDoor.Pk
open Go.ChangeShapes Go.WideShapes Go.ChangeAt Go.RowKit
open Go.Proofs.YthaoiamgkpkcbaaDoor.Hlp Go.Proofs.YthaoiamgkpkcbaaDoorW.PrintWords Go.Proofs.YthaoiamgkpkcbaaDoorW.PrintLast Go.Proofs.YthaoiamgkpkcbaaDoorW.PrintMore
set_option linter.unusedVariables false
set_option linter.unusedSimpArgs false
/-- a block keeps its elements' type -/
theorem typ_set {w : World} {p e : Nat} (a : Addr) (u : Value) (h : ∃ cs fr, w.heap[p]? = some (.cells cs e fr)) : ∃ cs fr, (w.setCell a u).heap[p]? = some (.cells cs e fr) := by
  obtain ⟨cs, fr, h⟩ := h
  by_cases hp : p = a.block
  · subst hp
    have hx : (w.setCell a u).heap[a.block]? = (w.heap[a.block]?).map fun o => match o with | .cells c elem frozen => .cells (if a.spot.isSome = true then c else c.setIfInBounds a.off u) elem frozen | o => o := by
      simp only [World.setCell, Array.getElem?_modify, if_true]
      first | rfl | (congr 1; funext o; cases o <;> rfl)
    rw [h] at hx
    exact ⟨_, _, hx⟩
  · exact ⟨cs, fr, (Below.heap_setCell w a u p hp).trans h⟩
/-- A reader's block: its bytes (a row that is read), what is wrong, whether it is inside of read. -/
structure Rd (w : World) (g : Nat) (b : Option Addr) (c : Nat) (l : List Int) (e : Int) (ins : Bool) : Prop where
  blk : w.heap[g]? = some (.cells #[.slice b l.length c, .int .i64 e, .bool ins] 110 (0, 0))
  row : Kd.C (Kd.int .u8) w b l.length l
  cap : l.length ≤ c
  bytes : ∀ x ∈ l, 0 ≤ x ∧ x < 256
  typ : l ≠ [] → ∀ p o, b = some ⟨p, o, none⟩ → ∃ cs fr, w.heap[p]? = some (.cells cs 5 fr)
section
variable {w : World} {g : Nat} {b : Option Addr} {c : Nat} {l : List Int} {e : Int} {ins : Bool}
theorem Rd.c0 (h : Rd w g b c l e ins) : w.cell? ⟨g, 0, none⟩ = some (.slice b l.length c) := by rw [blk_cell h.blk]; rfl
theorem Rd.c1 (h : Rd w g b c l e ins) : w.cell? ⟨g, 1, none⟩ = some (.int .i64 e) := by rw [blk_cell h.blk]; rfl
theorem Rd.c2 (h : Rd w g b c l e ins) : w.cell? ⟨g, 2, none⟩ = some (.bool ins) := by rw [blk_cell h.blk]; rfl
theorem Rd.f (h : Rd w g b c l e ins) (i : Nat) : w.frozen? ⟨g, i, none⟩ = false := blk_frozen h.blk i
end
theorem Rd.noByte {w : World} {g : Nat} {b : Option Addr} {c : Nat} {l : List Int} {e : Int} {ins : Bool} (h : Rd w g b c l e ins) (x : Int) (j : Nat) : w.cell? ⟨g, j, none⟩ ≠ some (.int .u8 x) := by
  rw [blk_cell h.blk]
  match j with
  | 0 => simp
  | 1 => simp
  | 2 => simp
  | j + 3 => simp
/-- what was wrong is told -/
theorem Rd.wrong {w : World} {g : Nat} {b : Option Addr} {c : Nat} {l : List Int} {e : Int} {ins : Bool} (h : Rd w g b c l e ins) (e' : Int) : Rd (w.setCell ⟨g, 1, none⟩ (.int .i64 e')) g b c l e' ins where
  blk := by rw [blk_set h.blk]; rfl
  row := C_set h.row h.noByte
  cap := h.cap
  bytes := h.bytes
  typ := fun h0 p o x => typ_set _ _ (h.typ h0 p o x)
/-- the rest of the bytes is what is left -/
theorem Rd.rest {w : World} {g bb off : Nat} {c : Nat} {l : List Int} {e : Int} {ins : Bool} (h : Rd w g (some ⟨bb, off, none⟩) c l e ins) (k : Nat) (hk : k ≤ l.length) :
    Rd (w.setCell ⟨g, 0, none⟩ (.slice (some ⟨bb, off + k, none⟩) (l.drop k).length (c - k))) g (some ⟨bb, off + k, none⟩) (c - k) (l.drop k) e ins where
  blk := by rw [blk_set h.blk]; rfl
  row := C_set (C_drop h.row k hk) h.noByte
  cap := by have := h.cap; rw [List.length_drop]; omega
  bytes := fun x hx => h.bytes x (List.mem_of_mem_drop hx)
  typ := fun h0 p o x => by
    injection x with x; injection x with x1 _; subst x1
    exact typ_set _ _ (h.typ (by rintro rfl; simp at h0) bb off rfl)
/-- .. or the slice as a whole, where its room is used up -/
theorem Rd.none {w : World} {g : Nat} {b : Option Addr} {c : Nat} {l : List Int} {e : Int} {ins : Bool} (h : Rd w g b c l e ins) (c' : Nat) :
    Rd (w.setCell ⟨g, 0, none⟩ (.slice b 0 c')) g b c' [] e ins where
  blk := by rw [blk_set h.blk]; rfl
  row := C_empty
  cap := Nat.zero_le _
  bytes := by simp
  typ := fun h0 => absurd rfl h0
theorem upd_set (w : World) (g i : Nat) (u : Value) : w.grownBy (w.setCell ⟨g, i, none⟩ u) (some g) :=
  ⟨rfl, rfl, rfl, by simp [World.setCell], fun k _ hk => Below.heap_setCell w _ u k (by intro e; exact hk (by rw [e]))⟩
theorem upd_refl (w : World) (row : Option Nat) : w.grownBy w row := ⟨rfl, rfl, rfl, Nat.le_refl _, fun _ _ _ => rfl⟩
theorem upd_trans {w w1 w2 : World} {row : Option Nat} (h : w.grownBy w1 row) (k : w1.grownBy w2 row) : w.grownBy w2 row :=
  ⟨k.os.trans h.os, k.tape.trans h.tape, k.output.trans h.output, Nat.le_trans h.size k.size, fun i hi hr => (k.block i (Nat.lt_of_lt_of_le hi h.size) hr).trans (h.block i hi hr)⟩
/-- dead: was anything wrong? -/
theorem dead_ {w : World} {g : Nat} {b : Option Addr} {c : Nat} {l : List Int} {e : Int} {ins : Bool} (h : Rd w g b c l e ins) :
    Calls Tryd.prog 77 #[.pointer (some ⟨g, 0, none⟩)] w fun x w' => x = .returned (.bool (e != 0)) ∧ w = w' := by
  have h1 := h.c1
  go_enter Tryd.func77, Tryd.ntmps77
  go_wp2
  go_ret
  exact ⟨rfl, rfl⟩
/-- fail, outside of read -/
theorem fail_ {w : World} {g : Nat} {b : Option Addr} {c : Nat} {l : List Int} {e : Int} (h : Rd w g b c l e false) (e' : Int) :
    Calls Tryd.prog 79 #[.pointer (some ⟨g, 0, none⟩), .int .i64 e'] w fun x w' => x = .returned (.tuple #[]) ∧ w' = w.setCell ⟨g, 1, none⟩ (.int .i64 e') := by
  have h1 := h.c1
  have h2 := h.c2
  have f1 := h.f 1
  have h3 := (h.wrong e').c2
  go_enter Tryd.func79, Tryd.ntmps79
  go_wp2
  go_end0
  exact ⟨rfl, rfl⟩
theorem failed_ {w : World} {g : Nat} {b : Option Addr} {c : Nat} {l : List Int} {e : Int} {ins : Bool} (h : Rd w g b c l e ins) :
    Calls Tryd.prog 81 #[.pointer (some ⟨g, 0, none⟩)] w fun x w' => x = .returned (.bool (e != 0)) ∧ w = w' := by
  go_enter Tryd.func81, Tryd.ntmps81
  go_wp2_with (go_at_call 77; refine (dead_ h).mono ?_; rintro e w' ⟨rfl, rfl⟩)
  go_ret
  exact ⟨rfl, rfl⟩
/-- what End tells -/
def endP (l : List Int) (e : Int) : Int := if e = 0 then (if l = [] then 0 else 11) else e
theorem end_ {w : World} {g : Nat} {b : Option Addr} {c : Nat} {l : List Int} {e : Int} {ins : Bool} (h : Rd w g b c l e ins) :
    Calls Tryd.prog 48 #[.pointer (some ⟨g, 0, none⟩)] w fun x w' => x = .returned (.int .i64 (endP l e)) ∧ w = w' := by
  have h0 := h.c0
  have h1 := h.c1
  have hm := h.row.2.1
  unfold endP
  by_cases he : e = 0
  · rw [if_pos he]
    subst he
    by_cases hl : l = []
    · rw [if_pos hl]
      subst hl
      go_enter Tryd.func48, Tryd.ntmps48
      go_wp2
      go_ret
      exact ⟨rfl, rfl⟩
    · rw [if_neg hl]
      have hp : 0 < l.length := List.length_pos_iff.2 hl
      have t := decide_eq_true hp
      go_enter Tryd.func48, Tryd.ntmps48
      go_wp2
      go_ret
      exact ⟨rfl, rfl⟩
  · rw [if_neg he]
    have t : (e != 0) = true := bne_iff_ne.2 he
    go_enter Tryd.func48, Tryd.ntmps48
    go_wp2
    go_ret
    exact ⟨rfl, rfl⟩
end Go.Proofs.YthaoiamgkpkcbaaDoor.Pk
namespace Go.Proofs.YthaoiamgkpkcbaaDoor.Wrd
open Go
theorem or_byte {u c : Int} (h0 : 0 ≤ u) (h1 : u < 72057594037927936) (h2 : 0 ≤ c) (h3 : c < 256) : bits .or .u64 (u * 256) c = u * 256 + c := by
  obtain ⟨U, rfl⟩ := Int.eq_ofNat_of_zero_le h0
  obtain ⟨C, rfl⟩ := Int.eq_ofNat_of_zero_le h2
  have := u64_or_nat (U * 256) C (by omega) (by omega)
  have e : (((U * 256 : Nat)) : Int) = (U : Int) * 256 := by omega
  rw [e] at this
  rw [this]
  have h := Nat.two_pow_add_eq_or_of_lt (i := 8) (b := C) (by omega) U
  rw [show U * 256 = 2 ^ 8 * U from by omega, ← h]
  omega
/-- a word out of its bytes, the highest first -/
def wordOf (l : List Int) : Int := l.foldl (fun u c => u * 256 + c) 0
theorem wordOf_snoc (l : List Int) (c : Int) : wordOf (l ++ [c]) = wordOf l * 256 + c := by unfold wordOf; rw [List.foldl_append]; rfl
theorem wordFrom_bd : ∀ (l : List Int) (a : Int) (n : Nat), 0 ≤ a → a < 256 ^ n → (∀ x ∈ l, 0 ≤ x ∧ x < 256) → 0 ≤ l.foldl (fun u c => u * 256 + c) a ∧ l.foldl (fun u c => u * 256 + c) a < 256 ^ (n + l.length)
  | [], a, n, h0, h1, _ => ⟨h0, h1⟩
  | c :: l, a, n, h0, h1, h => by
    obtain ⟨h3, h4⟩ := h c List.mem_cons_self
    have := wordFrom_bd l (a * 256 + c) (n + 1) (by omega) (by rw [Int.pow_succ]; omega) (fun x hx => h x (List.mem_cons_of_mem _ hx))
    rw [List.foldl_cons, List.length_cons, show n + (l.length + 1) = n + 1 + l.length from by omega]
    exact this
theorem wordOf_bd (l : List Int) (h : ∀ x ∈ l, 0 ≤ x ∧ x < 256) : 0 ≤ wordOf l ∧ wordOf l < 256 ^ l.length := by
  have := wordFrom_bd l 0 0 (by omega) (by decide) h
  rwa [Nat.zero_add] at this
end Go.Proofs.YthaoiamgkpkcbaaDoor.Wrd
namespace Go.Proofs.YthaoiamgkpkcbaaDoor.Pk
open Go.ChangeShapes Go.WideShapes Go.ChangeAt Go.RowKit
open Go.Proofs.YthaoiamgkpkcbaaDoor.Hlp Go.Proofs.YthaoiamgkpkcbaaDoor.Wrd Go.Proofs.YthaoiamgkpkcbaaDoorW.PrintWords Go.Proofs.YthaoiamgkpkcbaaDoorW.PrintLast Go.Proofs.YthaoiamgkpkcbaaDoorW.PrintMore
set_option linter.unusedVariables false
set_option linter.unusedSimpArgs false
/-- the number at the begin: it, the bytes that it takes, what is wrong -/
def peekP : List Int → Int × Int × Int
  | [] => (0, 0, 12)
  | k :: r => if 8 < k then (0, 0, 11) else if (r.length : Int) < k then (0, 0, 12) else if 0 < k ∧ r.getD 0 0 = 0 then (0, 0, 11) else (wrap64 (wordOf (r.take k.toNat)), 1 + k, 0)
theorem peekP_cons (k : Int) (r : List Int) : peekP (k :: r) = if 8 < k then (0, 0, 11) else if (r.length : Int) < k then (0, 0, 12) else if 0 < k ∧ r.getD 0 0 = 0 then (0, 0, 11) else (wrap64 (wordOf (r.take k.toNat)), 1 + k, 0) := rfl
def peekV (l : List Int) : Value := .tuple #[.int .i64 (peekP l).1, .int .i64 (peekP l).2.1, .int .i64 (peekP l).2.2]
theorem peekV_of {l : List Int} {a b c : Int} (h : peekP l = (a, b, c)) : peekV l = .tuple #[.int .i64 a, .int .i64 b, .int .i64 c] := by unfold peekV; rw [h]
set_option maxRecDepth 100000 in
set_option maxHeartbeats 2000000 in
theorem peek_ {w : World} {g : Nat} {b : Option Addr} {c : Nat} {l : List Int} {e : Int} {ins : Bool} (h : Rd w g b c l e ins) :
    Calls Tryd.prog 78 #[.pointer (some ⟨g, 0, none⟩)] w fun x w' => x = .returned (peekV l) ∧ w = w' := by
  have h0 := h.c0
  have hm := h.row.2.1
  cases l with
  | nil =>
    have V := Lib.hid (peekV_of (rfl : peekP [] = (0, 0, 12)))
    go_enter Tryd.func78, Tryd.ntmps78
    go_wp2
    go_ret3
    exact ⟨by rw [V.out]; rfl, rfl⟩
  | cons k r =>
    obtain ⟨bb, off, rfl, hc⟩ := C_block h.row (by simp)
    have hc0 := hc 0 (by simp)
    rw [List.getElem_cons_zero, Nat.add_zero] at hc0
    have hcap := h.cap
    obtain ⟨hk0, hk1⟩ := h.bytes k List.mem_cons_self
    have HB := Aside0.mk (fun x hx => h.bytes x (List.mem_cons_of_mem k hx))
    have HC := Aside0.mk hc
    simp only [List.length_cons] at h0 hm hcap
    clear hc h
    by_cases h8 : 8 < k
    · have V := Lib.hid (peekV_of (show peekP (k :: r) = (0, 0, 11) by rw [peekP_cons, if_pos h8]))
      have t := decide_eq_true h8
      go_enter Tryd.func78, Tryd.ntmps78
      go_wp2
      go_ret3
      exact ⟨by rw [V.out]; rfl, rfl⟩
    have t := decide_eq_false h8
    by_cases hs : (r.length : Int) < k
    · have V := Lib.hid (peekV_of (show peekP (k :: r) = (0, 0, 12) by rw [peekP_cons, if_neg h8, if_pos hs]))
      have t2 : decide ((r.length : Int) + 1 ≤ k) = true := decide_eq_true (by omega)
      go_enter Tryd.func78, Tryd.ntmps78
      go_wp2
      go_ret3
      exact ⟨by rw [V.out]; rfl, rfl⟩
    have t2 : decide ((r.length : Int) + 1 ≤ k) = false := decide_eq_false (by omega)
    by_cases hz : 0 < k ∧ r.getD 0 0 = 0
    · have V := Lib.hid (peekV_of (show peekP (k :: r) = (0, 0, 11) by rw [peekP_cons, if_neg h8, if_neg hs, if_pos hz]))
      obtain ⟨hz1, hz2⟩ := hz
      have hr0 : 0 < r.length := by omega
      have hc1 := HC.out 1 (by simp; omega)
      have hz3 : (k :: r)[1]'(by simp; omega) = 0 := by rw [List.getElem_cons_succ, ← hz2]; simp [hr0]
      rw [hz3] at hc1
      have t3 := decide_eq_true hz1
      clear hz2 hz3
      go_enter Tryd.func78, Tryd.ntmps78
      go_wp2
      go_ret3
      exact ⟨by rw [V.out]; rfl, rfl⟩
    have V := Lib.hid (peekV_of (show peekP (k :: r) = (wrap64 (wordOf (r.take k.toNat)), 1 + k, 0) by rw [peekP_cons, if_neg h8, if_neg hs, if_neg hz]))
    by_cases hk : k = 0
    · subst hk
      have W0 : Aside0 (wrap64 (wordOf (r.take (0 : Int).toNat)) = 0) := ⟨by simp [wordOf, wrap64]⟩
      by_cases hc1 : c = 1
      · subst hc1
        obtain rfl : r = [] := by cases r; rfl; simp at hcap
        go_enter Tryd.func78, Tryd.ntmps78
        go_wp2
        go_loop [6, 53] (fun u i => u = .int .u64 0 ∧ i = .int .i64 0) (fun _ _ => 0)
        case atStart => exact ⟨rfl, rfl⟩
        case round =>
          obtain ⟨rfl, rfl⟩ := hrel
          go_wp2
          go_ret3
          exact ⟨by rw [V.out, W0.out]; rfl, rfl⟩
      · have hc2 : (c == 1) = false := by simpa using hc1
        go_enter Tryd.func78, Tryd.ntmps78
        go_wp2
        go_loop [6, 53] (fun u i => u = .int .u64 0 ∧ i = .int .i64 0) (fun _ _ => 0)
        case atStart => exact ⟨rfl, rfl⟩
        case round =>
          obtain ⟨rfl, rfl⟩ := hrel
          go_wp2
          go_ret3
          exact ⟨by rw [V.out, W0.out]; rfl, rfl⟩
    · have t3 : decide (0 < k) = true := decide_eq_true (by omega)
      have hr0 : 0 < r.length := by omega
      have hc1 := HC.out 1 (by simp; omega)
      have hz3 : r[0] ≠ 0 := fun e => hz ⟨by omega, by simp [hr0, e]⟩
      rw [List.getElem_cons_succ] at hc1
      have t4 : (r[0] == 0) = false := beq_eq_false_iff_ne.2 hz3
      generalize r[0] = y at *
      clear hz3 hz
      obtain ⟨n, rfl⟩ := Int.eq_ofNat_of_zero_le hk0
      have hc2 : (c == 1) = false := by simp; omega
      go_enter Tryd.func78, Tryd.ntmps78
      go_wp2
      have hn8 : n ≤ 8 := by omega
      have hnl : n ≤ r.length := by omega
      rw [Int.toNat_natCast] at V
      go_loop [6, 53] (fun u i => ∃ j : Nat, j ≤ n ∧ u = .int .u64 (wordOf (r.take j)) ∧ i = .int .i64 j) (fun _ i => n - (intOf i).toNat)
      case atStart => exact ⟨0, by omega, rfl, rfl⟩
      case round =>
        obtain ⟨j, hj, rfl, rfl⟩ := hrel
        by_cases hlt : j < n
        · have hjl : j < r.length := by omega
          have hcell := HC.out (j + 1) (by simp; omega)
          rw [List.getElem_cons_succ, show off + (j + 1) = off + 1 + j from by omega] at hcell
          have HT : Aside0 (wordOf (r.take (j + 1)) = wordOf (r.take j) * 256 + r[j]) := ⟨by rw [List.take_succ_eq_append_getElem hjl, wordOf_snoc]⟩
          obtain ⟨hx0, hx1⟩ := HB.out r[j] (List.getElem_mem hjl)
          have hU := wordOf_bd (r.take j) (fun x hx => HB.out x (List.mem_of_mem_take hx))
          rw [List.length_take, Nat.min_eq_left (by omega)] at hU
          have hp : (256 : Int) ^ j ≤ 256 ^ 7 := by
            have := Nat.pow_le_pow_right (n := 256) (by decide) (show j ≤ 7 by omega)
            have e : ((256 ^ j : Nat) : Int) ≤ ((256 ^ 7 : Nat) : Int) := Int.ofNat_le.2 this
            simpa using e
          have hU0 := hU.1
          have hU1 : wordOf (r.take j) < 72057594037927936 := by have := hU.2; omega
          have HO := Aside0.mk (or_byte hU0 hU1 hx0 hx1)
          clear hU hp
          have t9 : decide ((j : Int) < (n : Int)) = true := decide_eq_true (by omega)
          generalize r[j] = x at *
          generalize wordOf (r.take j) = u at *
          go_wp2_with fail
          go_round
          case rel => exact ⟨j + 1, by omega, by rw [HT.out, ← HO.out], by go_num⟩
          case measure => simp [intOf]; omega
        · obtain rfl : j = n := by omega
          clear HB HC
          generalize wordOf (r.take j) = u at *
          go_wp2_with fail
          go_ret3
          exact ⟨by rw [V.out]; rfl, rfl⟩
end Go.Proofs.YthaoiamgkpkcbaaDoor.Pk
