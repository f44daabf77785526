/- The reader of pack: its block, and the contracts of dead, fail, Failed, Left, End. Conditions: a reader whose bytes fit in memory. -/
import Derived.Test.YtfhgclojfjiblaaRows
import Derived.Test.YtfhgclojfjiblaaWWords
import Derived.Test.YtfhgclojfjiblaaWLast
import Derived.Test.YtfhgclojfjiblaaWMore
import Derived.Test.YtfhgclojfjiblaaZPackBack0
import Derived.WalkKit
import Derived.ProofKit
import Derived.OpenShut
import Derived.WalkLawsBesides
import Derived.Lib.Hide
import Derived.Deep.LoopGhost
import Derived.Deep.QuietTactic
import Derived.BigQuiet
import Derived.WideLaws
namespace Go.Proofs.Ytfhgclojfjiblaa.Pk
open Go.ChangeShapes Go.WideShapes Go.ChangeAt Go.RowKit
open Go.Proofs.Ytfhgclojfjiblaa.Hlp Go.Proofs.YtfhgclojfjiblaaW.PrintWords Go.Proofs.YtfhgclojfjiblaaW.PrintLast Go.Proofs.YtfhgclojfjiblaaW.PrintMore
set_option linter.unusedVariables false
set_option linter.unusedSimpArgs false
theorem ret_i {k : IntKind} {a b : Int} (h : a = b) : Ending.returned (.int k a) = .returned (.int k b) := by rw [h]
theorem ret_b {a b : Bool} (h : a = b) : Ending.returned (.bool a) = .returned (.bool b) := by rw [h]

/-- A reader's block: its bytes (a row that is read), what is wrong, whether it is inside of read. -/
structure Rd (w : World) (g : Nat) (b : Option Addr) (c : Nat) (l : List Int) (e : Int) (ins : Bool) : Prop where
  blk : w.heap[g]? = some (.cells #[.slice b l.length c, .int .i64 e, .bool ins] 61 (0, 0))
  row : Kd.C (Kd.int .u8) w b l.length l
  cap : l.length ≤ c
  bytes : ∀ x ∈ l, 0 ≤ x ∧ x < 256

section
variable {w : World} {g : Nat} {b : Option Addr} {c : Nat} {l : List Int} {e : Int} {ins : Bool}
theorem Rd.c0 (h : Rd w g b c l e ins) : w.cell? ⟨g, 0, none⟩ = some (.slice b l.length c) := by rw [blk_cell h.blk]; rfl
theorem Rd.c1 (h : Rd w g b c l e ins) : w.cell? ⟨g, 1, none⟩ = some (.int .i64 e) := by rw [blk_cell h.blk]; rfl
theorem Rd.c2 (h : Rd w g b c l e ins) : w.cell? ⟨g, 2, none⟩ = some (.bool ins) := by rw [blk_cell h.blk]; rfl
theorem Rd.f (h : Rd w g b c l e ins) (i : Nat) : w.frozen? ⟨g, i, none⟩ = false := blk_frozen h.blk i
end

theorem Rd.noByte {w : World} {g : Nat} {b : Option Addr} {c : Nat} {l : List Int} {e : Int} {ins : Bool} (h : Rd w g b c l e ins) (x : Int) (j : Nat) : w.cell? ⟨g, j, none⟩ ≠ some (.int .u8 x) := by
  rw [blk_cell h.blk]
  match j with
  | 0 => simp
  | 1 => simp
  | 2 => simp
  | j + 3 => simp
/-- what was wrong is told -/
theorem Rd.wrong {w : World} {g : Nat} {b : Option Addr} {c : Nat} {l : List Int} {e : Int} {ins : Bool} (h : Rd w g b c l e ins) (e' : Int) : Rd (w.setCell ⟨g, 1, none⟩ (.int .i64 e')) g b c l e' ins where
  blk := by rw [blk_set h.blk]; rfl
  row := C_set h.row h.noByte
  cap := h.cap
  bytes := h.bytes
/-- the rest of the bytes is what is left -/
theorem Rd.rest {w : World} {g bb off : Nat} {c : Nat} {l : List Int} {e : Int} {ins : Bool} (h : Rd w g (some ⟨bb, off, none⟩) c l e ins) (k : Nat) (hk : k ≤ l.length) :
    Rd (w.setCell ⟨g, 0, none⟩ (.slice (some ⟨bb, off + k, none⟩) (l.drop k).length (c - k))) g (some ⟨bb, off + k, none⟩) (c - k) (l.drop k) e ins where
  blk := by rw [blk_set h.blk]; rfl
  row := C_set (C_drop h.row k hk) h.noByte
  cap := by have := h.cap; rw [List.length_drop]; omega
  bytes := fun x hx => h.bytes x (List.mem_of_mem_drop hx)
/-- .. or the slice as a whole, where its room is used up -/
theorem Rd.none {w : World} {g : Nat} {b : Option Addr} {c : Nat} {l : List Int} {e : Int} {ins : Bool} (h : Rd w g b c l e ins) (c' : Nat) :
    Rd (w.setCell ⟨g, 0, none⟩ (.slice b 0 c')) g b c' [] e ins where
  blk := by rw [blk_set h.blk]; rfl
  row := C_empty
  cap := Nat.zero_le _
  bytes := by simp
theorem upd_set (w : World) (g i : Nat) (u : Value) : w.grownBy (w.setCell ⟨g, i, none⟩ u) (some g) :=
  ⟨rfl, rfl, rfl, by simp [World.setCell], fun k _ hk => Below.heap_setCell w _ u k (by intro e; exact hk (by rw [e]))⟩
theorem upd_refl (w : World) (row : Option Nat) : w.grownBy w row := ⟨rfl, rfl, rfl, Nat.le_refl _, fun _ _ _ => rfl⟩
theorem upd_trans {w w1 w2 : World} {row : Option Nat} (h : w.grownBy w1 row) (k : w1.grownBy w2 row) : w.grownBy w2 row :=
  ⟨k.os.trans h.os, k.tape.trans h.tape, k.output.trans h.output, Nat.le_trans h.size k.size, fun i hi hr => (k.block i (Nat.lt_of_lt_of_le hi h.size) hr).trans (h.block i hi hr)⟩
theorem upd_drewN {w w1 : World} {row : Option Nat} (h : w.grownBy w1 row) (n : Nat) : w.grownBy (w1.drewN n) row := ⟨h.os, h.tape, h.output, h.size, h.block⟩

/-- dead: was anything wrong? -/
theorem dead_ {w : World} {g : Nat} {b : Option Addr} {c : Nat} {l : List Int} {e : Int} {ins : Bool} (h : Rd w g b c l e ins) :
    Calls Try.prog 32 #[.pointer (some ⟨g, 0, none⟩)] w fun x w' => x = .returned (.bool (e != 0)) ∧ w = w' := by
  have h1 := h.c1
  go_enter Try.func32, Try.ntmps32
  go_wp2
  go_ret
  exact ⟨rfl, rfl⟩
/-- fail, outside of read -/
theorem fail_ {w : World} {g : Nat} {b : Option Addr} {c : Nat} {l : List Int} {e : Int} (h : Rd w g b c l e false) (e' : Int) :
    Calls Try.prog 33 #[.pointer (some ⟨g, 0, none⟩), .int .i64 e'] w fun x w' => x = .returned (.tuple #[]) ∧ w' = w.setCell ⟨g, 1, none⟩ (.int .i64 e') := by
  have h1 := h.c1
  have h2 := h.c2
  have f1 := h.f 1
  have h3 := (h.wrong e').c2
  go_enter Try.func33, Try.ntmps33
  go_wp2
  go_end0
  exact ⟨rfl, rfl⟩
theorem failed_ {w : World} {g : Nat} {b : Option Addr} {c : Nat} {l : List Int} {e : Int} {ins : Bool} (h : Rd w g b c l e ins) :
    Calls Try.prog 23 #[.pointer (some ⟨g, 0, none⟩)] w fun x w' => x = .returned (.bool (e != 0)) ∧ w = w' := by
  go_enter Try.func23, Try.ntmps23
  go_wp2_with (go_at_call 32; refine (dead_ h).mono ?_; rintro e w' ⟨rfl, rfl⟩)
  go_ret
  exact ⟨rfl, rfl⟩
theorem left_ {w : World} {g : Nat} {b : Option Addr} {c : Nat} {l : List Int} {e : Int} {ins : Bool} (h : Rd w g b c l e ins) :
    Calls Try.prog 21 #[.pointer (some ⟨g, 0, none⟩)] w fun x w' => x = .returned (.int .i64 l.length) ∧ w = w' := by
  have h0 := h.c0
  go_enter Try.func21, Try.ntmps21
  go_wp2
  go_ret
  exact ⟨rfl, rfl⟩
/-- what End tells -/
def endP (l : List Int) (e : Int) : Int := if e = 0 then (if l = [] then 0 else 11) else e
theorem end_ {w : World} {g : Nat} {b : Option Addr} {c : Nat} {l : List Int} {e : Int} {ins : Bool} (h : Rd w g b c l e ins) :
    Calls Try.prog 19 #[.pointer (some ⟨g, 0, none⟩)] w fun x w' => x = .returned (.int .i64 (endP l e)) ∧ w = w' := by
  have h0 := h.c0
  have h1 := h.c1
  have hm := h.row.2.1
  unfold endP
  by_cases he : e = 0
  · rw [if_pos he]
    subst he
    by_cases hl : l = []
    · rw [if_pos hl]
      subst hl
      go_enter Try.func19, Try.ntmps19
      go_wp2
      go_ret
      exact ⟨rfl, rfl⟩
    · rw [if_neg hl]
      have hp : 0 < l.length := List.length_pos_iff.2 hl
      have t := decide_eq_true hp
      go_enter Try.func19, Try.ntmps19
      go_wp2
      go_ret
      exact ⟨rfl, rfl⟩
  · rw [if_neg he]
    have t : (e != 0) = true := bne_iff_ne.2 he
    go_enter Try.func19, Try.ntmps19
    go_wp2
    go_ret
    exact ⟨rfl, rfl⟩
theorem end_nil {w : World} : Calls Try.prog 19 #[.pointer none] w fun x w' => x = .returned (.int .i64 1) ∧ w = w' := by
  go_enter Try.func19, Try.ntmps19
  go_wp2
  go_ret
  exact ⟨rfl, rfl⟩
end Go.Proofs.Ytfhgclojfjiblaa.Pk
