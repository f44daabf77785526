/- Written by a program of this session over the kit's print: functions and their contracts. · tags.Check, None, Right, plain. · The contract of tags.Get, outside of read. Conditions: bytes that fit in memory. · An entry that lies in a block of its own: its cells, and the six stores that lay one. Conditions: none. · The contracts of tags.Copy, tags.Newer and the reference's Newer. Conditions: bytes that fit in memory. · How tags stand, plain: by their numbers, one behind the other. And what holds from some count of rounds on. -/
import Derived.Test.YthaoiamgkpkcbaaDoorYMsgsReads10
import Derived.Test.YthaoiamgkpkcbaaDoorYMsgsReads11
import Derived.Laws.BytesArg

namespace Go.Proofs.YthaoiamgkpkcbaaDoor.QA
open Go.RowKit Go.Proofs.YthaoiamgkpkcbaaDoorW.PrintWords Go.Proofs.YthaoiamgkpkcbaaDoorW.PrintLast Go.Proofs.YthaoiamgkpkcbaaDoorW.PrintMore
attribute [local go_sem] max2_int min2_int max_two min_two max_three min_three max_four min_four   -- for this text's walks alone
set_option linter.unusedVariables false
set_option linter.unusedSimpArgs false
end Go.Proofs.YthaoiamgkpkcbaaDoor.QA
namespace Go.Proofs.YthaoiamgkpkcbaaDoor.Tg
open Go.RowKit Go.Proofs.YthaoiamgkpkcbaaDoor.QA Go.Proofs.YthaoiamgkpkcbaaDoorW.PrintWords Go.Proofs.YthaoiamgkpkcbaaDoorW.PrintLast Go.Proofs.YthaoiamgkpkcbaaDoorW.PrintMore
set_option linter.unusedVariables false
set_option linter.unusedSimpArgs false
/-- a tag that may be -/
def okTag (a b c : Int) : Prop := 0 ≤ a ∧ a ≤ 1099511627775 ∧ 0 ≤ b ∧ b ≤ 1048575 ∧ 0 ≤ c ∧ c ≤ 1048575 ∧ (a = 0 → b = 0 ∧ c = 0)
instance (a b c : Int) : Decidable (okTag a b c) := by unfold okTag; infer_instance
def checkV (a b c : Int) : Int := if okTag a b c then 0 else 2
theorem check_f (a b c : Int) : tags_Check.f a b c = some (checkV a b c) := by
  unfold tags_Check.f checkV okTag
  by_cases h1 : a ≥ 0
  · by_cases h2 : a ≤ 1099511627775
    · by_cases h3 : b ≥ 0
      · by_cases h4 : b ≤ 1048575
        · by_cases h5 : c ≥ 0
          · by_cases h6 : c ≤ 1048575
            · by_cases h7 : a = 0
              · subst h7
                by_cases h8 : b = 0 <;> by_cases h9 : c = 0 <;> simp [h8, h9] <;> omega
              · simp [h1, h2, h3, h4, h5, h6, h7]
            · simp [h1, h2, h3, h4, h5, h6]
          · simp [h1, h2, h3, h4, h5]
        · simp [h1, h2, h3, h4]
      · simp [h1, h2, h3]
    · simp [h1, h2]
  · simp [h1]
/-- an entry that may be -/
def okEnt (k : ByteArray) (a b c : Int) (h : Bool) (v : List Int) : Prop := 1 ≤ k.size ∧ k.size ≤ 250 ∧ v.length ≤ 60000 ∧ (h = false → v.length = 0) ∧ okTag a b c ∧ (a = 0 → h = false)
instance (k : ByteArray) (a b c : Int) (h : Bool) (v : List Int) : Decidable (okEnt k a b c h v) := by unfold okEnt; infer_instance
def rightV (k : ByteArray) (a b c : Int) (h : Bool) (v : List Int) : Int := if okEnt k a b c h v then 0 else 2
theorem right_f (k : ByteArray) (a b c : Int) (h : Bool) (v : List Int) : tags_Right.f 1 k a b c h v = some (rightV k a b c h v) := by
  unfold tags_Right.f tags_Right.j0 rightV okEnt tags_None.f
  simp only [check_f, Option.bind_some]
  by_cases h1 : (k.size : Int) = 0
  · have : ¬ (1 ≤ k.size) := by omega
    simp [h1, this]
  · have e1 : 1 ≤ k.size := by omega
    by_cases h2 : (k.size : Int) > 250
    · have : ¬ (k.size ≤ 250) := by omega
      simp [h1, h2, this]
    · have e2 : k.size ≤ 250 := by omega
      by_cases h3 : (v.length : Int) > 60000
      · have : ¬ (v.length ≤ 60000) := by omega
        simp [h1, h2, h3, this]
      · have e3 : v.length ≤ 60000 := by omega
        rw [if_neg h1, if_neg h2, if_neg h3]
        unfold checkV
        by_cases h5 : okTag a b c
        · cases h
          · by_cases h6 : v.length = 0
            · by_cases h7 : a = 0 <;> simp [e1, e2, e3, h5, h6, h7]
            · have : (v.length : Int) > 0 := by omega
              simp [e1, e2, e3, h5, h6, this]
          · by_cases h7 : a = 0 <;> simp [e1, e2, e3, h5, h7]
        · cases h
          · by_cases h6 : v.length = 0
            · simp [e1, e2, e3, h5, h6]
            · have : (v.length : Int) > 0 := by omega
              simp [e1, e2, e3, h5, h6, this]
          · simp [e1, e2, e3, h5]
theorem right_c {w : World} {A : Option Addr} {n c' : Nat} {v : List Int} (k : ByteArray) (a b c : Int) (h : Bool) (hr : Kd.C (Kd.int .u8) w A n v) (hc : n ≤ c') :
    Calls Tryd.prog 38 #[.agg #[.string k, .int .i64 a, .int .i64 b, .int .i64 c, .bool h, .slice A n c']] w fun e w' => e = .returned (.int .i64 (rightV k a b c h v)) ∧ Below w.heap.size w w' := by
  obtain rfl : v.length = n := hr.1
  exact tags_Right.calls 1 k a b c h A c' v _ w hr hc (right_f k a b c h v)
end Go.Proofs.YthaoiamgkpkcbaaDoor.Tg
namespace Go.Proofs.YthaoiamgkpkcbaaDoor.Tg
open Go.ChangeShapes Go.WideShapes Go.ChangeAt Go.RowKit Go.Proofs.YthaoiamgkpkcbaaDoor.Pk
open Go.Proofs.YthaoiamgkpkcbaaDoor.Hlp Go.Proofs.YthaoiamgkpkcbaaDoor.Wrd Go.Proofs.YthaoiamgkpkcbaaDoorW.PrintWords Go.Proofs.YthaoiamgkpkcbaaDoorW.PrintLast Go.Proofs.YthaoiamgkpkcbaaDoorW.PrintMore
set_option linter.unusedVariables false
set_option linter.unusedSimpArgs false
/-- the bytes of a row that is read, as a string -/
theorem conv_str {w : World} {A : Option Addr} {n c : Nat} {xs : List Int} (h : Kd.C (Kd.int .u8) w A n xs) : (Go.convert 24 9 (.slice A n c)).run Tryd.prog w = .ok (.string (strOfNums xs)) w := by
  obtain rfl : xs.length = n := h.1
  rcases Nat.eq_zero_or_pos xs.length with h0 | h0
  · cases A with
    | none =>
      rw [run_convert_bytes_nil w 24 5 Tryd.underlying24 Tryd.underlying5 _ _ 9 Tryd.underlying9, List.length_eq_zero_iff.1 h0]
      rfl
    | some a =>
      rw [run_convert_bytes_string w 24 9 5 _ _ _ Tryd.underlying24 Tryd.underlying5 Tryd.underlying9, run_bytesToString w a _ c xs (by rw [List.length_eq_zero_iff.1 h0]; rfl), List.length_eq_zero_iff.1 h0]
      rfl
  · obtain ⟨bb, off, rfl, hc⟩ := C_block h h0
    exact run_convert_bytes_arg w 24 5 Tryd.underlying24 Tryd.underlying5 bb off _ c xs rfl (fun i hi => by rw [hc i hi]; simp [List.getD, List.getElem?_eq_getElem hi]) 9 Tryd.underlying9
theorem Rd.setE {w : World} {g E : Nat} {b : Option Addr} {c : Nat} {l : List Int} {e : Int} {ins : Bool} {cs : Array Value} {t : TypeId} (h : Rd w g b c l e ins) (hE : w.heap[E]? = some (.cells cs t (0, 0))) (hne : g ≠ E) (hno : ∀ (j : Nat) (x : Int), cs[j]? ≠ some (Value.int .u8 x)) (i : Nat) (u : Value) :
    Rd (w.setCell ⟨E, i, none⟩ u) g b c l e ins where
  blk := by rw [Below.heap_setCell w _ u g (by intro x; exact hne x)]; exact h.blk
  row := C_set h.row (fun x j => by rw [blk_cell hE]; exact hno j x)
  cap := h.cap
  bytes := h.bytes
  typ := fun h0 p o x => typ_set _ _ (h.typ h0 p o x)
/-- what an entry read is -/
structure En where
  k : List Int
  a : Int
  b : Int
  c : Int
  h : Bool
  v : List Int
def En.zero : En := ⟨[], 0, 0, 0, false, []⟩
def getS (s : St) : En × St :=
  let (k, s1) := rowS s
  let (a, s2) := belowS 1099511627776 s1
  let (b, s3) := belowS 1048576 s2
  let (c, s4) := belowS 1048576 s3
  let (h, s5) := truthS s4
  let (v, s6) := if h then rowS s5 else ([], s5)
  if s6.e = 0 ∧ okEnt (strOfNums k) a b c h v then (⟨k, a, b, c, h, v⟩, s6) else (En.zero, failS s6)
/-- the entry and the result that are being made, beside the reader -/
structure Fr (w W : World) (g N E : Nat) (cN cE : Array Value) (s : St) : Prop where
  rd : ∃ b c, Rd W g b c s.l s.e false
  up : w.grownBy W (some g)
  bN : W.heap[N]? = some (.cells cN 28 (0, 0))
  bE : W.heap[E]? = some (.cells cE 28 (0, 0))
  gN : w.heap.size ≤ N
  gE : w.heap.size ≤ E
  ne : N ≠ E
  nN : g ≠ N
  nE : g ≠ E
abbrev zEn : Array Value := #[.string ⟨#[]⟩, .int .i64 0, .int .i64 0, .int .i64 0, .bool false, .slice none 0 0]
theorem Fr.step {w W W' : World} {g N E : Nat} {cN cE : Array Value} {s s' : St} (h : Fr w W g N E cN cE s) (hA : At W g false s' W') : Fr w W' g N E cN cE s' := by
  obtain ⟨b, c, hr, hg⟩ := hA
  exact ⟨⟨b, c, hr⟩, upd_trans h.up hg, blk_grown h.bN hg (by intro x; injection x with x; exact h.nN x.symm), blk_grown h.bE hg (by intro x; injection x with x; exact h.nE x.symm), h.gN, h.gE, h.ne, h.nN, h.nE⟩
theorem Fr.below {w W W' : World} {g N E : Nat} {cN cE : Array Value} {s : St} (h : Fr w W g N E cN cE s) (hB : Below W.heap.size W W') : Fr w W' g N E cN cE s := by
  obtain ⟨b, c, hr⟩ := h.rd
  exact ⟨⟨b, c, hr.below hB⟩, upd_trans h.up (grown_of_below hB _), blk_below h.bN hB, blk_below h.bE hB, h.gN, h.gE, h.ne, h.nN, h.nE⟩
theorem Fr.setE {w W : World} {g N E : Nat} {cN cE : Array Value} {s : St} (h : Fr w W g N E cN cE s) (hno : ∀ (j : Nat) (x : Int), cE[j]? ≠ some (Value.int .u8 x)) (i : Nat) (u : Value) : Fr w (W.setCell ⟨E, i, none⟩ u) g N E cN (cE.setIfInBounds i u) s := by
  obtain ⟨b, c, hr⟩ := h.rd
  exact ⟨⟨b, c, Rd.setE hr h.bE h.nE hno i u⟩, ⟨h.up.os, h.up.tape, h.up.output, by have := h.up.size; simpa [World.setCell] using this, fun k hk hk2 => (Below.heap_setCell W _ u k (by intro x; have := h.gE; simp at x; omega)).trans (h.up.block k hk hk2)⟩, by
    rw [Below.heap_setCell W _ u N (by intro x; exact h.ne x)]; exact h.bN, by rw [blk_set h.bE], h.gN, h.gE, h.ne, h.nN, h.nE⟩
theorem En.noByte {k : ByteArray} {a b c : Int} {h : Bool} {A : Option Addr} {n m : Nat} : ∀ (j : Nat) (x : Int), (#[Value.string k, .int .i64 a, .int .i64 b, .int .i64 c, .bool h, .slice A n m] : Array Value)[j]? ≠ some (Value.int .u8 x) := by
  intro j x
  match j with
  | 0 | 1 | 2 | 3 | 4 | 5 => simp
  | j + 6 => simp
theorem Fr.setN {w W : World} {g N E : Nat} {cN cE : Array Value} {s : St} (h : Fr w W g N E cN cE s) (hno : ∀ (j : Nat) (x : Int), cN[j]? ≠ some (Value.int .u8 x)) (i : Nat) (u : Value) : Fr w (W.setCell ⟨N, i, none⟩ u) g N E (cN.setIfInBounds i u) cE s := by
  obtain ⟨b, c, hr⟩ := h.rd
  exact ⟨⟨b, c, Rd.setE hr h.bN h.nN hno i u⟩, ⟨h.up.os, h.up.tape, h.up.output, by have := h.up.size; simpa [World.setCell] using this, fun k hk hk2 => (Below.heap_setCell W _ u k (by intro x; have := h.gN; simp at x; omega)).trans (h.up.block k hk hk2)⟩, by rw [blk_set h.bN], by
    rw [Below.heap_setCell W _ u E (by intro x; exact h.ne x.symm)]; exact h.bE, h.gN, h.gE, h.ne, h.nN, h.nE⟩
theorem belowS_len (m : Int) (s : St) : (belowS m s).2.l.length ≤ s.l.length := by
  unfold belowS; repeat' split
  all_goals simp [List.length_drop]
theorem rowS_len (s : St) : (rowS s).2.l.length ≤ s.l.length := by
  unfold rowS; repeat' split
  all_goals simp [List.length_drop]
theorem truthS_len (s : St) : (truthS s).2.l.length ≤ s.l.length := by
  unfold truthS; repeat' split
  all_goals simp_all
/-- the entry that was read, and where the reader stands -/
def GetPost (w : World) (g : Nat) (r : En × St) (x : Ending) (w' : World) : Prop :=
  ∃ A c, x = .returned (.agg #[.string (strOfNums r.1.k), .int .i64 r.1.a, .int .i64 r.1.b, .int .i64 r.1.c, .bool r.1.h, .slice A r.1.v.length c]) ∧ Kd.R (Kd.int .u8) 5 w' w.heap.size (fun _ => True) (.slice A r.1.v.length c) r.1.v ∧ At w g false r.2 w'
set_option maxHeartbeats 4000000 in
set_option maxRecDepth 100000 in
theorem get_ {w : World} {g : Nat} {b : Option Addr} {c : Nat} {l : List Int} {e : Int} (h : Rd w g b c l e false) (hl : l.length ≤ 140737488351232) :
    Calls Tryd.prog 70 #[.pointer (some ⟨g, 0, none⟩)] w (GetPost w g (getS ⟨l, e⟩)) := by
  have hu40 := Tryd.underlying28
  have hu23 := Tryd.underlying23
  have hu38 := Tryd.underlying26
  have HR := Aside0.mk h
  have FR : Aside0 (Fr w ((w.alloc (.cells zEn 28)).alloc (.cells zEn 28)) g w.heap.size (w.heap.size + 1) zEn zEn ⟨l, e⟩) :=
    ⟨⟨⟨b, c, (h.below (below_alloc (Below.refl _ _) _)).below (by exact below_alloc (Below.refl _ _) _)⟩, grown_of_below (below_alloc (below_alloc (Below.refl _ _) _) _) _, by
      exact blk_alloc (blk_new w _) _, by have := blk_new (w.alloc (.cells zEn 28)) (.cells zEn 28); simpa using this, Nat.le_refl _, Nat.le_succ _, by omega, by have := blk_lt h.blk; omega, by have := blk_lt h.blk; omega⟩⟩
  clear h HR
  go_enter Tryd.func70, Tryd.ntmps70
  go_wp2_with fail
  obtain ⟨b1, c1, hrd⟩ := FR.out.rd
  (with_reducible refine (row_ hrd hl).mono ?_)
  obtain ⟨⟨k, s1⟩, hrow⟩ : ∃ r, rowS ⟨l, e⟩ = r := ⟨_, rfl⟩
  rw [hrow]
  rintro x w1 ⟨v, rfl, ho, hA⟩
  obtain ⟨A1, c2, rfl, hc2, hr2⟩ := Kd.R_reads ho
  have hcv := conv_str (c := c2) hr2
  have FR1 := Aside0.mk (FR.out.step hA)
  have e0 : w1.cell? ⟨w.heap.size + 1, 0, none⟩ = some (.string ⟨#[]⟩) := (blk_cell FR1.out.bE 0).trans rfl
  have f0 := blk_frozen FR1.out.bE 0
  clear ho hc2 hr2 hA hrd FR
  go_wp2_with fail
  have FR2 : Aside0 (Fr w (w1.setCell ⟨w.heap.size + 1, 0, none⟩ (.string (strOfNums k))) g w.heap.size (w.heap.size + 1) zEn #[.string (strOfNums k), .int .i64 0, .int .i64 0, .int .i64 0, .bool false, .slice none 0 0] s1) := ⟨FR1.out.setE En.noByte 0 _⟩
  generalize w1.setCell ⟨w.heap.size + 1, 0, none⟩ (.string (strOfNums k)) = w2 at *
  clear e0 f0 hcv FR1
  obtain ⟨b1, c1, hrd⟩ := FR2.out.rd
  (with_reducible refine (below_ 1099511627776 hrd).mono ?_)
  obtain ⟨⟨ta, s2⟩, hs2⟩ : ∃ r, belowS 1099511627776 s1 = r := ⟨_, rfl⟩
  rw [show (⟨s1.l, s1.e⟩ : St) = s1 from rfl, hs2]
  rintro x w3 ⟨rfl, hA⟩
  have FR3 := Aside0.mk (FR2.out.step hA)
  clear hA hrd FR2
  go_wp2_with fail
  obtain ⟨b1, c1, hrd⟩ := FR3.out.rd
  (with_reducible refine (below_ 1048576 hrd).mono ?_)
  obtain ⟨⟨tb, s3⟩, hs3⟩ : ∃ r, belowS 1048576 s2 = r := ⟨_, rfl⟩
  rw [show (⟨s2.l, s2.e⟩ : St) = s2 from rfl, hs3]
  rintro x w4 ⟨rfl, hA⟩
  have FR4 := Aside0.mk (FR3.out.step hA)
  clear hA hrd FR3
  go_wp2_with fail
  obtain ⟨b1, c1, hrd⟩ := FR4.out.rd
  (with_reducible refine (below_ 1048576 hrd).mono ?_)
  obtain ⟨⟨tc, s4⟩, hs4⟩ : ∃ r, belowS 1048576 s3 = r := ⟨_, rfl⟩
  rw [show (⟨s3.l, s3.e⟩ : St) = s3 from rfl, hs4]
  rintro x w5 ⟨rfl, hA⟩
  have FR5 := Aside0.mk (FR4.out.step hA)
  clear hA hrd FR4
  have e1 : w5.cell? ⟨w.heap.size + 1, 1, none⟩ = some (.int .i64 0) := (blk_cell FR5.out.bE 1).trans rfl
  have e2 : w5.cell? ⟨w.heap.size + 1, 2, none⟩ = some (.int .i64 0) := (blk_cell FR5.out.bE 2).trans rfl
  have e3 : w5.cell? ⟨w.heap.size + 1, 3, none⟩ = some (.int .i64 0) := (blk_cell FR5.out.bE 3).trans rfl
  have f1 := blk_frozen FR5.out.bE 1
  have f2 := blk_frozen FR5.out.bE 2
  have f3 := blk_frozen FR5.out.bE 3
  go_wp2_with fail
  have FR6 : Aside0 (Fr w (((w5.setCell ⟨w.heap.size + 1, 1, none⟩ (.int .i64 ta)).setCell ⟨w.heap.size + 1, 2, none⟩ (.int .i64 tb)).setCell ⟨w.heap.size + 1, 3, none⟩ (.int .i64 tc)) g w.heap.size (w.heap.size + 1) zEn #[.string (strOfNums k), .int .i64 ta, .int .i64 tb, .int .i64 tc, .bool false, .slice none 0 0] s4) := ⟨((FR5.out.setE En.noByte 1 _).setE En.noByte 2 _).setE En.noByte 3 _⟩
  generalize (((w5.setCell ⟨w.heap.size + 1, 1, none⟩ (.int .i64 ta)).setCell ⟨w.heap.size + 1, 2, none⟩ (.int .i64 tb)).setCell ⟨w.heap.size + 1, 3, none⟩ (.int .i64 tc)) = w6 at *
  clear e1 e2 e3 f1 f2 f3 FR5
  obtain ⟨b1, c1, hrd⟩ := FR6.out.rd
  (with_reducible refine (truth_ hrd).mono ?_)
  obtain ⟨⟨th, s5⟩, hs5⟩ : ∃ r, truthS s4 = r := ⟨_, rfl⟩
  rw [show (⟨s4.l, s4.e⟩ : St) = s4 from rfl, hs5]
  rintro x w7 ⟨rfl, hA⟩
  have FR7 := Aside0.mk (FR6.out.step hA)
  clear hA hrd FR6
  have e4 : w7.cell? ⟨w.heap.size + 1, 4, none⟩ = some (.bool false) := (blk_cell FR7.out.bE 4).trans rfl
  have f4 := blk_frozen FR7.out.bE 4
  have hG : getS ⟨l, e⟩ = (let (v, s6) := if th = true then rowS s5 else ([], s5)
    if s6.e = 0 ∧ okEnt (strOfNums k) ta tb tc th v then (⟨k, ta, tb, tc, th, v⟩, s6) else (En.zero, failS s6)) := by
    unfold getS; rw [hrow]; simp only [hs2, hs3, hs4, hs5]
  have HG0 := Aside0.mk hG
  have hlen : s5.l.length ≤ 140737488351232 := by
    have a1 := rowS_len ⟨l, e⟩; have a2 := belowS_len 1099511627776 s1; have a3 := belowS_len 1048576 s2; have a4 := belowS_len 1048576 s3; have a5 := truthS_len s4
    rw [hrow] at a1; rw [hs2] at a2; rw [hs3] at a3; rw [hs4] at a4; rw [hs5] at a5
    simp only at a1 a2 a3 a4 a5; omega
  clear hG hrow hs2 hs3 hs4 hs5 hl
  have FR8 : Aside0 (Fr w (w7.setCell ⟨w.heap.size + 1, 4, none⟩ (.bool th)) g w.heap.size (w.heap.size + 1) zEn #[.string (strOfNums k), .int .i64 ta, .int .i64 tb, .int .i64 tc, .bool th, .slice none 0 0] s5) := ⟨FR7.out.setE En.noByte 4 _⟩
  cases th
  · go_wp2_with fail
    generalize (w7.setCell ⟨w.heap.size + 1, 4, none⟩ (.bool false)) = w8 at *
    clear e4 f4 FR7
    obtain ⟨v6, s6, A6, c6, hv6, hs6, hA6, hc6⟩ : ∃ (v6 : List Int) (s6 : St) (A6 : Option Addr) (c6 : Nat), v6 = [] ∧ s6 = s5 ∧ A6 = none ∧ c6 = 0 := ⟨_, _, _, _, rfl, rfl, rfl, rfl⟩
    have HV : Aside0 (Kd.R (Kd.int .u8) 5 w8 (w.heap.size + 1) (fun _ => True) (.slice A6 v6.length c6) v6) := ⟨by subst hv6 hA6 hc6; exact Kd.R_nil _ _ _ _ _⟩
    have FR9 : Aside0 (Fr w w8 g w.heap.size (w.heap.size + 1) zEn #[.string (strOfNums k), .int .i64 ta, .int .i64 tb, .int .i64 tc, .bool false, .slice A6 v6.length c6] s6) := ⟨by subst hv6 hA6 hc6 hs6; exact FR8.out⟩
    clear FR8; have FR8 := FR9; clear FR9
    obtain ⟨th, hth⟩ : ∃ th, false = th := ⟨_, rfl⟩
    have HG : Aside0 (getS ⟨l, e⟩ = if s6.e = 0 ∧ okEnt (strOfNums k) ta tb tc th v6 then (⟨k, ta, tb, tc, th, v6⟩, s6) else (En.zero, failS s6)) := ⟨by subst hv6 hs6 hth; exact HG0.out⟩
    rw [hth] at FR8 ⊢
    clear HG0
    clear hv6 hs6 hA6 hc6 hth
    obtain ⟨b1, c1, hrd⟩ := FR8.out.rd
    (with_reducible refine (failed_ hrd).mono ?_)
    rintro x w' ⟨rfl, rfl⟩
    obtain ⟨q, hq⟩ : ∃ q, (s6.e != 0) = q := ⟨_, rfl⟩
    rw [hq]
    cases q
    · have he : s6.e = 0 := by simpa using hq
      have e0 : w8.cell? ⟨w.heap.size + 1, 0, none⟩ = some (.string (strOfNums k)) := (blk_cell FR8.out.bE 0).trans rfl
      have e1 : w8.cell? ⟨w.heap.size + 1, 1, none⟩ = some (.int .i64 ta) := (blk_cell FR8.out.bE 1).trans rfl
      have e2 : w8.cell? ⟨w.heap.size + 1, 2, none⟩ = some (.int .i64 tb) := (blk_cell FR8.out.bE 2).trans rfl
      have e3 : w8.cell? ⟨w.heap.size + 1, 3, none⟩ = some (.int .i64 tc) := (blk_cell FR8.out.bE 3).trans rfl
      have e4 : w8.cell? ⟨w.heap.size + 1, 4, none⟩ = some (.bool th) := (blk_cell FR8.out.bE 4).trans rfl
      have e5 : w8.cell? ⟨w.heap.size + 1, 5, none⟩ = some (.slice A6 v6.length c6) := (blk_cell FR8.out.bE 5).trans rfl
      clear hrd hq
      have HE := Aside0.mk he
      clear he
      go_wp2_with fail
      obtain ⟨hc6, hr6⟩ : v6.length ≤ c6 ∧ Kd.C (Kd.int .u8) w8 A6 v6.length v6 := by
        obtain ⟨A, c, hv, hc, hr⟩ := Kd.R_reads HV.out
        injection hv with h1 h2 h3
        subst h1 h3
        exact ⟨hc, hr⟩
      (with_reducible refine (right_c (strOfNums k) ta tb tc th hr6 hc6).mono ?_)
      rintro x w9 ⟨rfl, hb⟩
      have FR9 := Aside0.mk (FR8.out.below hb)
      have HV9 := Aside0.mk (Kd.R_below HV.out hb)
      clear HV FR8 hb hc6 hr6 e0 e1 e2 e3 e4 e5
      by_cases hok : okEnt (strOfNums k) ta tb tc th v6
      · rw [show rightV (strOfNums k) ta tb tc th v6 = 0 from if_pos hok]
        have HK := Aside0.mk hok
        clear hok
        have e0 : w9.cell? ⟨w.heap.size + 1, 0, none⟩ = some (.string (strOfNums k)) := (blk_cell FR9.out.bE 0).trans rfl
        have e1 : w9.cell? ⟨w.heap.size + 1, 1, none⟩ = some (.int .i64 ta) := (blk_cell FR9.out.bE 1).trans rfl
        have e2 : w9.cell? ⟨w.heap.size + 1, 2, none⟩ = some (.int .i64 tb) := (blk_cell FR9.out.bE 2).trans rfl
        have e3 : w9.cell? ⟨w.heap.size + 1, 3, none⟩ = some (.int .i64 tc) := (blk_cell FR9.out.bE 3).trans rfl
        have e4 : w9.cell? ⟨w.heap.size + 1, 4, none⟩ = some (.bool th) := (blk_cell FR9.out.bE 4).trans rfl
        have e5 : w9.cell? ⟨w.heap.size + 1, 5, none⟩ = some (.slice A6 v6.length c6) := (blk_cell FR9.out.bE 5).trans rfl
        have n0 : w9.cell? ⟨w.heap.size, 0, none⟩ = some (.string ⟨#[]⟩) := (blk_cell FR9.out.bN 0).trans rfl
        have n1 : w9.cell? ⟨w.heap.size, 1, none⟩ = some (.int .i64 0) := (blk_cell FR9.out.bN 1).trans rfl
        have n2 : w9.cell? ⟨w.heap.size, 2, none⟩ = some (.int .i64 0) := (blk_cell FR9.out.bN 2).trans rfl
        have n3 : w9.cell? ⟨w.heap.size, 3, none⟩ = some (.int .i64 0) := (blk_cell FR9.out.bN 3).trans rfl
        have n4 : w9.cell? ⟨w.heap.size, 4, none⟩ = some (.bool false) := (blk_cell FR9.out.bN 4).trans rfl
        have n5 : w9.cell? ⟨w.heap.size, 5, none⟩ = some (.slice none 0 0) := (blk_cell FR9.out.bN 5).trans rfl
        have m0 := blk_frozen FR9.out.bN 0
        have m1 := blk_frozen FR9.out.bN 1
        have m2 := blk_frozen FR9.out.bN 2
        have m3 := blk_frozen FR9.out.bN 3
        have m4 := blk_frozen FR9.out.bN 4
        have m5 := blk_frozen FR9.out.bN 5
        go_wp2_with fail
        have FRb : Fr w _ g w.heap.size (w.heap.size + 1) #[.string (strOfNums k), .int .i64 ta, .int .i64 tb, .int .i64 tc, .bool th, .slice A6 v6.length c6] _ s6 := (((((FR9.out.setN En.noByte 0 (.string (strOfNums k))).setN En.noByte 1 (.int .i64 ta)).setN En.noByte 2 (.int .i64 tb)).setN En.noByte 3 (.int .i64 tc)).setN En.noByte 4 (.bool th)).setN En.noByte 5 (.slice A6 v6.length c6)
        (try simp only [Exit.inBlock, Exit.then])
        refine bodyPost_ret (results_cell_row rfl _ _ w.heap.size 28 _ (0, 0) _ rfl FRb.bN Tryd.underlying28 rfl (by kernel_rfl)) rfl ?_
        rw [HG.out, if_pos ⟨HE.out, HK.out⟩]
        have hlt : w.heap.size < w.heap.size + 1 := Nat.lt_succ_self _
        exact ⟨A6, c6, rfl, Kd.R_lower (R_farg (R_farg (R_farg (R_farg (R_farg (R_farg HV9.out hlt _ _) hlt _ _) hlt _ _) hlt _ _) hlt _ _) hlt _ _) (Nat.le_succ _), FRb.rd.elim fun b h => h.elim fun c h => ⟨b, c, h, FRb.up⟩⟩
      · rw [show rightV (strOfNums k) ta tb tc th v6 = 2 from if_neg hok]
        have HB : Aside0 (getS ⟨l, e⟩ = (En.zero, failS s6)) := ⟨by rw [HG.out, if_neg (by rintro ⟨_, h⟩; exact hok h)]⟩
        clear hok HE HV9 HG
        go_wp2_with fail
        obtain ⟨b1, c1, hrd⟩ := FR9.out.rd
        (with_reducible refine (markWrong_ hrd).mono ?_)
        rintro x w10 ⟨rfl, hA⟩
        have FRa := Aside0.mk (FR9.out.step hA)
        clear hA hrd FR9
        have n0 : w10.cell? ⟨w.heap.size, 0, none⟩ = some (.string ⟨#[]⟩) := (blk_cell FRa.out.bN 0).trans rfl
        have n1 : w10.cell? ⟨w.heap.size, 1, none⟩ = some (.int .i64 0) := (blk_cell FRa.out.bN 1).trans rfl
        have n2 : w10.cell? ⟨w.heap.size, 2, none⟩ = some (.int .i64 0) := (blk_cell FRa.out.bN 2).trans rfl
        have n3 : w10.cell? ⟨w.heap.size, 3, none⟩ = some (.int .i64 0) := (blk_cell FRa.out.bN 3).trans rfl
        have n4 : w10.cell? ⟨w.heap.size, 4, none⟩ = some (.bool false) := (blk_cell FRa.out.bN 4).trans rfl
        have n5 : w10.cell? ⟨w.heap.size, 5, none⟩ = some (.slice none 0 0) := (blk_cell FRa.out.bN 5).trans rfl
        have m0 := blk_frozen FRa.out.bN 0
        have m1 := blk_frozen FRa.out.bN 1
        have m2 := blk_frozen FRa.out.bN 2
        have m3 := blk_frozen FRa.out.bN 3
        have m4 := blk_frozen FRa.out.bN 4
        have m5 := blk_frozen FRa.out.bN 5
        go_wp2_with fail
        have FRb : Fr w _ g w.heap.size (w.heap.size + 1) #[.string ⟨#[]⟩, .int .i64 0, .int .i64 0, .int .i64 0, .bool false, .slice none 0 0] _ (failS s6) := (((((FRa.out.setN En.noByte 0 (.string ⟨#[]⟩)).setN En.noByte 1 (.int .i64 0)).setN En.noByte 2 (.int .i64 0)).setN En.noByte 3 (.int .i64 0)).setN En.noByte 4 (.bool false)).setN En.noByte 5 (.slice none 0 0)
        (try simp only [Exit.inBlock, Exit.then])
        refine bodyPost_ret (results_cell_row rfl _ _ w.heap.size 28 _ (0, 0) _ rfl FRb.bN Tryd.underlying28 rfl (by kernel_rfl)) rfl ?_
        rw [HB.out]
        exact ⟨none, 0, rfl, Kd.R_nil _ _ _ _ _, FRb.rd.elim fun b h => h.elim fun c h => ⟨b, c, h, FRb.up⟩⟩
    · have he : s6.e ≠ 0 := by simpa using hq
      have HB : Aside0 (getS ⟨l, e⟩ = (En.zero, failS s6)) := ⟨by rw [HG.out, if_neg (by rintro ⟨h, _⟩; exact he h)]⟩
      have FR9 := FR8
      clear hrd hq he HV FR8 HG
      go_wp2_with fail
      obtain ⟨b1, c1, hrd⟩ := FR9.out.rd
      (with_reducible refine (markWrong_ hrd).mono ?_)
      rintro x w10 ⟨rfl, hA⟩
      have FRa := Aside0.mk (FR9.out.step hA)
      clear hA hrd FR9
      have n0 : w10.cell? ⟨w.heap.size, 0, none⟩ = some (.string ⟨#[]⟩) := (blk_cell FRa.out.bN 0).trans rfl
      have n1 : w10.cell? ⟨w.heap.size, 1, none⟩ = some (.int .i64 0) := (blk_cell FRa.out.bN 1).trans rfl
      have n2 : w10.cell? ⟨w.heap.size, 2, none⟩ = some (.int .i64 0) := (blk_cell FRa.out.bN 2).trans rfl
      have n3 : w10.cell? ⟨w.heap.size, 3, none⟩ = some (.int .i64 0) := (blk_cell FRa.out.bN 3).trans rfl
      have n4 : w10.cell? ⟨w.heap.size, 4, none⟩ = some (.bool false) := (blk_cell FRa.out.bN 4).trans rfl
      have n5 : w10.cell? ⟨w.heap.size, 5, none⟩ = some (.slice none 0 0) := (blk_cell FRa.out.bN 5).trans rfl
      have m0 := blk_frozen FRa.out.bN 0
      have m1 := blk_frozen FRa.out.bN 1
      have m2 := blk_frozen FRa.out.bN 2
      have m3 := blk_frozen FRa.out.bN 3
      have m4 := blk_frozen FRa.out.bN 4
      have m5 := blk_frozen FRa.out.bN 5
      go_wp2_with fail
      have FRb : Fr w _ g w.heap.size (w.heap.size + 1) #[.string ⟨#[]⟩, .int .i64 0, .int .i64 0, .int .i64 0, .bool false, .slice none 0 0] _ (failS s6) := (((((FRa.out.setN En.noByte 0 (.string ⟨#[]⟩)).setN En.noByte 1 (.int .i64 0)).setN En.noByte 2 (.int .i64 0)).setN En.noByte 3 (.int .i64 0)).setN En.noByte 4 (.bool false)).setN En.noByte 5 (.slice none 0 0)
      (try simp only [Exit.inBlock, Exit.then])
      refine bodyPost_ret (results_cell_row rfl _ _ w.heap.size 28 _ (0, 0) _ rfl FRb.bN Tryd.underlying28 rfl (by kernel_rfl)) rfl ?_
      rw [HB.out]
      exact ⟨none, 0, rfl, Kd.R_nil _ _ _ _ _, FRb.rd.elim fun b h => h.elim fun c h => ⟨b, c, h, FRb.up⟩⟩
  · go_wp2_with fail
    generalize (w7.setCell ⟨w.heap.size + 1, 4, none⟩ (.bool true)) = w8 at *
    clear e4 f4 FR7
    obtain ⟨b1, c1, hrd⟩ := FR8.out.rd
    (with_reducible refine (row_ hrd hlen).mono ?_)
    obtain ⟨⟨v6, s6⟩, hs6⟩ : ∃ r, rowS s5 = r := ⟨_, rfl⟩
    have HG1 : Aside0 (getS ⟨l, e⟩ = if s6.e = 0 ∧ okEnt (strOfNums k) ta tb tc true v6 then (⟨k, ta, tb, tc, true, v6⟩, s6) else (En.zero, failS s6)) := ⟨by rw [HG0.out]; simp only [hs6, if_true]⟩
    clear HG0
    rw [show (⟨s5.l, s5.e⟩ : St) = s5 from rfl, hs6]
    rintro x w9 ⟨v, rfl, ho, hA⟩
    obtain ⟨A6, c6, rfl, hc6, hr6⟩ := Kd.R_reads ho
    have FR9 := Aside0.mk (FR8.out.step hA)
    have hE8 := blk_lt FR8.out.bE
    have HV := Aside0.mk (R_farg (Kd.R_lower ho hE8) (Nat.lt_succ_self _) 5 (.slice A6 v6.length c6))
    have e5 : w9.cell? ⟨w.heap.size + 1, 5, none⟩ = some (.slice none 0 0) := (blk_cell FR9.out.bE 5).trans rfl
    have f5 := blk_frozen FR9.out.bE 5
    clear ho hc6 hr6 hA hrd FR8 hE8
    go_wp2_with fail
    have FR8 : Aside0 (Fr w (w9.setCell ⟨w.heap.size + 1, 5, none⟩ (.slice A6 v6.length c6)) g w.heap.size (w.heap.size + 1) zEn #[.string (strOfNums k), .int .i64 ta, .int .i64 tb, .int .i64 tc, .bool true, .slice A6 v6.length c6] s6) := ⟨FR9.out.setE En.noByte 5 _⟩
    generalize (w9.setCell ⟨w.heap.size + 1, 5, none⟩ (.slice A6 v6.length c6)) = w8 at *
    clear e5 f5 FR9
    obtain ⟨th, hth⟩ : ∃ th, true = th := ⟨_, rfl⟩
    rw [hth] at FR8 ⊢
    have HG : Aside0 (getS ⟨l, e⟩ = if s6.e = 0 ∧ okEnt (strOfNums k) ta tb tc th v6 then (⟨k, ta, tb, tc, th, v6⟩, s6) else (En.zero, failS s6)) := ⟨by subst hth; exact HG1.out⟩
    clear HG1
    have HV := Aside0.mk (Kd.R_lower HV.out (Nat.le_succ (w.heap.size + 1)))
    clear hth
    obtain ⟨b1, c1, hrd⟩ := FR8.out.rd
    (with_reducible refine (failed_ hrd).mono ?_)
    rintro x w' ⟨rfl, rfl⟩
    obtain ⟨q, hq⟩ : ∃ q, (s6.e != 0) = q := ⟨_, rfl⟩
    rw [hq]
    cases q
    · have he : s6.e = 0 := by simpa using hq
      have e0 : w8.cell? ⟨w.heap.size + 1, 0, none⟩ = some (.string (strOfNums k)) := (blk_cell FR8.out.bE 0).trans rfl
      have e1 : w8.cell? ⟨w.heap.size + 1, 1, none⟩ = some (.int .i64 ta) := (blk_cell FR8.out.bE 1).trans rfl
      have e2 : w8.cell? ⟨w.heap.size + 1, 2, none⟩ = some (.int .i64 tb) := (blk_cell FR8.out.bE 2).trans rfl
      have e3 : w8.cell? ⟨w.heap.size + 1, 3, none⟩ = some (.int .i64 tc) := (blk_cell FR8.out.bE 3).trans rfl
      have e4 : w8.cell? ⟨w.heap.size + 1, 4, none⟩ = some (.bool th) := (blk_cell FR8.out.bE 4).trans rfl
      have e5 : w8.cell? ⟨w.heap.size + 1, 5, none⟩ = some (.slice A6 v6.length c6) := (blk_cell FR8.out.bE 5).trans rfl
      clear hrd hq
      have HE := Aside0.mk he
      clear he
      go_wp2_with fail
      obtain ⟨hc6, hr6⟩ : v6.length ≤ c6 ∧ Kd.C (Kd.int .u8) w8 A6 v6.length v6 := by
        obtain ⟨A, c, hv, hc, hr⟩ := Kd.R_reads HV.out
        injection hv with h1 h2 h3
        subst h1 h3
        exact ⟨hc, hr⟩
      (with_reducible refine (right_c (strOfNums k) ta tb tc th hr6 hc6).mono ?_)
      rintro x w9 ⟨rfl, hb⟩
      have FR9 := Aside0.mk (FR8.out.below hb)
      have HV9 := Aside0.mk (Kd.R_below HV.out hb)
      clear HV FR8 hb hc6 hr6 e0 e1 e2 e3 e4 e5
      by_cases hok : okEnt (strOfNums k) ta tb tc th v6
      · rw [show rightV (strOfNums k) ta tb tc th v6 = 0 from if_pos hok]
        have HK := Aside0.mk hok
        clear hok
        have e0 : w9.cell? ⟨w.heap.size + 1, 0, none⟩ = some (.string (strOfNums k)) := (blk_cell FR9.out.bE 0).trans rfl
        have e1 : w9.cell? ⟨w.heap.size + 1, 1, none⟩ = some (.int .i64 ta) := (blk_cell FR9.out.bE 1).trans rfl
        have e2 : w9.cell? ⟨w.heap.size + 1, 2, none⟩ = some (.int .i64 tb) := (blk_cell FR9.out.bE 2).trans rfl
        have e3 : w9.cell? ⟨w.heap.size + 1, 3, none⟩ = some (.int .i64 tc) := (blk_cell FR9.out.bE 3).trans rfl
        have e4 : w9.cell? ⟨w.heap.size + 1, 4, none⟩ = some (.bool th) := (blk_cell FR9.out.bE 4).trans rfl
        have e5 : w9.cell? ⟨w.heap.size + 1, 5, none⟩ = some (.slice A6 v6.length c6) := (blk_cell FR9.out.bE 5).trans rfl
        have n0 : w9.cell? ⟨w.heap.size, 0, none⟩ = some (.string ⟨#[]⟩) := (blk_cell FR9.out.bN 0).trans rfl
        have n1 : w9.cell? ⟨w.heap.size, 1, none⟩ = some (.int .i64 0) := (blk_cell FR9.out.bN 1).trans rfl
        have n2 : w9.cell? ⟨w.heap.size, 2, none⟩ = some (.int .i64 0) := (blk_cell FR9.out.bN 2).trans rfl
        have n3 : w9.cell? ⟨w.heap.size, 3, none⟩ = some (.int .i64 0) := (blk_cell FR9.out.bN 3).trans rfl
        have n4 : w9.cell? ⟨w.heap.size, 4, none⟩ = some (.bool false) := (blk_cell FR9.out.bN 4).trans rfl
        have n5 : w9.cell? ⟨w.heap.size, 5, none⟩ = some (.slice none 0 0) := (blk_cell FR9.out.bN 5).trans rfl
        have m0 := blk_frozen FR9.out.bN 0
        have m1 := blk_frozen FR9.out.bN 1
        have m2 := blk_frozen FR9.out.bN 2
        have m3 := blk_frozen FR9.out.bN 3
        have m4 := blk_frozen FR9.out.bN 4
        have m5 := blk_frozen FR9.out.bN 5
        go_wp2_with fail
        have FRb : Fr w _ g w.heap.size (w.heap.size + 1) #[.string (strOfNums k), .int .i64 ta, .int .i64 tb, .int .i64 tc, .bool th, .slice A6 v6.length c6] _ s6 := (((((FR9.out.setN En.noByte 0 (.string (strOfNums k))).setN En.noByte 1 (.int .i64 ta)).setN En.noByte 2 (.int .i64 tb)).setN En.noByte 3 (.int .i64 tc)).setN En.noByte 4 (.bool th)).setN En.noByte 5 (.slice A6 v6.length c6)
        (try simp only [Exit.inBlock, Exit.then])
        refine bodyPost_ret (results_cell_row rfl _ _ w.heap.size 28 _ (0, 0) _ rfl FRb.bN Tryd.underlying28 rfl (by kernel_rfl)) rfl ?_
        rw [HG.out, if_pos ⟨HE.out, HK.out⟩]
        have hlt : w.heap.size < w.heap.size + 1 := Nat.lt_succ_self _
        exact ⟨A6, c6, rfl, Kd.R_lower (R_farg (R_farg (R_farg (R_farg (R_farg (R_farg HV9.out hlt _ _) hlt _ _) hlt _ _) hlt _ _) hlt _ _) hlt _ _) (Nat.le_succ _), FRb.rd.elim fun b h => h.elim fun c h => ⟨b, c, h, FRb.up⟩⟩
      · rw [show rightV (strOfNums k) ta tb tc th v6 = 2 from if_neg hok]
        have HB : Aside0 (getS ⟨l, e⟩ = (En.zero, failS s6)) := ⟨by rw [HG.out, if_neg (by rintro ⟨_, h⟩; exact hok h)]⟩
        clear hok HE HV9 HG
        go_wp2_with fail
        obtain ⟨b1, c1, hrd⟩ := FR9.out.rd
        (with_reducible refine (markWrong_ hrd).mono ?_)
        rintro x w10 ⟨rfl, hA⟩
        have FRa := Aside0.mk (FR9.out.step hA)
        clear hA hrd FR9
        have n0 : w10.cell? ⟨w.heap.size, 0, none⟩ = some (.string ⟨#[]⟩) := (blk_cell FRa.out.bN 0).trans rfl
        have n1 : w10.cell? ⟨w.heap.size, 1, none⟩ = some (.int .i64 0) := (blk_cell FRa.out.bN 1).trans rfl
        have n2 : w10.cell? ⟨w.heap.size, 2, none⟩ = some (.int .i64 0) := (blk_cell FRa.out.bN 2).trans rfl
        have n3 : w10.cell? ⟨w.heap.size, 3, none⟩ = some (.int .i64 0) := (blk_cell FRa.out.bN 3).trans rfl
        have n4 : w10.cell? ⟨w.heap.size, 4, none⟩ = some (.bool false) := (blk_cell FRa.out.bN 4).trans rfl
        have n5 : w10.cell? ⟨w.heap.size, 5, none⟩ = some (.slice none 0 0) := (blk_cell FRa.out.bN 5).trans rfl
        have m0 := blk_frozen FRa.out.bN 0
        have m1 := blk_frozen FRa.out.bN 1
        have m2 := blk_frozen FRa.out.bN 2
        have m3 := blk_frozen FRa.out.bN 3
        have m4 := blk_frozen FRa.out.bN 4
        have m5 := blk_frozen FRa.out.bN 5
        go_wp2_with fail
        have FRb : Fr w _ g w.heap.size (w.heap.size + 1) #[.string ⟨#[]⟩, .int .i64 0, .int .i64 0, .int .i64 0, .bool false, .slice none 0 0] _ (failS s6) := (((((FRa.out.setN En.noByte 0 (.string ⟨#[]⟩)).setN En.noByte 1 (.int .i64 0)).setN En.noByte 2 (.int .i64 0)).setN En.noByte 3 (.int .i64 0)).setN En.noByte 4 (.bool false)).setN En.noByte 5 (.slice none 0 0)
        (try simp only [Exit.inBlock, Exit.then])
        refine bodyPost_ret (results_cell_row rfl _ _ w.heap.size 28 _ (0, 0) _ rfl FRb.bN Tryd.underlying28 rfl (by kernel_rfl)) rfl ?_
        rw [HB.out]
        exact ⟨none, 0, rfl, Kd.R_nil _ _ _ _ _, FRb.rd.elim fun b h => h.elim fun c h => ⟨b, c, h, FRb.up⟩⟩
    · have he : s6.e ≠ 0 := by simpa using hq
      have HB : Aside0 (getS ⟨l, e⟩ = (En.zero, failS s6)) := ⟨by rw [HG.out, if_neg (by rintro ⟨h, _⟩; exact he h)]⟩
      have FR9 := FR8
      clear hrd hq he HV FR8 HG
      go_wp2_with fail
      obtain ⟨b1, c1, hrd⟩ := FR9.out.rd
      (with_reducible refine (markWrong_ hrd).mono ?_)
      rintro x w10 ⟨rfl, hA⟩
      have FRa := Aside0.mk (FR9.out.step hA)
      clear hA hrd FR9
      have n0 : w10.cell? ⟨w.heap.size, 0, none⟩ = some (.string ⟨#[]⟩) := (blk_cell FRa.out.bN 0).trans rfl
      have n1 : w10.cell? ⟨w.heap.size, 1, none⟩ = some (.int .i64 0) := (blk_cell FRa.out.bN 1).trans rfl
      have n2 : w10.cell? ⟨w.heap.size, 2, none⟩ = some (.int .i64 0) := (blk_cell FRa.out.bN 2).trans rfl
      have n3 : w10.cell? ⟨w.heap.size, 3, none⟩ = some (.int .i64 0) := (blk_cell FRa.out.bN 3).trans rfl
      have n4 : w10.cell? ⟨w.heap.size, 4, none⟩ = some (.bool false) := (blk_cell FRa.out.bN 4).trans rfl
      have n5 : w10.cell? ⟨w.heap.size, 5, none⟩ = some (.slice none 0 0) := (blk_cell FRa.out.bN 5).trans rfl
      have m0 := blk_frozen FRa.out.bN 0
      have m1 := blk_frozen FRa.out.bN 1
      have m2 := blk_frozen FRa.out.bN 2
      have m3 := blk_frozen FRa.out.bN 3
      have m4 := blk_frozen FRa.out.bN 4
      have m5 := blk_frozen FRa.out.bN 5
      go_wp2_with fail
      have FRb : Fr w _ g w.heap.size (w.heap.size + 1) #[.string ⟨#[]⟩, .int .i64 0, .int .i64 0, .int .i64 0, .bool false, .slice none 0 0] _ (failS s6) := (((((FRa.out.setN En.noByte 0 (.string ⟨#[]⟩)).setN En.noByte 1 (.int .i64 0)).setN En.noByte 2 (.int .i64 0)).setN En.noByte 3 (.int .i64 0)).setN En.noByte 4 (.bool false)).setN En.noByte 5 (.slice none 0 0)
      (try simp only [Exit.inBlock, Exit.then])
      refine bodyPost_ret (results_cell_row rfl _ _ w.heap.size 28 _ (0, 0) _ rfl FRb.bN Tryd.underlying28 rfl (by kernel_rfl)) rfl ?_
      rw [HB.out]
      exact ⟨none, 0, rfl, Kd.R_nil _ _ _ _ _, FRb.rd.elim fun b h => h.elim fun c h => ⟨b, c, h, FRb.up⟩⟩
end Go.Proofs.YthaoiamgkpkcbaaDoor.Tg
namespace Go.Proofs.YthaoiamgkpkcbaaDoor.Tg
open Go.ChangeShapes Go.WideShapes Go.ChangeAt Go.RowKit Go.Proofs.YthaoiamgkpkcbaaDoor.Pk
open Go.Proofs.YthaoiamgkpkcbaaDoor.Hlp Go.Proofs.YthaoiamgkpkcbaaDoor.Wrd Go.Proofs.YthaoiamgkpkcbaaDoorW.PrintWords Go.Proofs.YthaoiamgkpkcbaaDoorW.PrintLast Go.Proofs.YthaoiamgkpkcbaaDoorW.PrintMore
set_option linter.unusedVariables false
set_option linter.unusedSimpArgs false
section
variable {w W : World} {g B : Nat} {k k' : ByteArray} {a b c a' b' c' : Int} {h h' : Bool} {A A' : Option Addr} {n m n' m' : Nat}
theorem en_cells (hb : w.heap[g]? = some (.cells #[.string k, .int .i64 a, .int .i64 b, .int .i64 c, .bool h, .slice A n m] 28 (0, 0))) :
    w.cell? ⟨g, 0, none⟩ = some (.string k) ∧ w.cell? ⟨g, 1, none⟩ = some (.int .i64 a) ∧ w.cell? ⟨g, 2, none⟩ = some (.int .i64 b) ∧ w.cell? ⟨g, 3, none⟩ = some (.int .i64 c) ∧ w.cell? ⟨g, 4, none⟩ = some (.bool h) ∧ w.cell? ⟨g, 5, none⟩ = some (.slice A n m) :=
  ⟨(blk_cell hb 0).trans rfl, (blk_cell hb 1).trans rfl, (blk_cell hb 2).trans rfl, (blk_cell hb 3).trans rfl, (blk_cell hb 4).trans rfl, (blk_cell hb 5).trans rfl⟩
theorem en_free {cs : Array Value} {T : Nat} (hb : w.heap[g]? = some (.cells cs T (0, 0))) :
    w.frozen? ⟨g, 0, none⟩ = false ∧ w.frozen? ⟨g, 1, none⟩ = false ∧ w.frozen? ⟨g, 2, none⟩ = false ∧ w.frozen? ⟨g, 3, none⟩ = false ∧ w.frozen? ⟨g, 4, none⟩ = false ∧ w.frozen? ⟨g, 5, none⟩ = false :=
  ⟨blk_frozen hb 0, blk_frozen hb 1, blk_frozen hb 2, blk_frozen hb 3, blk_frozen hb 4, blk_frozen hb 5⟩
/-- an entry laid into a block, field by field -/
abbrev put6 (w : World) (g : Nat) (k : ByteArray) (a b c : Int) (h : Bool) (v : Value) : World :=
  (((((w.setCell ⟨g, 0, none⟩ (.string k)).setCell ⟨g, 1, none⟩ (.int .i64 a)).setCell ⟨g, 2, none⟩ (.int .i64 b)).setCell ⟨g, 3, none⟩ (.int .i64 c)).setCell ⟨g, 4, none⟩ (.bool h)).setCell ⟨g, 5, none⟩ v
theorem put6_blk {v : Value} (hb : w.heap[g]? = some (.cells #[.string k, .int .i64 a, .int .i64 b, .int .i64 c, .bool h, .slice A n m] 28 (0, 0))) :
    (put6 w g k' a' b' c' h' v).heap[g]? = some (.cells #[.string k', .int .i64 a', .int .i64 b', .int .i64 c', .bool h', v] 28 (0, 0)) :=
  blk_set (blk_set (blk_set (blk_set (blk_set (blk_set hb 0 (.string k')) 1 (.int .i64 a')) 2 (.int .i64 b')) 3 (.int .i64 c')) 4 (.bool h')) 5 v
theorem put6_below {v : Value} (hb : Below W.heap.size W w) (hg : W.heap.size ≤ g) : Below W.heap.size W (put6 w g k a b c h v) :=
  below_set (below_set (below_set (below_set (below_set (below_set hb hg) hg) hg) hg) hg) hg
theorem put6_R {α : Type} {d : Kd α} {e : Nat} {v u : Value} {xs : List α} (hr : d.R e w B (fun _ => True) u xs) (hg : g < B) : d.R e (put6 w g k a b c h v) B (fun _ => True) u xs :=
  R_farg (R_farg (R_farg (R_farg (R_farg (R_farg hr hg _ _) hg _ _) hg _ _) hg _ _) hg _ _) hg _ _
end
theorem size1 (w : World) (o : Obj) : (w.alloc o).heap.size = w.heap.size + 1 := Array.size_push ..
/-- two blocks, just made -/
theorem two_blks (w : World) (o o' : Obj) : ((w.alloc o).alloc o').heap[w.heap.size]? = some o ∧ ((w.alloc o).alloc o').heap[w.heap.size + 1]? = some o' := by
  refine ⟨blk_alloc (blk_new w o) o', ?_⟩
  have := blk_new (w.alloc o) o'
  rw [size1] at this; exact this
theorem below_allocs {W w : World} (h : Below W.heap.size W w) (o o' : Obj) : Below W.heap.size W ((w.alloc o).alloc o') := below_alloc (below_alloc h o) o'
end Go.Proofs.YthaoiamgkpkcbaaDoor.Tg
namespace Go.Proofs.YthaoiamgkpkcbaaDoor.Tg
open Go.ChangeShapes Go.WideShapes Go.ChangeAt Go.RowKit Go.Proofs.YthaoiamgkpkcbaaDoor.Pk
open Go.Proofs.YthaoiamgkpkcbaaDoor.Hlp Go.Proofs.YthaoiamgkpkcbaaDoor.Wrd Go.Proofs.YthaoiamgkpkcbaaDoorW.PrintWords Go.Proofs.YthaoiamgkpkcbaaDoorW.PrintLast Go.Proofs.YthaoiamgkpkcbaaDoorW.PrintMore
set_option linter.unusedVariables false
set_option linter.unusedSimpArgs false
end Go.Proofs.YthaoiamgkpkcbaaDoor.Tg
namespace Go.Proofs.YthaoiamgkpkcbaaDoor.Lex
/-- from some count of rounds on -/
def Since {α : Type} (f : Nat → Option α) (r : α) : Prop := ∃ K, ∀ k, K ≤ k → f k = some r
theorem Since.one {α β : Type} {f : Nat → Option α} {r : α} {F : Nat → Option β} {q : β} (h : Since f r) (hF : ∀ k, f k = some r → F (k + 1) = some q) : Since F q := by
  obtain ⟨K, h⟩ := h
  refine ⟨K + 1, fun k hk => ?_⟩
  obtain ⟨k, rfl⟩ : ∃ j, k = j + 1 := ⟨k - 1, by omega⟩
  exact hF k (h k (by omega))
theorem Since.two {α α' β : Type} {f : Nat → Option α} {r : α} {g : Nat → Option α'} {r' : α'} {F : Nat → Option β} {q : β} (h : Since f r) (h' : Since g r') (hF : ∀ k, f k = some r → g k = some r' → F (k + 1) = some q) : Since F q := by
  obtain ⟨K, h⟩ := h
  obtain ⟨K', h'⟩ := h'
  refine ⟨K + K' + 1, fun k hk => ?_⟩
  obtain ⟨k, rfl⟩ : ∃ j, k = j + 1 := ⟨k - 1, by omega⟩
  exact hF k (h k (by omega)) (h' k (by omega))
theorem Since.none {β : Type} {F : Nat → Option β} {q : β} (hF : ∀ k, F (k + 1) = some q) : Since F q := by
  refine ⟨1, fun k hk => ?_⟩
  obtain ⟨k, rfl⟩ : ∃ j, k = j + 1 := ⟨k - 1, by omega⟩
  exact hF k
theorem Since.map {α β : Type} {f : Nat → Option α} {r : α} {F : Nat → Option β} {q : β} (h : Since f r) (hF : ∀ k, f k = some r → F k = some q) : Since F q := by
  obtain ⟨K, h⟩ := h
  exact ⟨K, fun k hk => hF k (h k hk)⟩
theorem Since.and {α α' β : Type} {f : Nat → Option α} {r : α} {g : Nat → Option α'} {r' : α'} {F : Nat → Option β} {q : β} (h : Since f r) (h' : Since g r') (hF : ∀ k, f k = some r → g k = some r' → F k = some q) : Since F q := by
  obtain ⟨K, h⟩ := h
  obtain ⟨K', h'⟩ := h'
  exact ⟨K + K', fun k hk => hF k (h k (by omega)) (h' k (by omega))⟩
end Go.Proofs.YthaoiamgkpkcbaaDoor.Lex
