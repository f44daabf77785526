/- The contract of tags.Get, outside of read. Conditions: bytes that fit in memory. · An entry that lies in a block of its own: its cells, and the six stores that lay one. Conditions: none. · The contracts of tags.Copy, tags.Newer and the reference's Newer. Conditions: bytes that fit in memory. · How tags stand, plain: by their numbers, one behind the other. And what holds from some count of rounds on. · The contracts of pack.Num, pack.Row, pack.Truth, icehouseref02.Num, icehouseref02.Row and icehouseref00.Same, by what they compute. Conditions: numbers of 64 bits, rows that fit. · The contracts of long, SameVal, Same and Size, and of the reference's, by what they tell. Conditions: bytes are bytes. · The bytes of a string in a new row, and the bytes of an entry, plain. Conditions: none. · The contract of tags.Bytes. Conditions: an entry that fits in memory. · What the reader's peek tells of a number's bytes ahead of any bytes. Conditions: numbers of 64 bits. · What the reader reads of fields laid one behind the other: whole, cut short, and back. Plain. Conditions: bytes. · An entry's bytes are read as it was; cut short, or with any behind, they are none; what is read has these bytes. Plain. Conditions: bytes. -/
import Derived.Test.YthaoiamgkpkcbaaDoorYMsgsSame8
import Derived.Laws.BytesArg
import Derived.Test.YthaoiamgkpkcbaaDoorYMsgsSame9
import Derived.Test.YthaoiamgkpkcbaaDoorYMsgsSame7
import Derived.Test.YthaoiamgkpkcbaaDoorYMsgsSame3
import Derived.Lib.ConvBytes
import Derived.Test.YthaoiamgkpkcbaaDoorYMsgsSame5

namespace Go.Proofs.YthaoiamgkpkcbaaDoor.Tg
open Go.ChangeShapes Go.WideShapes Go.ChangeAt Go.RowKit Go.Proofs.YthaoiamgkpkcbaaDoor.Pk
open Go.Proofs.YthaoiamgkpkcbaaDoor.Hlp Go.Proofs.YthaoiamgkpkcbaaDoor.Wrd Go.Proofs.YthaoiamgkpkcbaaDoorW.PrintWords Go.Proofs.YthaoiamgkpkcbaaDoorW.PrintLast Go.Proofs.YthaoiamgkpkcbaaDoorW.PrintMore
set_option linter.unusedVariables false
set_option linter.unusedSimpArgs false
/-- the bytes of a row that is read, as a string -/
theorem conv_str {w : World} {A : Option Addr} {n c : Nat} {xs : List Int} (h : Kd.C (Kd.int .u8) w A n xs) : (Go.convert 24 9 (.slice A n c)).run Tryd.prog w = .ok (.string (strOfNums xs)) w := by
  obtain rfl : xs.length = n := h.1
  rcases Nat.eq_zero_or_pos xs.length with h0 | h0
  · cases A with
    | none =>
      rw [run_convert_bytes_nil w 24 5 Tryd.underlying24 Tryd.underlying5 _ _ 9 Tryd.underlying9, List.length_eq_zero_iff.1 h0]
      rfl
    | some a =>
      rw [run_convert_bytes_string w 24 9 5 _ _ _ Tryd.underlying24 Tryd.underlying5 Tryd.underlying9, run_bytesToString w a _ c xs (by rw [List.length_eq_zero_iff.1 h0]; rfl), List.length_eq_zero_iff.1 h0]
      rfl
  · obtain ⟨bb, off, rfl, hc⟩ := C_block h h0
    exact run_convert_bytes_arg w 24 5 Tryd.underlying24 Tryd.underlying5 bb off _ c xs rfl (fun i hi => by rw [hc i hi]; simp [List.getD, List.getElem?_eq_getElem hi]) 9 Tryd.underlying9
theorem Rd.setE {w : World} {g E : Nat} {b : Option Addr} {c : Nat} {l : List Int} {e : Int} {ins : Bool} {cs : Array Value} {t : TypeId} (h : Rd w g b c l e ins) (hE : w.heap[E]? = some (.cells cs t (0, 0))) (hne : g ≠ E) (hno : ∀ (j : Nat) (x : Int), cs[j]? ≠ some (Value.int .u8 x)) (i : Nat) (u : Value) :
    Rd (w.setCell ⟨E, i, none⟩ u) g b c l e ins where
  blk := by rw [Below.heap_setCell w _ u g (by intro x; exact hne x)]; exact h.blk
  row := C_set h.row (fun x j => by rw [blk_cell hE]; exact hno j x)
  cap := h.cap
  bytes := h.bytes
  typ := fun h0 p o x => typ_set _ _ (h.typ h0 p o x)
/-- what an entry read is -/
structure En where
  k : List Int
  a : Int
  b : Int
  c : Int
  h : Bool
  v : List Int
def En.zero : En := ⟨[], 0, 0, 0, false, []⟩
def getS (s : St) : En × St :=
  let (k, s1) := rowS s
  let (a, s2) := belowS 1099511627776 s1
  let (b, s3) := belowS 1048576 s2
  let (c, s4) := belowS 1048576 s3
  let (h, s5) := truthS s4
  let (v, s6) := if h then rowS s5 else ([], s5)
  if s6.e = 0 ∧ okEnt (strOfNums k) a b c h v then (⟨k, a, b, c, h, v⟩, s6) else (En.zero, failS s6)
/-- the entry and the result that are being made, beside the reader -/
structure Fr (w W : World) (g N E : Nat) (cN cE : Array Value) (s : St) : Prop where
  rd : ∃ b c, Rd W g b c s.l s.e false
  up : w.grownBy W (some g)
  bN : W.heap[N]? = some (.cells cN 28 (0, 0))
  bE : W.heap[E]? = some (.cells cE 28 (0, 0))
  gN : w.heap.size ≤ N
  gE : w.heap.size ≤ E
  ne : N ≠ E
  nN : g ≠ N
  nE : g ≠ E
abbrev zEn : Array Value := #[.string ⟨#[]⟩, .int .i64 0, .int .i64 0, .int .i64 0, .bool false, .slice none 0 0]
theorem Fr.step {w W W' : World} {g N E : Nat} {cN cE : Array Value} {s s' : St} (h : Fr w W g N E cN cE s) (hA : At W g false s' W') : Fr w W' g N E cN cE s' := by
  obtain ⟨b, c, hr, hg⟩ := hA
  exact ⟨⟨b, c, hr⟩, upd_trans h.up hg, blk_grown h.bN hg (by intro x; injection x with x; exact h.nN x.symm), blk_grown h.bE hg (by intro x; injection x with x; exact h.nE x.symm), h.gN, h.gE, h.ne, h.nN, h.nE⟩
theorem Fr.below {w W W' : World} {g N E : Nat} {cN cE : Array Value} {s : St} (h : Fr w W g N E cN cE s) (hB : Below W.heap.size W W') : Fr w W' g N E cN cE s := by
  obtain ⟨b, c, hr⟩ := h.rd
  exact ⟨⟨b, c, hr.below hB⟩, upd_trans h.up (grown_of_below hB _), blk_below h.bN hB, blk_below h.bE hB, h.gN, h.gE, h.ne, h.nN, h.nE⟩
theorem Fr.setE {w W : World} {g N E : Nat} {cN cE : Array Value} {s : St} (h : Fr w W g N E cN cE s) (hno : ∀ (j : Nat) (x : Int), cE[j]? ≠ some (Value.int .u8 x)) (i : Nat) (u : Value) : Fr w (W.setCell ⟨E, i, none⟩ u) g N E cN (cE.setIfInBounds i u) s := by
  obtain ⟨b, c, hr⟩ := h.rd
  exact ⟨⟨b, c, Rd.setE hr h.bE h.nE hno i u⟩, ⟨h.up.os, h.up.tape, h.up.output, by have := h.up.size; simpa [World.setCell] using this, fun k hk hk2 => (Below.heap_setCell W _ u k (by intro x; have := h.gE; simp at x; omega)).trans (h.up.block k hk hk2)⟩, by
    rw [Below.heap_setCell W _ u N (by intro x; exact h.ne x)]; exact h.bN, by rw [blk_set h.bE], h.gN, h.gE, h.ne, h.nN, h.nE⟩
theorem En.noByte {k : ByteArray} {a b c : Int} {h : Bool} {A : Option Addr} {n m : Nat} : ∀ (j : Nat) (x : Int), (#[Value.string k, .int .i64 a, .int .i64 b, .int .i64 c, .bool h, .slice A n m] : Array Value)[j]? ≠ some (Value.int .u8 x) := by
  intro j x
  match j with
  | 0 | 1 | 2 | 3 | 4 | 5 => simp
  | j + 6 => simp
theorem Fr.setN {w W : World} {g N E : Nat} {cN cE : Array Value} {s : St} (h : Fr w W g N E cN cE s) (hno : ∀ (j : Nat) (x : Int), cN[j]? ≠ some (Value.int .u8 x)) (i : Nat) (u : Value) : Fr w (W.setCell ⟨N, i, none⟩ u) g N E (cN.setIfInBounds i u) cE s := by
  obtain ⟨b, c, hr⟩ := h.rd
  exact ⟨⟨b, c, Rd.setE hr h.bN h.nN hno i u⟩, ⟨h.up.os, h.up.tape, h.up.output, by have := h.up.size; simpa [World.setCell] using this, fun k hk hk2 => (Below.heap_setCell W _ u k (by intro x; have := h.gN; simp at x; omega)).trans (h.up.block k hk hk2)⟩, by rw [blk_set h.bN], by
    rw [Below.heap_setCell W _ u E (by intro x; exact h.ne x.symm)]; exact h.bE, h.gN, h.gE, h.ne, h.nN, h.nE⟩
theorem belowS_len (m : Int) (s : St) : (belowS m s).2.l.length ≤ s.l.length := by
  unfold belowS; repeat' split
  all_goals simp [List.length_drop]
theorem rowS_len (s : St) : (rowS s).2.l.length ≤ s.l.length := by
  unfold rowS; repeat' split
  all_goals simp [List.length_drop]
theorem truthS_len (s : St) : (truthS s).2.l.length ≤ s.l.length := by
  unfold truthS; repeat' split
  all_goals simp_all
/-- the entry that was read, and where the reader stands -/
def GetPost (w : World) (g : Nat) (r : En × St) (x : Ending) (w' : World) : Prop :=
  ∃ A c, x = .returned (.agg #[.string (strOfNums r.1.k), .int .i64 r.1.a, .int .i64 r.1.b, .int .i64 r.1.c, .bool r.1.h, .slice A r.1.v.length c]) ∧ Kd.R (Kd.int .u8) 5 w' w.heap.size (fun _ => True) (.slice A r.1.v.length c) r.1.v ∧ At w g false r.2 w'
set_option maxHeartbeats 4000000 in
set_option maxRecDepth 100000 in
theorem get_ {w : World} {g : Nat} {b : Option Addr} {c : Nat} {l : List Int} {e : Int} (h : Rd w g b c l e false) (hl : l.length ≤ 140737488351232) :
    Calls Tryd.prog 70 #[.pointer (some ⟨g, 0, none⟩)] w (GetPost w g (getS ⟨l, e⟩)) := by
  have hu40 := Tryd.underlying28
  have hu23 := Tryd.underlying23
  have hu38 := Tryd.underlying26
  have HR := Aside0.mk h
  have FR : Aside0 (Fr w ((w.alloc (.cells zEn 28)).alloc (.cells zEn 28)) g w.heap.size (w.heap.size + 1) zEn zEn ⟨l, e⟩) :=
    ⟨⟨⟨b, c, (h.below (below_alloc (Below.refl _ _) _)).below (by exact below_alloc (Below.refl _ _) _)⟩, grown_of_below (below_alloc (below_alloc (Below.refl _ _) _) _) _, by
      exact blk_alloc (blk_new w _) _, by have := blk_new (w.alloc (.cells zEn 28)) (.cells zEn 28); simpa using this, Nat.le_refl _, Nat.le_succ _, by omega, by have := blk_lt h.blk; omega, by have := blk_lt h.blk; omega⟩⟩
  clear h HR
  go_enter Tryd.func70, Tryd.ntmps70
  go_wp2_with fail
  obtain ⟨b1, c1, hrd⟩ := FR.out.rd
  (with_reducible refine (row_ hrd hl).mono ?_)
  obtain ⟨⟨k, s1⟩, hrow⟩ : ∃ r, rowS ⟨l, e⟩ = r := ⟨_, rfl⟩
  rw [hrow]
  rintro x w1 ⟨v, rfl, ho, hA⟩
  obtain ⟨A1, c2, rfl, hc2, hr2⟩ := Kd.R_reads ho
  have hcv := conv_str (c := c2) hr2
  have FR1 := Aside0.mk (FR.out.step hA)
  have e0 : w1.cell? ⟨w.heap.size + 1, 0, none⟩ = some (.string ⟨#[]⟩) := (blk_cell FR1.out.bE 0).trans rfl
  have f0 := blk_frozen FR1.out.bE 0
  clear ho hc2 hr2 hA hrd FR
  go_wp2_with fail
  have FR2 : Aside0 (Fr w (w1.setCell ⟨w.heap.size + 1, 0, none⟩ (.string (strOfNums k))) g w.heap.size (w.heap.size + 1) zEn #[.string (strOfNums k), .int .i64 0, .int .i64 0, .int .i64 0, .bool false, .slice none 0 0] s1) := ⟨FR1.out.setE En.noByte 0 _⟩
  generalize w1.setCell ⟨w.heap.size + 1, 0, none⟩ (.string (strOfNums k)) = w2 at *
  clear e0 f0 hcv FR1
  obtain ⟨b1, c1, hrd⟩ := FR2.out.rd
  (with_reducible refine (below_ 1099511627776 hrd).mono ?_)
  obtain ⟨⟨ta, s2⟩, hs2⟩ : ∃ r, belowS 1099511627776 s1 = r := ⟨_, rfl⟩
  rw [show (⟨s1.l, s1.e⟩ : St) = s1 from rfl, hs2]
  rintro x w3 ⟨rfl, hA⟩
  have FR3 := Aside0.mk (FR2.out.step hA)
  clear hA hrd FR2
  go_wp2_with fail
  obtain ⟨b1, c1, hrd⟩ := FR3.out.rd
  (with_reducible refine (below_ 1048576 hrd).mono ?_)
  obtain ⟨⟨tb, s3⟩, hs3⟩ : ∃ r, belowS 1048576 s2 = r := ⟨_, rfl⟩
  rw [show (⟨s2.l, s2.e⟩ : St) = s2 from rfl, hs3]
  rintro x w4 ⟨rfl, hA⟩
  have FR4 := Aside0.mk (FR3.out.step hA)
  clear hA hrd FR3
  go_wp2_with fail
  obtain ⟨b1, c1, hrd⟩ := FR4.out.rd
  (with_reducible refine (below_ 1048576 hrd).mono ?_)
  obtain ⟨⟨tc, s4⟩, hs4⟩ : ∃ r, belowS 1048576 s3 = r := ⟨_, rfl⟩
  rw [show (⟨s3.l, s3.e⟩ : St) = s3 from rfl, hs4]
  rintro x w5 ⟨rfl, hA⟩
  have FR5 := Aside0.mk (FR4.out.step hA)
  clear hA hrd FR4
  have e1 : w5.cell? ⟨w.heap.size + 1, 1, none⟩ = some (.int .i64 0) := (blk_cell FR5.out.bE 1).trans rfl
  have e2 : w5.cell? ⟨w.heap.size + 1, 2, none⟩ = some (.int .i64 0) := (blk_cell FR5.out.bE 2).trans rfl
  have e3 : w5.cell? ⟨w.heap.size + 1, 3, none⟩ = some (.int .i64 0) := (blk_cell FR5.out.bE 3).trans rfl
  have f1 := blk_frozen FR5.out.bE 1
  have f2 := blk_frozen FR5.out.bE 2
  have f3 := blk_frozen FR5.out.bE 3
  go_wp2_with fail
  have FR6 : Aside0 (Fr w (((w5.setCell ⟨w.heap.size + 1, 1, none⟩ (.int .i64 ta)).setCell ⟨w.heap.size + 1, 2, none⟩ (.int .i64 tb)).setCell ⟨w.heap.size + 1, 3, none⟩ (.int .i64 tc)) g w.heap.size (w.heap.size + 1) zEn #[.string (strOfNums k), .int .i64 ta, .int .i64 tb, .int .i64 tc, .bool false, .slice none 0 0] s4) := ⟨((FR5.out.setE En.noByte 1 _).setE En.noByte 2 _).setE En.noByte 3 _⟩
  generalize (((w5.setCell ⟨w.heap.size + 1, 1, none⟩ (.int .i64 ta)).setCell ⟨w.heap.size + 1, 2, none⟩ (.int .i64 tb)).setCell ⟨w.heap.size + 1, 3, none⟩ (.int .i64 tc)) = w6 at *
  clear e1 e2 e3 f1 f2 f3 FR5
  obtain ⟨b1, c1, hrd⟩ := FR6.out.rd
  (with_reducible refine (truth_ hrd).mono ?_)
  obtain ⟨⟨th, s5⟩, hs5⟩ : ∃ r, truthS s4 = r := ⟨_, rfl⟩
  rw [show (⟨s4.l, s4.e⟩ : St) = s4 from rfl, hs5]
  rintro x w7 ⟨rfl, hA⟩
  have FR7 := Aside0.mk (FR6.out.step hA)
  clear hA hrd FR6
  have e4 : w7.cell? ⟨w.heap.size + 1, 4, none⟩ = some (.bool false) := (blk_cell FR7.out.bE 4).trans rfl
  have f4 := blk_frozen FR7.out.bE 4
  have hG : getS ⟨l, e⟩ = (let (v, s6) := if th = true then rowS s5 else ([], s5)
    if s6.e = 0 ∧ okEnt (strOfNums k) ta tb tc th v then (⟨k, ta, tb, tc, th, v⟩, s6) else (En.zero, failS s6)) := by
    unfold getS; rw [hrow]; simp only [hs2, hs3, hs4, hs5]
  have HG0 := Aside0.mk hG
  have hlen : s5.l.length ≤ 140737488351232 := by
    have a1 := rowS_len ⟨l, e⟩; have a2 := belowS_len 1099511627776 s1; have a3 := belowS_len 1048576 s2; have a4 := belowS_len 1048576 s3; have a5 := truthS_len s4
    rw [hrow] at a1; rw [hs2] at a2; rw [hs3] at a3; rw [hs4] at a4; rw [hs5] at a5
    simp only at a1 a2 a3 a4 a5; omega
  clear hG hrow hs2 hs3 hs4 hs5 hl
  have FR8 : Aside0 (Fr w (w7.setCell ⟨w.heap.size + 1, 4, none⟩ (.bool th)) g w.heap.size (w.heap.size + 1) zEn #[.string (strOfNums k), .int .i64 ta, .int .i64 tb, .int .i64 tc, .bool th, .slice none 0 0] s5) := ⟨FR7.out.setE En.noByte 4 _⟩
  cases th
  · go_wp2_with fail
    generalize (w7.setCell ⟨w.heap.size + 1, 4, none⟩ (.bool false)) = w8 at *
    clear e4 f4 FR7
    obtain ⟨v6, s6, A6, c6, hv6, hs6, hA6, hc6⟩ : ∃ (v6 : List Int) (s6 : St) (A6 : Option Addr) (c6 : Nat), v6 = [] ∧ s6 = s5 ∧ A6 = none ∧ c6 = 0 := ⟨_, _, _, _, rfl, rfl, rfl, rfl⟩
    have HV : Aside0 (Kd.R (Kd.int .u8) 5 w8 (w.heap.size + 1) (fun _ => True) (.slice A6 v6.length c6) v6) := ⟨by subst hv6 hA6 hc6; exact Kd.R_nil _ _ _ _ _⟩
    have FR9 : Aside0 (Fr w w8 g w.heap.size (w.heap.size + 1) zEn #[.string (strOfNums k), .int .i64 ta, .int .i64 tb, .int .i64 tc, .bool false, .slice A6 v6.length c6] s6) := ⟨by subst hv6 hA6 hc6 hs6; exact FR8.out⟩
    clear FR8; have FR8 := FR9; clear FR9
    obtain ⟨th, hth⟩ : ∃ th, false = th := ⟨_, rfl⟩
    have HG : Aside0 (getS ⟨l, e⟩ = if s6.e = 0 ∧ okEnt (strOfNums k) ta tb tc th v6 then (⟨k, ta, tb, tc, th, v6⟩, s6) else (En.zero, failS s6)) := ⟨by subst hv6 hs6 hth; exact HG0.out⟩
    rw [hth] at FR8 ⊢
    clear HG0
    clear hv6 hs6 hA6 hc6 hth
    obtain ⟨b1, c1, hrd⟩ := FR8.out.rd
    (with_reducible refine (failed_ hrd).mono ?_)
    rintro x w' ⟨rfl, rfl⟩
    obtain ⟨q, hq⟩ : ∃ q, (s6.e != 0) = q := ⟨_, rfl⟩
    rw [hq]
    cases q
    · have he : s6.e = 0 := by simpa using hq
      have e0 : w8.cell? ⟨w.heap.size + 1, 0, none⟩ = some (.string (strOfNums k)) := (blk_cell FR8.out.bE 0).trans rfl
      have e1 : w8.cell? ⟨w.heap.size + 1, 1, none⟩ = some (.int .i64 ta) := (blk_cell FR8.out.bE 1).trans rfl
      have e2 : w8.cell? ⟨w.heap.size + 1, 2, none⟩ = some (.int .i64 tb) := (blk_cell FR8.out.bE 2).trans rfl
      have e3 : w8.cell? ⟨w.heap.size + 1, 3, none⟩ = some (.int .i64 tc) := (blk_cell FR8.out.bE 3).trans rfl
      have e4 : w8.cell? ⟨w.heap.size + 1, 4, none⟩ = some (.bool th) := (blk_cell FR8.out.bE 4).trans rfl
      have e5 : w8.cell? ⟨w.heap.size + 1, 5, none⟩ = some (.slice A6 v6.length c6) := (blk_cell FR8.out.bE 5).trans rfl
      clear hrd hq
      have HE := Aside0.mk he
      clear he
      go_wp2_with fail
      obtain ⟨hc6, hr6⟩ : v6.length ≤ c6 ∧ Kd.C (Kd.int .u8) w8 A6 v6.length v6 := by
        obtain ⟨A, c, hv, hc, hr⟩ := Kd.R_reads HV.out
        injection hv with h1 h2 h3
        subst h1 h3
        exact ⟨hc, hr⟩
      (with_reducible refine (right_c (strOfNums k) ta tb tc th hr6 hc6).mono ?_)
      rintro x w9 ⟨rfl, hb⟩
      have FR9 := Aside0.mk (FR8.out.below hb)
      have HV9 := Aside0.mk (Kd.R_below HV.out hb)
      clear HV FR8 hb hc6 hr6 e0 e1 e2 e3 e4 e5
      by_cases hok : okEnt (strOfNums k) ta tb tc th v6
      · rw [show rightV (strOfNums k) ta tb tc th v6 = 0 from if_pos hok]
        have HK := Aside0.mk hok
        clear hok
        have e0 : w9.cell? ⟨w.heap.size + 1, 0, none⟩ = some (.string (strOfNums k)) := (blk_cell FR9.out.bE 0).trans rfl
        have e1 : w9.cell? ⟨w.heap.size + 1, 1, none⟩ = some (.int .i64 ta) := (blk_cell FR9.out.bE 1).trans rfl
        have e2 : w9.cell? ⟨w.heap.size + 1, 2, none⟩ = some (.int .i64 tb) := (blk_cell FR9.out.bE 2).trans rfl
        have e3 : w9.cell? ⟨w.heap.size + 1, 3, none⟩ = some (.int .i64 tc) := (blk_cell FR9.out.bE 3).trans rfl
        have e4 : w9.cell? ⟨w.heap.size + 1, 4, none⟩ = some (.bool th) := (blk_cell FR9.out.bE 4).trans rfl
        have e5 : w9.cell? ⟨w.heap.size + 1, 5, none⟩ = some (.slice A6 v6.length c6) := (blk_cell FR9.out.bE 5).trans rfl
        have n0 : w9.cell? ⟨w.heap.size, 0, none⟩ = some (.string ⟨#[]⟩) := (blk_cell FR9.out.bN 0).trans rfl
        have n1 : w9.cell? ⟨w.heap.size, 1, none⟩ = some (.int .i64 0) := (blk_cell FR9.out.bN 1).trans rfl
        have n2 : w9.cell? ⟨w.heap.size, 2, none⟩ = some (.int .i64 0) := (blk_cell FR9.out.bN 2).trans rfl
        have n3 : w9.cell? ⟨w.heap.size, 3, none⟩ = some (.int .i64 0) := (blk_cell FR9.out.bN 3).trans rfl
        have n4 : w9.cell? ⟨w.heap.size, 4, none⟩ = some (.bool false) := (blk_cell FR9.out.bN 4).trans rfl
        have n5 : w9.cell? ⟨w.heap.size, 5, none⟩ = some (.slice none 0 0) := (blk_cell FR9.out.bN 5).trans rfl
        have m0 := blk_frozen FR9.out.bN 0
        have m1 := blk_frozen FR9.out.bN 1
        have m2 := blk_frozen FR9.out.bN 2
        have m3 := blk_frozen FR9.out.bN 3
        have m4 := blk_frozen FR9.out.bN 4
        have m5 := blk_frozen FR9.out.bN 5
        go_wp2_with fail
        have FRb : Fr w _ g w.heap.size (w.heap.size + 1) #[.string (strOfNums k), .int .i64 ta, .int .i64 tb, .int .i64 tc, .bool th, .slice A6 v6.length c6] _ s6 := (((((FR9.out.setN En.noByte 0 (.string (strOfNums k))).setN En.noByte 1 (.int .i64 ta)).setN En.noByte 2 (.int .i64 tb)).setN En.noByte 3 (.int .i64 tc)).setN En.noByte 4 (.bool th)).setN En.noByte 5 (.slice A6 v6.length c6)
        (try simp only [Exit.inBlock, Exit.then])
        refine bodyPost_ret (results_cell_row rfl _ _ w.heap.size 28 _ (0, 0) _ rfl FRb.bN Tryd.underlying28 rfl (by kernel_rfl)) rfl ?_
        rw [HG.out, if_pos ⟨HE.out, HK.out⟩]
        have hlt : w.heap.size < w.heap.size + 1 := Nat.lt_succ_self _
        exact ⟨A6, c6, rfl, Kd.R_lower (R_farg (R_farg (R_farg (R_farg (R_farg (R_farg HV9.out hlt _ _) hlt _ _) hlt _ _) hlt _ _) hlt _ _) hlt _ _) (Nat.le_succ _), FRb.rd.elim fun b h => h.elim fun c h => ⟨b, c, h, FRb.up⟩⟩
      · rw [show rightV (strOfNums k) ta tb tc th v6 = 2 from if_neg hok]
        have HB : Aside0 (getS ⟨l, e⟩ = (En.zero, failS s6)) := ⟨by rw [HG.out, if_neg (by rintro ⟨_, h⟩; exact hok h)]⟩
        clear hok HE HV9 HG
        go_wp2_with fail
        obtain ⟨b1, c1, hrd⟩ := FR9.out.rd
        (with_reducible refine (markWrong_ hrd).mono ?_)
        rintro x w10 ⟨rfl, hA⟩
        have FRa := Aside0.mk (FR9.out.step hA)
        clear hA hrd FR9
        have n0 : w10.cell? ⟨w.heap.size, 0, none⟩ = some (.string ⟨#[]⟩) := (blk_cell FRa.out.bN 0).trans rfl
        have n1 : w10.cell? ⟨w.heap.size, 1, none⟩ = some (.int .i64 0) := (blk_cell FRa.out.bN 1).trans rfl
        have n2 : w10.cell? ⟨w.heap.size, 2, none⟩ = some (.int .i64 0) := (blk_cell FRa.out.bN 2).trans rfl
        have n3 : w10.cell? ⟨w.heap.size, 3, none⟩ = some (.int .i64 0) := (blk_cell FRa.out.bN 3).trans rfl
        have n4 : w10.cell? ⟨w.heap.size, 4, none⟩ = some (.bool false) := (blk_cell FRa.out.bN 4).trans rfl
        have n5 : w10.cell? ⟨w.heap.size, 5, none⟩ = some (.slice none 0 0) := (blk_cell FRa.out.bN 5).trans rfl
        have m0 := blk_frozen FRa.out.bN 0
        have m1 := blk_frozen FRa.out.bN 1
        have m2 := blk_frozen FRa.out.bN 2
        have m3 := blk_frozen FRa.out.bN 3
        have m4 := blk_frozen FRa.out.bN 4
        have m5 := blk_frozen FRa.out.bN 5
        go_wp2_with fail
        have FRb : Fr w _ g w.heap.size (w.heap.size + 1) #[.string ⟨#[]⟩, .int .i64 0, .int .i64 0, .int .i64 0, .bool false, .slice none 0 0] _ (failS s6) := (((((FRa.out.setN En.noByte 0 (.string ⟨#[]⟩)).setN En.noByte 1 (.int .i64 0)).setN En.noByte 2 (.int .i64 0)).setN En.noByte 3 (.int .i64 0)).setN En.noByte 4 (.bool false)).setN En.noByte 5 (.slice none 0 0)
        (try simp only [Exit.inBlock, Exit.then])
        refine bodyPost_ret (results_cell_row rfl _ _ w.heap.size 28 _ (0, 0) _ rfl FRb.bN Tryd.underlying28 rfl (by kernel_rfl)) rfl ?_
        rw [HB.out]
        exact ⟨none, 0, rfl, Kd.R_nil _ _ _ _ _, FRb.rd.elim fun b h => h.elim fun c h => ⟨b, c, h, FRb.up⟩⟩
    · have he : s6.e ≠ 0 := by simpa using hq
      have HB : Aside0 (getS ⟨l, e⟩ = (En.zero, failS s6)) := ⟨by rw [HG.out, if_neg (by rintro ⟨h, _⟩; exact he h)]⟩
      have FR9 := FR8
      clear hrd hq he HV FR8 HG
      go_wp2_with fail
      obtain ⟨b1, c1, hrd⟩ := FR9.out.rd
      (with_reducible refine (markWrong_ hrd).mono ?_)
      rintro x w10 ⟨rfl, hA⟩
      have FRa := Aside0.mk (FR9.out.step hA)
      clear hA hrd FR9
      have n0 : w10.cell? ⟨w.heap.size, 0, none⟩ = some (.string ⟨#[]⟩) := (blk_cell FRa.out.bN 0).trans rfl
      have n1 : w10.cell? ⟨w.heap.size, 1, none⟩ = some (.int .i64 0) := (blk_cell FRa.out.bN 1).trans rfl
      have n2 : w10.cell? ⟨w.heap.size, 2, none⟩ = some (.int .i64 0) := (blk_cell FRa.out.bN 2).trans rfl
      have n3 : w10.cell? ⟨w.heap.size, 3, none⟩ = some (.int .i64 0) := (blk_cell FRa.out.bN 3).trans rfl
      have n4 : w10.cell? ⟨w.heap.size, 4, none⟩ = some (.bool false) := (blk_cell FRa.out.bN 4).trans rfl
      have n5 : w10.cell? ⟨w.heap.size, 5, none⟩ = some (.slice none 0 0) := (blk_cell FRa.out.bN 5).trans rfl
      have m0 := blk_frozen FRa.out.bN 0
      have m1 := blk_frozen FRa.out.bN 1
      have m2 := blk_frozen FRa.out.bN 2
      have m3 := blk_frozen FRa.out.bN 3
      have m4 := blk_frozen FRa.out.bN 4
      have m5 := blk_frozen FRa.out.bN 5
      go_wp2_with fail
      have FRb : Fr w _ g w.heap.size (w.heap.size + 1) #[.string ⟨#[]⟩, .int .i64 0, .int .i64 0, .int .i64 0, .bool false, .slice none 0 0] _ (failS s6) := (((((FRa.out.setN En.noByte 0 (.string ⟨#[]⟩)).setN En.noByte 1 (.int .i64 0)).setN En.noByte 2 (.int .i64 0)).setN En.noByte 3 (.int .i64 0)).setN En.noByte 4 (.bool false)).setN En.noByte 5 (.slice none 0 0)
      (try simp only [Exit.inBlock, Exit.then])
      refine bodyPost_ret (results_cell_row rfl _ _ w.heap.size 28 _ (0, 0) _ rfl FRb.bN Tryd.underlying28 rfl (by kernel_rfl)) rfl ?_
      rw [HB.out]
      exact ⟨none, 0, rfl, Kd.R_nil _ _ _ _ _, FRb.rd.elim fun b h => h.elim fun c h => ⟨b, c, h, FRb.up⟩⟩
  · go_wp2_with fail
    generalize (w7.setCell ⟨w.heap.size + 1, 4, none⟩ (.bool true)) = w8 at *
    clear e4 f4 FR7
    obtain ⟨b1, c1, hrd⟩ := FR8.out.rd
    (with_reducible refine (row_ hrd hlen).mono ?_)
    obtain ⟨⟨v6, s6⟩, hs6⟩ : ∃ r, rowS s5 = r := ⟨_, rfl⟩
    have HG1 : Aside0 (getS ⟨l, e⟩ = if s6.e = 0 ∧ okEnt (strOfNums k) ta tb tc true v6 then (⟨k, ta, tb, tc, true, v6⟩, s6) else (En.zero, failS s6)) := ⟨by rw [HG0.out]; simp only [hs6, if_true]⟩
    clear HG0
    rw [show (⟨s5.l, s5.e⟩ : St) = s5 from rfl, hs6]
    rintro x w9 ⟨v, rfl, ho, hA⟩
    obtain ⟨A6, c6, rfl, hc6, hr6⟩ := Kd.R_reads ho
    have FR9 := Aside0.mk (FR8.out.step hA)
    have hE8 := blk_lt FR8.out.bE
    have HV := Aside0.mk (R_farg (Kd.R_lower ho hE8) (Nat.lt_succ_self _) 5 (.slice A6 v6.length c6))
    have e5 : w9.cell? ⟨w.heap.size + 1, 5, none⟩ = some (.slice none 0 0) := (blk_cell FR9.out.bE 5).trans rfl
    have f5 := blk_frozen FR9.out.bE 5
    clear ho hc6 hr6 hA hrd FR8 hE8
    go_wp2_with fail
    have FR8 : Aside0 (Fr w (w9.setCell ⟨w.heap.size + 1, 5, none⟩ (.slice A6 v6.length c6)) g w.heap.size (w.heap.size + 1) zEn #[.string (strOfNums k), .int .i64 ta, .int .i64 tb, .int .i64 tc, .bool true, .slice A6 v6.length c6] s6) := ⟨FR9.out.setE En.noByte 5 _⟩
    generalize (w9.setCell ⟨w.heap.size + 1, 5, none⟩ (.slice A6 v6.length c6)) = w8 at *
    clear e5 f5 FR9
    obtain ⟨th, hth⟩ : ∃ th, true = th := ⟨_, rfl⟩
    rw [hth] at FR8 ⊢
    have HG : Aside0 (getS ⟨l, e⟩ = if s6.e = 0 ∧ okEnt (strOfNums k) ta tb tc th v6 then (⟨k, ta, tb, tc, th, v6⟩, s6) else (En.zero, failS s6)) := ⟨by subst hth; exact HG1.out⟩
    clear HG1
    have HV := Aside0.mk (Kd.R_lower HV.out (Nat.le_succ (w.heap.size + 1)))
    clear hth
    obtain ⟨b1, c1, hrd⟩ := FR8.out.rd
    (with_reducible refine (failed_ hrd).mono ?_)
    rintro x w' ⟨rfl, rfl⟩
    obtain ⟨q, hq⟩ : ∃ q, (s6.e != 0) = q := ⟨_, rfl⟩
    rw [hq]
    cases q
    · have he : s6.e = 0 := by simpa using hq
      have e0 : w8.cell? ⟨w.heap.size + 1, 0, none⟩ = some (.string (strOfNums k)) := (blk_cell FR8.out.bE 0).trans rfl
      have e1 : w8.cell? ⟨w.heap.size + 1, 1, none⟩ = some (.int .i64 ta) := (blk_cell FR8.out.bE 1).trans rfl
      have e2 : w8.cell? ⟨w.heap.size + 1, 2, none⟩ = some (.int .i64 tb) := (blk_cell FR8.out.bE 2).trans rfl
      have e3 : w8.cell? ⟨w.heap.size + 1, 3, none⟩ = some (.int .i64 tc) := (blk_cell FR8.out.bE 3).trans rfl
      have e4 : w8.cell? ⟨w.heap.size + 1, 4, none⟩ = some (.bool th) := (blk_cell FR8.out.bE 4).trans rfl
      have e5 : w8.cell? ⟨w.heap.size + 1, 5, none⟩ = some (.slice A6 v6.length c6) := (blk_cell FR8.out.bE 5).trans rfl
      clear hrd hq
      have HE := Aside0.mk he
      clear he
      go_wp2_with fail
      obtain ⟨hc6, hr6⟩ : v6.length ≤ c6 ∧ Kd.C (Kd.int .u8) w8 A6 v6.length v6 := by
        obtain ⟨A, c, hv, hc, hr⟩ := Kd.R_reads HV.out
        injection hv with h1 h2 h3
        subst h1 h3
        exact ⟨hc, hr⟩
      (with_reducible refine (right_c (strOfNums k) ta tb tc th hr6 hc6).mono ?_)
      rintro x w9 ⟨rfl, hb⟩
      have FR9 := Aside0.mk (FR8.out.below hb)
      have HV9 := Aside0.mk (Kd.R_below HV.out hb)
      clear HV FR8 hb hc6 hr6 e0 e1 e2 e3 e4 e5
      by_cases hok : okEnt (strOfNums k) ta tb tc th v6
      · rw [show rightV (strOfNums k) ta tb tc th v6 = 0 from if_pos hok]
        have HK := Aside0.mk hok
        clear hok
        have e0 : w9.cell? ⟨w.heap.size + 1, 0, none⟩ = some (.string (strOfNums k)) := (blk_cell FR9.out.bE 0).trans rfl
        have e1 : w9.cell? ⟨w.heap.size + 1, 1, none⟩ = some (.int .i64 ta) := (blk_cell FR9.out.bE 1).trans rfl
        have e2 : w9.cell? ⟨w.heap.size + 1, 2, none⟩ = some (.int .i64 tb) := (blk_cell FR9.out.bE 2).trans rfl
        have e3 : w9.cell? ⟨w.heap.size + 1, 3, none⟩ = some (.int .i64 tc) := (blk_cell FR9.out.bE 3).trans rfl
        have e4 : w9.cell? ⟨w.heap.size + 1, 4, none⟩ = some (.bool th) := (blk_cell FR9.out.bE 4).trans rfl
        have e5 : w9.cell? ⟨w.heap.size + 1, 5, none⟩ = some (.slice A6 v6.length c6) := (blk_cell FR9.out.bE 5).trans rfl
        have n0 : w9.cell? ⟨w.heap.size, 0, none⟩ = some (.string ⟨#[]⟩) := (blk_cell FR9.out.bN 0).trans rfl
        have n1 : w9.cell? ⟨w.heap.size, 1, none⟩ = some (.int .i64 0) := (blk_cell FR9.out.bN 1).trans rfl
        have n2 : w9.cell? ⟨w.heap.size, 2, none⟩ = some (.int .i64 0) := (blk_cell FR9.out.bN 2).trans rfl
        have n3 : w9.cell? ⟨w.heap.size, 3, none⟩ = some (.int .i64 0) := (blk_cell FR9.out.bN 3).trans rfl
        have n4 : w9.cell? ⟨w.heap.size, 4, none⟩ = some (.bool false) := (blk_cell FR9.out.bN 4).trans rfl
        have n5 : w9.cell? ⟨w.heap.size, 5, none⟩ = some (.slice none 0 0) := (blk_cell FR9.out.bN 5).trans rfl
        have m0 := blk_frozen FR9.out.bN 0
        have m1 := blk_frozen FR9.out.bN 1
        have m2 := blk_frozen FR9.out.bN 2
        have m3 := blk_frozen FR9.out.bN 3
        have m4 := blk_frozen FR9.out.bN 4
        have m5 := blk_frozen FR9.out.bN 5
        go_wp2_with fail
        have FRb : Fr w _ g w.heap.size (w.heap.size + 1) #[.string (strOfNums k), .int .i64 ta, .int .i64 tb, .int .i64 tc, .bool th, .slice A6 v6.length c6] _ s6 := (((((FR9.out.setN En.noByte 0 (.string (strOfNums k))).setN En.noByte 1 (.int .i64 ta)).setN En.noByte 2 (.int .i64 tb)).setN En.noByte 3 (.int .i64 tc)).setN En.noByte 4 (.bool th)).setN En.noByte 5 (.slice A6 v6.length c6)
        (try simp only [Exit.inBlock, Exit.then])
        refine bodyPost_ret (results_cell_row rfl _ _ w.heap.size 28 _ (0, 0) _ rfl FRb.bN Tryd.underlying28 rfl (by kernel_rfl)) rfl ?_
        rw [HG.out, if_pos ⟨HE.out, HK.out⟩]
        have hlt : w.heap.size < w.heap.size + 1 := Nat.lt_succ_self _
        exact ⟨A6, c6, rfl, Kd.R_lower (R_farg (R_farg (R_farg (R_farg (R_farg (R_farg HV9.out hlt _ _) hlt _ _) hlt _ _) hlt _ _) hlt _ _) hlt _ _) (Nat.le_succ _), FRb.rd.elim fun b h => h.elim fun c h => ⟨b, c, h, FRb.up⟩⟩
      · rw [show rightV (strOfNums k) ta tb tc th v6 = 2 from if_neg hok]
        have HB : Aside0 (getS ⟨l, e⟩ = (En.zero, failS s6)) := ⟨by rw [HG.out, if_neg (by rintro ⟨_, h⟩; exact hok h)]⟩
        clear hok HE HV9 HG
        go_wp2_with fail
        obtain ⟨b1, c1, hrd⟩ := FR9.out.rd
        (with_reducible refine (markWrong_ hrd).mono ?_)
        rintro x w10 ⟨rfl, hA⟩
        have FRa := Aside0.mk (FR9.out.step hA)
        clear hA hrd FR9
        have n0 : w10.cell? ⟨w.heap.size, 0, none⟩ = some (.string ⟨#[]⟩) := (blk_cell FRa.out.bN 0).trans rfl
        have n1 : w10.cell? ⟨w.heap.size, 1, none⟩ = some (.int .i64 0) := (blk_cell FRa.out.bN 1).trans rfl
        have n2 : w10.cell? ⟨w.heap.size, 2, none⟩ = some (.int .i64 0) := (blk_cell FRa.out.bN 2).trans rfl
        have n3 : w10.cell? ⟨w.heap.size, 3, none⟩ = some (.int .i64 0) := (blk_cell FRa.out.bN 3).trans rfl
        have n4 : w10.cell? ⟨w.heap.size, 4, none⟩ = some (.bool false) := (blk_cell FRa.out.bN 4).trans rfl
        have n5 : w10.cell? ⟨w.heap.size, 5, none⟩ = some (.slice none 0 0) := (blk_cell FRa.out.bN 5).trans rfl
        have m0 := blk_frozen FRa.out.bN 0
        have m1 := blk_frozen FRa.out.bN 1
        have m2 := blk_frozen FRa.out.bN 2
        have m3 := blk_frozen FRa.out.bN 3
        have m4 := blk_frozen FRa.out.bN 4
        have m5 := blk_frozen FRa.out.bN 5
        go_wp2_with fail
        have FRb : Fr w _ g w.heap.size (w.heap.size + 1) #[.string ⟨#[]⟩, .int .i64 0, .int .i64 0, .int .i64 0, .bool false, .slice none 0 0] _ (failS s6) := (((((FRa.out.setN En.noByte 0 (.string ⟨#[]⟩)).setN En.noByte 1 (.int .i64 0)).setN En.noByte 2 (.int .i64 0)).setN En.noByte 3 (.int .i64 0)).setN En.noByte 4 (.bool false)).setN En.noByte 5 (.slice none 0 0)
        (try simp only [Exit.inBlock, Exit.then])
        refine bodyPost_ret (results_cell_row rfl _ _ w.heap.size 28 _ (0, 0) _ rfl FRb.bN Tryd.underlying28 rfl (by kernel_rfl)) rfl ?_
        rw [HB.out]
        exact ⟨none, 0, rfl, Kd.R_nil _ _ _ _ _, FRb.rd.elim fun b h => h.elim fun c h => ⟨b, c, h, FRb.up⟩⟩
    · have he : s6.e ≠ 0 := by simpa using hq
      have HB : Aside0 (getS ⟨l, e⟩ = (En.zero, failS s6)) := ⟨by rw [HG.out, if_neg (by rintro ⟨h, _⟩; exact he h)]⟩
      have FR9 := FR8
      clear hrd hq he HV FR8 HG
      go_wp2_with fail
      obtain ⟨b1, c1, hrd⟩ := FR9.out.rd
      (with_reducible refine (markWrong_ hrd).mono ?_)
      rintro x w10 ⟨rfl, hA⟩
      have FRa := Aside0.mk (FR9.out.step hA)
      clear hA hrd FR9
      have n0 : w10.cell? ⟨w.heap.size, 0, none⟩ = some (.string ⟨#[]⟩) := (blk_cell FRa.out.bN 0).trans rfl
      have n1 : w10.cell? ⟨w.heap.size, 1, none⟩ = some (.int .i64 0) := (blk_cell FRa.out.bN 1).trans rfl
      have n2 : w10.cell? ⟨w.heap.size, 2, none⟩ = some (.int .i64 0) := (blk_cell FRa.out.bN 2).trans rfl
      have n3 : w10.cell? ⟨w.heap.size, 3, none⟩ = some (.int .i64 0) := (blk_cell FRa.out.bN 3).trans rfl
      have n4 : w10.cell? ⟨w.heap.size, 4, none⟩ = some (.bool false) := (blk_cell FRa.out.bN 4).trans rfl
      have n5 : w10.cell? ⟨w.heap.size, 5, none⟩ = some (.slice none 0 0) := (blk_cell FRa.out.bN 5).trans rfl
      have m0 := blk_frozen FRa.out.bN 0
      have m1 := blk_frozen FRa.out.bN 1
      have m2 := blk_frozen FRa.out.bN 2
      have m3 := blk_frozen FRa.out.bN 3
      have m4 := blk_frozen FRa.out.bN 4
      have m5 := blk_frozen FRa.out.bN 5
      go_wp2_with fail
      have FRb : Fr w _ g w.heap.size (w.heap.size + 1) #[.string ⟨#[]⟩, .int .i64 0, .int .i64 0, .int .i64 0, .bool false, .slice none 0 0] _ (failS s6) := (((((FRa.out.setN En.noByte 0 (.string ⟨#[]⟩)).setN En.noByte 1 (.int .i64 0)).setN En.noByte 2 (.int .i64 0)).setN En.noByte 3 (.int .i64 0)).setN En.noByte 4 (.bool false)).setN En.noByte 5 (.slice none 0 0)
      (try simp only [Exit.inBlock, Exit.then])
      refine bodyPost_ret (results_cell_row rfl _ _ w.heap.size 28 _ (0, 0) _ rfl FRb.bN Tryd.underlying28 rfl (by kernel_rfl)) rfl ?_
      rw [HB.out]
      exact ⟨none, 0, rfl, Kd.R_nil _ _ _ _ _, FRb.rd.elim fun b h => h.elim fun c h => ⟨b, c, h, FRb.up⟩⟩
end Go.Proofs.YthaoiamgkpkcbaaDoor.Tg
namespace Go.Proofs.YthaoiamgkpkcbaaDoor.Tg
open Go.ChangeShapes Go.WideShapes Go.ChangeAt Go.RowKit Go.Proofs.YthaoiamgkpkcbaaDoor.Pk
open Go.Proofs.YthaoiamgkpkcbaaDoor.Hlp Go.Proofs.YthaoiamgkpkcbaaDoor.Wrd Go.Proofs.YthaoiamgkpkcbaaDoorW.PrintWords Go.Proofs.YthaoiamgkpkcbaaDoorW.PrintLast Go.Proofs.YthaoiamgkpkcbaaDoorW.PrintMore
set_option linter.unusedVariables false
set_option linter.unusedSimpArgs false
section
variable {w W : World} {g B : Nat} {k k' : ByteArray} {a b c a' b' c' : Int} {h h' : Bool} {A A' : Option Addr} {n m n' m' : Nat}
theorem en_cells (hb : w.heap[g]? = some (.cells #[.string k, .int .i64 a, .int .i64 b, .int .i64 c, .bool h, .slice A n m] 28 (0, 0))) :
    w.cell? ⟨g, 0, none⟩ = some (.string k) ∧ w.cell? ⟨g, 1, none⟩ = some (.int .i64 a) ∧ w.cell? ⟨g, 2, none⟩ = some (.int .i64 b) ∧ w.cell? ⟨g, 3, none⟩ = some (.int .i64 c) ∧ w.cell? ⟨g, 4, none⟩ = some (.bool h) ∧ w.cell? ⟨g, 5, none⟩ = some (.slice A n m) :=
  ⟨(blk_cell hb 0).trans rfl, (blk_cell hb 1).trans rfl, (blk_cell hb 2).trans rfl, (blk_cell hb 3).trans rfl, (blk_cell hb 4).trans rfl, (blk_cell hb 5).trans rfl⟩
theorem en_free {cs : Array Value} {T : Nat} (hb : w.heap[g]? = some (.cells cs T (0, 0))) :
    w.frozen? ⟨g, 0, none⟩ = false ∧ w.frozen? ⟨g, 1, none⟩ = false ∧ w.frozen? ⟨g, 2, none⟩ = false ∧ w.frozen? ⟨g, 3, none⟩ = false ∧ w.frozen? ⟨g, 4, none⟩ = false ∧ w.frozen? ⟨g, 5, none⟩ = false :=
  ⟨blk_frozen hb 0, blk_frozen hb 1, blk_frozen hb 2, blk_frozen hb 3, blk_frozen hb 4, blk_frozen hb 5⟩
/-- an entry laid into a block, field by field -/
abbrev put6 (w : World) (g : Nat) (k : ByteArray) (a b c : Int) (h : Bool) (v : Value) : World :=
  (((((w.setCell ⟨g, 0, none⟩ (.string k)).setCell ⟨g, 1, none⟩ (.int .i64 a)).setCell ⟨g, 2, none⟩ (.int .i64 b)).setCell ⟨g, 3, none⟩ (.int .i64 c)).setCell ⟨g, 4, none⟩ (.bool h)).setCell ⟨g, 5, none⟩ v
theorem put6_blk {v : Value} (hb : w.heap[g]? = some (.cells #[.string k, .int .i64 a, .int .i64 b, .int .i64 c, .bool h, .slice A n m] 28 (0, 0))) :
    (put6 w g k' a' b' c' h' v).heap[g]? = some (.cells #[.string k', .int .i64 a', .int .i64 b', .int .i64 c', .bool h', v] 28 (0, 0)) :=
  blk_set (blk_set (blk_set (blk_set (blk_set (blk_set hb 0 (.string k')) 1 (.int .i64 a')) 2 (.int .i64 b')) 3 (.int .i64 c')) 4 (.bool h')) 5 v
theorem put6_below {v : Value} (hb : Below W.heap.size W w) (hg : W.heap.size ≤ g) : Below W.heap.size W (put6 w g k a b c h v) :=
  below_set (below_set (below_set (below_set (below_set (below_set hb hg) hg) hg) hg) hg) hg
theorem put6_R {α : Type} {d : Kd α} {e : Nat} {v u : Value} {xs : List α} (hr : d.R e w B (fun _ => True) u xs) (hg : g < B) : d.R e (put6 w g k a b c h v) B (fun _ => True) u xs :=
  R_farg (R_farg (R_farg (R_farg (R_farg (R_farg hr hg _ _) hg _ _) hg _ _) hg _ _) hg _ _) hg _ _
theorem put6_ret {fn : Func} {p : Tmp} (hf : fn.results = #[.cell p 28]) (tmps : Array Value) (hp : tmps.getD p undef = .pointer (some ⟨g, 0, none⟩)) (hb : w.heap[g]? = some (.cells #[.string k, .int .i64 a, .int .i64 b, .int .i64 c, .bool h, .slice A n m] 28 (0, 0))) :
    (results fn tmps).run Tryd.prog w = .ok (.agg #[.string k, .int .i64 a, .int .i64 b, .int .i64 c, .bool h, .slice A n m]) w :=
  results_cell_row hf tmps w g 28 _ (0, 0) _ hp hb Tryd.underlying28 rfl (by kernel_rfl)
end
theorem size1 (w : World) (o : Obj) : (w.alloc o).heap.size = w.heap.size + 1 := Array.size_push ..
/-- two blocks, just made -/
theorem two_blks (w : World) (o o' : Obj) : ((w.alloc o).alloc o').heap[w.heap.size]? = some o ∧ ((w.alloc o).alloc o').heap[w.heap.size + 1]? = some o' := by
  refine ⟨blk_alloc (blk_new w o) o', ?_⟩
  have := blk_new (w.alloc o) o'
  rw [size1] at this; exact this
theorem three_blks (w : World) (o o' o'' : Obj) : (((w.alloc o).alloc o').alloc o'').heap[w.heap.size]? = some o ∧ (((w.alloc o).alloc o').alloc o'').heap[w.heap.size + 1]? = some o' ∧ (((w.alloc o).alloc o').alloc o'').heap[w.heap.size + 1 + 1]? = some o'' := by
  obtain ⟨h1, h2⟩ := two_blks w o o'
  refine ⟨blk_alloc h1 o'', blk_alloc h2 o'', ?_⟩
  have := blk_new ((w.alloc o).alloc o') o''
  rw [size1, size1] at this; exact this
theorem below_allocs {W w : World} (h : Below W.heap.size W w) (o o' : Obj) : Below W.heap.size W ((w.alloc o).alloc o') := below_alloc (below_alloc h o) o'
end Go.Proofs.YthaoiamgkpkcbaaDoor.Tg
namespace Go.Proofs.YthaoiamgkpkcbaaDoor.Tg
open Go.ChangeShapes Go.WideShapes Go.ChangeAt Go.RowKit Go.Proofs.YthaoiamgkpkcbaaDoor.Pk
open Go.Proofs.YthaoiamgkpkcbaaDoor.Hlp Go.Proofs.YthaoiamgkpkcbaaDoor.Wrd Go.Proofs.YthaoiamgkpkcbaaDoorW.PrintWords Go.Proofs.YthaoiamgkpkcbaaDoorW.PrintLast Go.Proofs.YthaoiamgkpkcbaaDoorW.PrintMore
set_option linter.unusedVariables false
set_option linter.unusedSimpArgs false
/-- what Copy tells: the same entry, its bytes in a row of the call's own -/
def CopyPost (w : World) (k : ByteArray) (a b c : Int) (h : Bool) (v : List Int) (x : Ending) (w' : World) : Prop :=
  ∃ A2 c2, x = .returned (.agg #[.string k, .int .i64 a, .int .i64 b, .int .i64 c, .bool h, .slice A2 v.length c2]) ∧ Kd.R (Kd.int .u8) 5 w' w.heap.size (fun _ => True) (.slice A2 v.length c2) v ∧ Below w.heap.size w w'
set_option maxHeartbeats 2000000 in
set_option maxRecDepth 100000 in
theorem copy_ {w : World} {A : Option Addr} {n c' : Nat} {v : List Int} (k : ByteArray) (a b c : Int) (h : Bool) (hr : Kd.C (Kd.int .u8) w A n v) (hc : n ≤ c') (hl : n ≤ 140737488351232) :
    Calls Tryd.prog 57 #[.agg #[.string k, .int .i64 a, .int .i64 b, .int .i64 c, .bool h, .slice A n c']] w (CopyPost w k a b c h v) := by
  obtain rfl : v.length = n := hr.1
  have hu40 := Tryd.underlying28
  have hu23 := Tryd.underlying23
  have hu38 := Tryd.underlying26
  have HR := Aside0.mk (Kd.C_alloc (Kd.C_alloc hr (.cells #[.string k, .int .i64 a, .int .i64 b, .int .i64 c, .bool h, .slice A v.length c'] 28)) (.cells zEn 28))
  have HB := Aside0.mk (below_allocs (Below.refl w.heap.size w) (.cells #[.string k, .int .i64 a, .int .i64 b, .int .i64 c, .bool h, .slice A v.length c'] 28) (.cells zEn 28))
  obtain ⟨bE, bN⟩ := two_blks w (.cells #[.string k, .int .i64 a, .int .i64 b, .int .i64 c, .bool h, .slice A v.length c'] 28) (.cells zEn 28)
  have bE := Aside0.mk bE
  have bN := Aside0.mk bN
  clear hr
  go_enter Tryd.func57, Tryd.ntmps57
  go_upto_region 1 with fail
  generalize (w.alloc (.cells #[.string k, .int .i64 a, .int .i64 b, .int .i64 c, .bool h, .slice A v.length c'] 28)).alloc (.cells zEn 28) = W at *
  obtain ⟨e0, e1, e2, e3, e4, e5⟩ := en_cells bE.out
  have hS := Aside0.mk (blk_lt bN.out)
  go_wp2_with ((with_reducible refine gate_builtin (b := .append) rfl ?_); at_builtin; refine Kd.R_append_rows (Kd.int .u8) (w0 := W) W.heap.size rfl _ _ 24 5 (.int .u8 0) 1 rfl Tryd.underlying24 info8 rfl (by decide) (by omega) (.slice none 0 0) [] v _ _ _ (fun _ => True) (fun _ => False) rfl rfl (Kd.R_nil _ _ _ _ _) HR.out (fun _ _ h => h) (fun _ h => h.elim) (fun _ _ => trivial) (Below.refl _ _) (Nat.le_refl _) (by simp; omega) ?_; intro v1 w1 ho hb1 hg hat; rw [List.nil_append] at ho; obtain ⟨A1, c1, rfl⟩ := Kd.R_slice ho; have HO := Aside0.mk ho; have HB1 := Aside0.mk (below_then HB.out HB.out.size hb1); have bE1 := Aside0.mk (blk_below bE.out hb1); have bN1 := Aside0.mk (blk_below bN.out hb1); clear ho hb1 hg hat e0 e1 e2 e3 e4 e5; obtain ⟨e0, e1, e2, e3, e4, e5⟩ := en_cells bE1.out; obtain ⟨f0, f1, f2, f3, f4, f5⟩ := en_free bE1.out; obtain ⟨n0, n1, n2, n3, n4, n5⟩ := en_cells bN1.out; obtain ⟨m0, m1, m2, m3, m4, m5⟩ := en_free bN1.out)
  have bE2 := blk_set bE1.out 5 (.slice A1 v.length c1)
  have bN2 : (w1.setCell ⟨w.heap.size, 5, none⟩ (.slice A1 v.length c1)).heap[w.heap.size + 1]? = _ := (Below.heap_setCell w1 _ _ _ (by simp)).trans bN1.out
  have bN3 := put6_blk (k' := k) (a' := a) (b' := b) (c' := c) (h' := h) (v := .slice A1 v.length c1) bN2
  have hlt := hS.out
  refine bodyPost_ret (put6_ret rfl _ rfl bN3) rfl ?_
  exact ⟨A1, c1, rfl, Kd.R_lower (put6_R (R_farg HO.out (Nat.lt_of_succ_lt hlt) _ _) hlt) HB.out.size, put6_below (below_set HB1.out (Nat.le_refl _)) (Nat.le_succ _)⟩
end Go.Proofs.YthaoiamgkpkcbaaDoor.Tg
namespace Go.Proofs.YthaoiamgkpkcbaaDoor.Lex
/-- from some count of rounds on -/
def Since {α : Type} (f : Nat → Option α) (r : α) : Prop := ∃ K, ∀ k, K ≤ k → f k = some r
theorem Since.one {α β : Type} {f : Nat → Option α} {r : α} {F : Nat → Option β} {q : β} (h : Since f r) (hF : ∀ k, f k = some r → F (k + 1) = some q) : Since F q := by
  obtain ⟨K, h⟩ := h
  refine ⟨K + 1, fun k hk => ?_⟩
  obtain ⟨k, rfl⟩ : ∃ j, k = j + 1 := ⟨k - 1, by omega⟩
  exact hF k (h k (by omega))
theorem Since.two {α α' β : Type} {f : Nat → Option α} {r : α} {g : Nat → Option α'} {r' : α'} {F : Nat → Option β} {q : β} (h : Since f r) (h' : Since g r') (hF : ∀ k, f k = some r → g k = some r' → F (k + 1) = some q) : Since F q := by
  obtain ⟨K, h⟩ := h
  obtain ⟨K', h'⟩ := h'
  refine ⟨K + K' + 1, fun k hk => ?_⟩
  obtain ⟨k, rfl⟩ : ∃ j, k = j + 1 := ⟨k - 1, by omega⟩
  exact hF k (h k (by omega)) (h' k (by omega))
theorem Since.none {β : Type} {F : Nat → Option β} {q : β} (hF : ∀ k, F (k + 1) = some q) : Since F q := by
  refine ⟨1, fun k hk => ?_⟩
  obtain ⟨k, rfl⟩ : ∃ j, k = j + 1 := ⟨k - 1, by omega⟩
  exact hF k
theorem Since.map {α β : Type} {f : Nat → Option α} {r : α} {F : Nat → Option β} {q : β} (h : Since f r) (hF : ∀ k, f k = some r → F k = some q) : Since F q := by
  obtain ⟨K, h⟩ := h
  exact ⟨K, fun k hk => hF k (h k hk)⟩
theorem Since.and {α α' β : Type} {f : Nat → Option α} {r : α} {g : Nat → Option α'} {r' : α'} {F : Nat → Option β} {q : β} (h : Since f r) (h' : Since g r') (hF : ∀ k, f k = some r → g k = some r' → F k = some q) : Since F q := by
  obtain ⟨K, h⟩ := h
  obtain ⟨K', h'⟩ := h'
  exact ⟨K + K', fun k hk => hF k (h k (by omega)) (h' k (by omega))⟩
end Go.Proofs.YthaoiamgkpkcbaaDoor.Lex
namespace Go.Proofs.YthaoiamgkpkcbaaDoor.EncC
open Go Go.RowKit Go.Proofs.YthaoiamgkpkcbaaDoor.Wrd Go.Proofs.YthaoiamgkpkcbaaDoor.Enc Go.Proofs.YthaoiamgkpkcbaaDoor.EncP Go.Proofs.YthaoiamgkpkcbaaDoor.QR Go.Proofs.YthaoiamgkpkcbaaDoor.Hlp
open Go.Proofs.YthaoiamgkpkcbaaDoorW.PrintWords Go.Proofs.YthaoiamgkpkcbaaDoorW.PrintLast Go.Proofs.YthaoiamgkpkcbaaDoorW.PrintMore
set_option linter.unusedVariables false
set_option linter.unusedSimpArgs false
theorem loop_eq (s : ByteArray) : ∀ (d i : Nat) (r : List UInt8), i + d = s.size → ByteArray.toList.loop s i r = r.reverse ++ s.data.toList.drop i
  | 0, i, r, h => by
    have hs : s.size = s.data.toList.length := by rw [Array.length_toList]; rfl
    unfold ByteArray.toList.loop
    rw [if_neg (by omega), List.drop_eq_nil_of_le (by omega)]
    simp
  | d + 1, i, r, h => by
    have hs : s.size = s.data.toList.length := by rw [Array.length_toList]; rfl
    have hi : i < s.data.toList.length := by omega
    unfold ByteArray.toList.loop
    rw [if_pos (by omega), loop_eq s d (i + 1) _ (by omega), List.drop_eq_getElem_cons hi]
    have h2 : i < s.data.size := by simpa using hi
    have : s.get! i = s.data.toList[i] := by
      show s.data[i]! = _
      rw [getElem!_pos s.data i h2]
      simp
    rw [this]
    simp
theorem toList_eq (s : ByteArray) : s.toList = s.data.toList := by
  unfold ByteArray.toList
  rw [loop_eq s s.size 0 [] (by omega)]
  simp
theorem nums_inj : ∀ {a b : List Int}, (∀ x ∈ a, 0 ≤ x ∧ x < 256) → (∀ x ∈ b, 0 ≤ x ∧ x < 256) → (strOfNums a).toList = (strOfNums b).toList → a = b := by
  intro a b ha hb h
  rw [toList_eq, toList_eq, strOfNums_data, strOfNums_data] at h
  have key : ∀ l : List Int, (∀ x ∈ l, 0 ≤ x ∧ x < 256) → (l.map fun n => UInt8.ofNat n.toNat).map (fun c => (c.toNat : Int)) = l := by
    intro l hl
    rw [List.map_map]
    conv => rhs; rw [← List.map_id l]
    refine List.map_congr_left fun x hx => ?_
    obtain ⟨h0, h1⟩ := hl x hx
    simp
    omega
  rw [← key a ha, ← key b hb, h]
/-- a row of its own that a call hands back -/
def Made (w : World) (l : List Int) (e : Ending) (w' : World) : Prop := ∃ v, e = .returned v ∧ Kd.R (Kd.int .u8) 5 w' w.heap.size (fun _ => True) v l ∧ Below w.heap.size w w'
/-- .. beside a number -/
def Made2 (w : World) (l : List Int) (x : Int) (e : Ending) (w' : World) : Prop := ∃ v, e = .returned (.tuple #[v, .int .i64 x]) ∧ Kd.R (Kd.int .u8) 5 w' w.heap.size (fun _ => True) v l ∧ Below w.heap.size w w'
theorem num_c (n : Int) (w : World) : Calls Tryd.prog 29 #[.int .i64 n] w (Made w (numB n)) := pack_Num.calls 9 n _ w (num_f n)
theorem row_c {w : World} {A : Option Addr} {n c : Nat} {l : List Int} (hr : Kd.C (Kd.int .u8) w A n l) (hc : n ≤ c) (hl : n ≤ 65536) : Calls Tryd.prog 59 #[.slice A n c] w (Made2 w (rowB l) 0) := by
  obtain rfl : l.length = n := hr.1
  exact pack_Row.calls 9 _ _ l _ _ w hr hc (row_f l hl)
theorem truth_c (t : Bool) (w : World) : Calls Tryd.prog 32 #[.bool t] w (Made w (truthB t)) := pack_Truth.calls t _ w (truth_f t)
theorem same_c {w : World} {A B : Option Addr} {n c m d : Nat} {l : List Int} (h1 : Kd.C (Kd.int .u8) w A n l) (hc : n ≤ c) (h2 : Kd.C (Kd.int .u8) w B m l) (hd : m ≤ d) :
    Calls Tryd.prog 14 #[.slice A n c, .slice B m d] w fun e w' => e = .returned (.bool true) ∧ Drawn0 w w' := by
  obtain rfl : l.length = n := h1.1
  obtain rfl : l.length = m := h2.1
  exact icehouseref00_Same.calls _ _ l _ _ l true w h1 hc h2 hd (same_f l)
theorem C_blki {k : IntKind} {w : World} {g : Nat} {e : TypeId} {fr : Nat × Nat} {cs : Array Value} (xs : List Int) (h : w.heap[g]? = some (.cells cs e fr)) (hm : cs.size ≤ 9223372036854775807) (hcs : cs.toList = xs.map (Value.int k)) :
    Kd.C (Kd.int k) w (some ⟨g, 0, none⟩) cs.size xs := by
  have hl : cs.size = xs.length := by rw [← Array.length_toList, hcs, List.length_map]
  rw [hl] at hm ⊢
  exact C_blk hm h hcs
end Go.Proofs.YthaoiamgkpkcbaaDoor.EncC
namespace Go.Proofs.YthaoiamgkpkcbaaDoor.Tg
open Go.ChangeShapes Go.WideShapes Go.ChangeAt Go.RowKit Go.Proofs.YthaoiamgkpkcbaaDoor.Pk Go.Proofs.YthaoiamgkpkcbaaDoor.EncC
open Go.Proofs.YthaoiamgkpkcbaaDoor.Hlp Go.Proofs.YthaoiamgkpkcbaaDoor.Wrd Go.Proofs.YthaoiamgkpkcbaaDoorW.PrintWords Go.Proofs.YthaoiamgkpkcbaaDoorW.PrintLast Go.Proofs.YthaoiamgkpkcbaaDoorW.PrintMore
set_option linter.unusedVariables false
set_option linter.unusedSimpArgs false
def sameV (h : Bool) (l : List Int) (h' : Bool) (m : List Int) : Bool := if h = true then (if h' = true then decide (l = m) else false) else !h'
theorem str_eq {l m : List Int} (hl : ∀ x ∈ l, 0 ≤ x ∧ x < 256) (hm : ∀ x ∈ m, 0 ≤ x ∧ x < 256) : ((strOfNums l).toList == (strOfNums m).toList) = decide (l = m) := by
  by_cases h : l = m
  · subst h; simp
  · rw [decide_eq_false h]
    exact beq_eq_false_iff_ne.2 (fun e => h (nums_inj hl hm e))
theorem same_f (h : Bool) (l : List Int) (h' : Bool) (m : List Int) (hl : ∀ x ∈ l, 0 ≤ x ∧ x < 256) (hm : ∀ x ∈ m, 0 ≤ x ∧ x < 256) : QR.tags_SameVal.f h l h' m = some (sameV h l h' m) := by
  unfold QR.tags_SameVal.f sameV
  rw [str_eq hl hm]
  cases h <;> cases h' <;> simp
theorem w_succ (i : Nat) (h : i < 9223372036854775807) : wrap64 ((i : Int) + 1) = ((i + 1 : Nat) : Int) := by unfold wrap64; omega
/-- are two entries the same -/
def sameE (k : ByteArray) (a b c : Int) (h : Bool) (v : List Int) (k' : ByteArray) (a' b' c' : Int) (h' : Bool) (v' : List Int) : Bool :=
  if k.toList = k'.toList then (if (a == a' && (b == b' && (c == c'))) = true then sameV h v h' v' else false) else false
theorem sameE_self (k : ByteArray) (a b c : Int) (h : Bool) (v : List Int) : sameE k a b c h v k a b c h v = true := by
  unfold sameE sameV; cases h <;> simp
section
variable {w : World} {A A' : Option Addr} {n n' d d' : Nat} {v v' : List Int}
theorem se_c (k : ByteArray) (a b c : Int) (h : Bool) (k' : ByteArray) (a' b' c' : Int) (h' : Bool) {r : Bool} (hq : sameE k a b c h v k' a' b' c' h' v' = r) (hl : ∀ x ∈ v, 0 ≤ x ∧ x < 256) (hm : ∀ x ∈ v', 0 ≤ x ∧ x < 256) (hr : Kd.C (Kd.int .u8) w A n v) (hc : n ≤ d) (hr' : Kd.C (Kd.int .u8) w A' n' v') (hc' : n' ≤ d') :
    Calls Tryd.prog 39 #[.agg #[.string k, .int .i64 a, .int .i64 b, .int .i64 c, .bool h, .slice A n d], .agg #[.string k', .int .i64 a', .int .i64 b', .int .i64 c', .bool h', .slice A' n' d']] w fun e w' => e = .returned (.bool r) ∧ Below w.heap.size w w' := by
  obtain rfl : v.length = n := hr.1
  obtain rfl : v'.length = n' := hr'.1
  subst hq
  refine QR.tags_Same.calls k a b c h A d v k' a' b' c' h' A' d' v' _ w hr hc hr' hc' ?_
  unfold QR.tags_Same.f sameE
  rw [same_f h v h' v' hl hm, Option.bind_some]
  split <;> (try split) <;> rfl
end
end Go.Proofs.YthaoiamgkpkcbaaDoor.Tg
namespace Go.Proofs.YthaoiamgkpkcbaaDoor.Tg
open Go.ChangeShapes Go.WideShapes Go.ChangeAt Go.RowKit Go.Proofs.YthaoiamgkpkcbaaDoor.Pk Go.Proofs.YthaoiamgkpkcbaaDoor.EncC Go.Proofs.YthaoiamgkpkcbaaDoor.EncP Go.Proofs.YthaoiamgkpkcbaaDoor.Enc
open Go.Proofs.YthaoiamgkpkcbaaDoor.Hlp Go.Proofs.YthaoiamgkpkcbaaDoor.Wrd Go.Proofs.YthaoiamgkpkcbaaDoorW.PrintWords Go.Proofs.YthaoiamgkpkcbaaDoorW.PrintLast Go.Proofs.YthaoiamgkpkcbaaDoorW.PrintMore
set_option linter.unusedVariables false
set_option linter.unusedSimpArgs false
/-- the bytes of a string -/
def bytesOf (s : ByteArray) : List Int := s.data.toList.map fun b : UInt8 => (b.toNat : Int)
theorem bytesOf_len (s : ByteArray) : (bytesOf s).length = s.size := by unfold bytesOf; rw [List.length_map, Array.length_toList]; rfl
theorem below_bytesWorld (w : World) (s : ByteArray) : Below w.heap.size w (Go.Lib.bytesWorld w 5 s) where
  os := rfl
  tape := rfl
  output := rfl
  size := by rw [Go.Lib.bytesWorld_size]; omega
  block := fun k hk => Go.Lib.bytesWorld_at_old w 5 s k hk
theorem conv_ex (w : World) (s : ByteArray) (hs : s.size ≤ 9223372036854775807) : ∃ c w', (Go.convert 9 24 (.string s)).run Tryd.prog w = .ok (.slice (some ⟨w.heap.size, 0, none⟩) s.size c) w' ∧ s.size ≤ c ∧ Below w.heap.size w w' ∧ Kd.C (Kd.int .u8) w' (some ⟨w.heap.size, 0, none⟩) s.size (bytesOf s) := by
  refine ⟨_, _, Go.Lib.run_convert_string_bytes w 9 24 5 s Tryd.underlying9 Tryd.underlying24 Tryd.underlying5, grownCap_ge _ _ _ _, below_bytesWorld w s, ?_⟩
  have h := C_mk (enc := Value.int .u8) (h1 := fun _ => rfl) (w := Go.Lib.bytesWorld w 5 s) (b := w.heap.size) (off := 0) (xs := bytesOf s) (by rw [bytesOf_len]; exact hs) (fun k hk => by
    rw [bytesOf_len] at hk
    rw [Nat.zero_add, Go.Lib.bytesWorld_cell w 5 s k hk]
    congr 2
    have hk2 : k < s.data.toList.length := by rw [Array.length_toList]; exact hk
    simp only [bytesOf, List.getElem_map, List.getD, List.getElem?_eq_getElem hk2, Option.getD_some])
  rw [bytesOf_len] at h
  exact h
theorem rowB_len {l : List Int} : (rowB l).length ≤ l.length + 9 := by
  unfold rowB
  rw [List.length_append]
  have := numB_len (l.length : Int)
  omega
def entB (k : ByteArray) (a b c : Int) (h : Bool) (v : List Int) : List Int := rowB (bytesOf k) ++ (numB a ++ (numB b ++ (numB c ++ (truthB h ++ (if h = true then rowB v else [])))))
/-- an entry's bytes, and what is wrong -/
def bytesV (k : ByteArray) (a b c : Int) (h : Bool) (v : List Int) : List Int × Int := if okEnt k a b c h v then (entB k a b c h v, 0) else ([], 2)
def catB (l : List Int) : List Int := (l.map numB).flatten
theorem catB_snoc (l : List Int) (x : Int) : catB (l ++ [x]) = catB l ++ numB x := by unfold catB; simp
theorem catB_len (l : List Int) : (catB l).length ≤ 9 * l.length := by
  induction l with
  | nil => simp [catB]
  | cons x l ih =>
    have := numB_len x
    have e : catB (x :: l) = numB x ++ catB l := rfl
    rw [e, List.length_append, List.length_cons]; omega
theorem apart {α : Type} {d : Kd α} {e T : Nat} {w : World} {base bx : Nat} {ok : Nat → Prop} {v : Value} {xs : List α} {cs : Array Value} (h : d.R e w base ok v xs) (hx : w.heap[bx]? = some (.cells cs T (0, 0))) (hne : T ≠ e) : some bx ≠ v.ownBlock := by
  intro hk
  obtain ⟨cells, hc⟩ := own_typed (Kd.R_own h).choose_spec bx hk.symm
  rw [hx] at hc
  injection hc with hc
  injection hc with _ h2
  exact hne h2
/-- a block of another type behind an append to a row of one's own -/
theorem blk_apart {α : Type} {d : Kd α} {e T : Nat} {w w1 : World} {base bx : Nat} {ok : Nat → Prop} {v : Value} {xs : List α} {cs : Array Value} (h : d.R e w base ok v xs) (hx : w.heap[bx]? = some (.cells cs T (0, 0))) (hne : T ≠ e) (hg : w.grownBy w1 v.ownBlock) : w1.heap[bx]? = some (.cells cs T (0, 0)) :=
  (hg.block _ (blk_lt hx) (apart h hx hne)).trans hx
end Go.Proofs.YthaoiamgkpkcbaaDoor.Tg
namespace Go.Proofs.YthaoiamgkpkcbaaDoor.Tg
open Go.ChangeShapes Go.WideShapes Go.ChangeAt Go.RowKit Go.Proofs.YthaoiamgkpkcbaaDoor.Pk Go.Proofs.YthaoiamgkpkcbaaDoor.EncC Go.Proofs.YthaoiamgkpkcbaaDoor.EncP Go.Proofs.YthaoiamgkpkcbaaDoor.Enc
open Go.Proofs.YthaoiamgkpkcbaaDoor.Hlp Go.Proofs.YthaoiamgkpkcbaaDoor.Wrd Go.Proofs.YthaoiamgkpkcbaaDoorW.PrintWords Go.Proofs.YthaoiamgkpkcbaaDoorW.PrintLast Go.Proofs.YthaoiamgkpkcbaaDoorW.PrintMore
set_option linter.unusedVariables false
set_option linter.unusedSimpArgs false
set_option maxHeartbeats 4000000 in
set_option maxRecDepth 100000 in
theorem bytes_ {w : World} {A : Option Addr} {d : Nat} {v : List Int} (k : ByteArray) (a b c : Int) (h : Bool) (hr : Kd.C (Kd.int .u8) w A v.length v) (hc : v.length ≤ d) :
    Calls Tryd.prog 31 #[.agg #[.string k, .int .i64 a, .int .i64 b, .int .i64 c, .bool h, .slice A v.length d]] w (Made2 w (bytesV k a b c h v).1 (bytesV k a b c h v).2) := by
  have hu40 := Tryd.underlying28
  have hu23 := Tryd.underlying23
  have hu38 := Tryd.underlying26
  have bE := blk_new w (.cells #[.string k, .int .i64 a, .int .i64 b, .int .i64 c, .bool h, .slice A v.length d] 28)
  have HR0 := Aside0.mk hr
  have HR := Aside0.mk (Kd.C_alloc hr (.cells #[.string k, .int .i64 a, .int .i64 b, .int .i64 c, .bool h, .slice A v.length d] 28))
  have HB := Aside0.mk (below_alloc (Below.refl w.heap.size w) (.cells #[.string k, .int .i64 a, .int .i64 b, .int .i64 c, .bool h, .slice A v.length d] 28))
  have BE := Aside0.mk bE
  clear hr bE
  by_cases hok : okEnt k a b c h v
  · have HV := Aside0.mk (show rightV k a b c h v = 0 from if_pos hok)
    have HE := Aside0.mk (show bytesV k a b c h v = (entB k a b c h v, 0) from if_pos hok)
    have hk : k.size ≤ 250 := hok.2.1
    have hv : v.length ≤ 60000 := hok.2.2.1
    clear hok
    go_enter Tryd.func31, Tryd.ntmps31
    go_upto_region 1 with fail
    generalize w.alloc (.cells #[.string k, .int .i64 a, .int .i64 b, .int .i64 c, .bool h, .slice A v.length d] 28) = W at *
    obtain ⟨e0, e1, e2, e3, e4, e5⟩ := en_cells BE.out
    go_wp2_with fail
    (with_reducible refine (right_c k a b c h HR.out hc).mono ?_)
    rw [HV.out]
    rintro x w1 ⟨rfl, hb⟩
    have HB := Aside0.mk (below_then HB.out HB.out.size hb)
    have BE := Aside0.mk (blk_below BE.out hb)
    clear hb e0 e1 e2 e3 e4 e5
    obtain ⟨e0, e1, e2, e3, e4, e5⟩ := en_cells BE.out
    obtain ⟨ck, w2, hcv, hck, hb, hC⟩ := conv_ex w1 k (by omega)
    have HB := Aside0.mk (below_then HB.out HB.out.size hb)
    have BE := Aside0.mk (blk_below BE.out hb)
    have HC := Aside0.mk hC
    clear hb hC
    go_wp2_with fail
    clear hcv
    (with_reducible refine (row_c HC.out hck (by omega)).mono ?_)
    rintro x w3 ⟨vo, rfl, ho, hb⟩
    have HO := Aside0.mk (Kd.R_lower ho HB.out.size)
    have HB := Aside0.mk (below_then HB.out HB.out.size hb)
    have BE := Aside0.mk (blk_below BE.out hb)
    clear ho hb e0 e1 e2 e3 e4 e5
    obtain ⟨e0, e1, e2, e3, e4, e5⟩ := en_cells BE.out
    have HL : Aside0 ((rowB (bytesOf k)).length ≤ 300 ∧ (∀ l, (catB l).length ≤ 9 * l.length) ∧ (∀ n, (numB n).length ≤ 9) ∧ (truthB h).length = 1 ∧ (rowB v).length ≤ 60009) := ⟨by have := rowB_len (l := bytesOf k); rw [bytesOf_len] at this; omega, catB_len, numB_len, by unfold truthB; split <;> rfl, by have := rowB_len (l := v); omega⟩
    go_wp2_with fail
    have BN := Aside0.mk (blk_new w3 (.cells #[.int .i64 a, .int .i64 b, .int .i64 c] 3))
    have BE := Aside0.mk (blk_alloc BE.out (.cells #[.int .i64 a, .int .i64 b, .int .i64 c] 3))
    have HO := Aside0.mk (Kd.R_alloc HO.out (.cells #[.int .i64 a, .int .i64 b, .int .i64 c] 3))
    have HB := Aside0.mk (below_alloc HB.out (.cells #[.int .i64 a, .int .i64 b, .int .i64 c] 3))
    generalize w3.heap.size = gN at *
    generalize w3.alloc (.cells #[.int .i64 a, .int .i64 b, .int .i64 c] 3) = w4 at *
    clear e0 e1 e2 e3 e4 e5
    go_loopw [5, 34] (fun o i w' => ∃ j : Nat, j ≤ 3 ∧ i = .int .i64 j ∧ Aside0 (Kd.R (Kd.int .u8) 5 w' w.heap.size (fun _ => True) o (rowB (bytesOf k) ++ catB ([a, b, c].take j))) ∧ Aside0 (w'.heap[w.heap.size]? = some (.cells #[.string k, .int .i64 a, .int .i64 b, .int .i64 c, .bool h, .slice A v.length d] 28 (0, 0))) ∧ Aside0 (w'.heap[gN]? = some (.cells #[.int .i64 a, .int .i64 b, .int .i64 c] 3 (0, 0))) ∧ Aside0 (Below w.heap.size w w')) (fun _ i _ => 3 - (intOf i).toNat)
    case atStart => exact ⟨0, by omega, rfl, ⟨by rw [List.take_zero]; simpa [catB] using HO.out⟩, BE, BN, HB⟩
    case round =>
      obtain ⟨j, hj, rfl, HO, BE, BN, HB⟩ := hrel
      obtain ⟨xs, hxs⟩ : ∃ xs, rowB (bytesOf k) ++ catB ([a, b, c].take j) = xs := ⟨_, rfl⟩
      rw [hxs] at HO
      have HX := Aside0.mk hxs
      have HXl : Aside0 (xs.length ≤ 400) := ⟨by rw [← hxs, List.length_append]; have q1 := HL.out.1; have q2 := HL.out.2.1 ([a, b, c].take j); simp only [List.length_take, List.length_cons, List.length_nil] at q2; omega⟩
      clear hxs
      obtain ⟨Ao, co, rfl⟩ := Kd.R_slice HO.out
      by_cases hlt : j < 3
      · obtain ⟨g9, o9, eg9, hcell⟩ := C_block (C_blki [a, b, c] BN.out (by simp) rfl) (by simp)
        injection eg9 with eg9
        injection eg9 with eg9 eo9 sp9
        clear sp9
        subst eg9 eo9
        have cj := hcell j (by simpa using hlt)
        rw [Nat.zero_add] at cj
        obtain ⟨x, hx⟩ : ∃ x, [a, b, c][j]'(by simpa using hlt) = x := ⟨_, rfl⟩
        have HT := Aside0.mk (show [a, b, c].take (j + 1) = [a, b, c].take j ++ [x] by rw [List.take_succ_eq_append_getElem (by simpa using hlt), hx])
        rw [hx] at cj
        have t1 : decide ((j : Int) < 3) = true := decide_eq_true (by omega)
        have j0 : (0 : Int) ≤ (j : Int) := by omega
        have j1 : (j : Int) < 3 := by omega
        clear hcell hx
        go_wp2_with fail
        (with_reducible refine (num_c x _).mono ?_)
        rintro y w5 ⟨vn, rfl, hn, hb⟩
        obtain ⟨An, cn, rfl, hcn, hnr⟩ := Kd.R_reads hn
        have HN := Aside0.mk hnr
        have HO := Aside0.mk (Kd.R_below HO.out hb)
        have HB := Aside0.mk (below_then HB.out HB.out.size hb)
        have BE := Aside0.mk (blk_below BE.out hb)
        have BN := Aside0.mk (blk_below BN.out hb)
        clear hn hnr hb cj
        go_wp2_with ((with_reducible refine gate_builtin (b := .append) (xs := #[.tmp 38, .tmp 40]) rfl ?_); at_builtin; refine Kd.R_append_rows (Kd.int .u8) (w0 := w) w.heap.size rfl (.tmp 38) (.tmp 40) 24 5 (.int .u8 0) 1 rfl Tryd.underlying24 info8 rfl (by decide) (by omega) _ _ _ _ _ _ (fun _ => True) (fun _ => False) rfl rfl HO.out HN.out (fun _ _ h => h) (fun _ h => h.elim) (fun _ _ => trivial) HB.out HB.out.size ?aL ?_; (case aL => have q1 := HXl.out; have q3 := HL.out.2.2.1 x; omega); intro va wa ho hb hg hat; have HO2 := Aside0.mk ho; have HB2 := Aside0.mk hb; have BE2 := Aside0.mk (blk_apart HO.out BE.out (by decide) hg); have BN2 := Aside0.mk (blk_apart HO.out BN.out (by decide) hg); clear ho hb hg hat)
        go_roundw
        case rel => exact ⟨j + 1, by omega, by go_num, ⟨by rw [HT.out, catB_snoc, ← List.append_assoc, HX.out]; exact HO2.out⟩, BE2, BN2, HB2⟩
        case measure => simp [intOf]; omega
      · obtain rfl : j = 3 := by omega
        obtain ⟨e0, e1, e2, e3, e4, e5⟩ := en_cells BE.out
        go_wp2_with fail
        (with_reducible refine (truth_c h _).mono ?_)
        rintro y w5 ⟨vn, rfl, hn, hb⟩
        obtain ⟨An, cn, rfl, hcn, hnr⟩ := Kd.R_reads hn
        have HN := Aside0.mk hnr
        have HO := Aside0.mk (Kd.R_below HO.out hb)
        have HB := Aside0.mk (below_then HB.out HB.out.size hb)
        have BE := Aside0.mk (blk_below BE.out hb)
        clear hn hnr hb e0 e1 e2 e3 e4 e5
        obtain ⟨e0, e1, e2, e3, e4, e5⟩ := en_cells BE.out
        cases h
        · go_wp2_with ((with_reducible refine gate_builtin (b := .append) (xs := #[.tmp 43, .tmp 47]) rfl ?_); at_builtin; refine Kd.R_append_rows (Kd.int .u8) (w0 := w) w.heap.size rfl (.tmp 43) (.tmp 47) 24 5 (.int .u8 0) 1 rfl Tryd.underlying24 info8 rfl (by decide) (by omega) _ _ _ _ _ _ (fun _ => True) (fun _ => False) rfl rfl HO.out HN.out (fun _ _ h => h) (fun _ h => h.elim) (fun _ _ => trivial) HB.out HB.out.size ?aL ?_; (case aL => have q1 := HXl.out; have q3 := HL.out.2.2.2.1; omega); intro va wa ho hb hg hat; have HO2 := Aside0.mk ho; have HB2 := Aside0.mk hb; have BE2 := Aside0.mk (blk_apart HO.out BE.out (by decide) hg); clear ho hb hg hat e0 e1 e2 e3 e4 e5; obtain ⟨e0, e1, e2, e3, e4, e5⟩ := en_cells BE2.out)
          go_ret2
          refine ⟨va, ?_, ?_, HB2.out⟩
          · rw [HE.out]; rfl
          · rw [HE.out, show (entB k a b c false v, (0 : Int)).1 = xs ++ truthB false from by rw [← HX.out]; simp [entB, catB]]; exact HO2.out
        · go_wp2_with ((with_reducible refine gate_builtin (b := .append) (xs := #[.tmp 43, .tmp 47]) rfl ?_); at_builtin; refine Kd.R_append_rows (Kd.int .u8) (w0 := w) w.heap.size rfl (.tmp 43) (.tmp 47) 24 5 (.int .u8 0) 1 rfl Tryd.underlying24 info8 rfl (by decide) (by omega) _ _ _ _ _ _ (fun _ => True) (fun _ => False) rfl rfl HO.out HN.out (fun _ _ h => h) (fun _ h => h.elim) (fun _ _ => trivial) HB.out HB.out.size ?aL ?_; (case aL => have q1 := HXl.out; have q3 := HL.out.2.2.2.1; omega); intro va wa ho hb hg hat; have HO2 := Aside0.mk ho; have HB2 := Aside0.mk hb; have BE2 := Aside0.mk (blk_apart HO.out BE.out (by decide) hg); clear ho hb hg hat e0 e1 e2 e3 e4 e5; obtain ⟨e0, e1, e2, e3, e4, e5⟩ := en_cells BE2.out)
          have HR := Aside0.mk (Kd.C_below HR0.out HB2.out)
          (with_reducible refine (row_c HR.out hc (by omega)).mono ?_)
          rintro y w6 ⟨vn, rfl, hn, hb⟩
          obtain ⟨An, cn, rfl, hcn, hnr⟩ := Kd.R_reads hn
          have HN := Aside0.mk hnr
          obtain ⟨ys, hys⟩ : ∃ ys, xs ++ truthB true = ys := ⟨_, rfl⟩
          have HY := Aside0.mk hys
          have HYl : Aside0 (ys.length ≤ 401) := ⟨by rw [← hys, List.length_append]; have q1 := HXl.out; have q3 := HL.out.2.2.2.1; omega⟩
          rw [hys] at HO2
          have HO := Aside0.mk (Kd.R_below HO2.out hb)
          have HB := Aside0.mk (below_then HB2.out HB2.out.size hb)
          clear hn hnr hb hys e0 e1 e2 e3 e4 e5
          go_wp2_with ((with_reducible refine gate_builtin (b := .append) (xs := #[.tmp 59, .tmp 60]) rfl ?_); at_builtin; refine Kd.R_append_rows (Kd.int .u8) (w0 := w) w.heap.size rfl (.tmp 59) (.tmp 60) 24 5 (.int .u8 0) 1 rfl Tryd.underlying24 info8 rfl (by decide) (by omega) _ _ _ _ _ _ (fun _ => True) (fun _ => False) rfl rfl HO.out HN.out (fun _ _ h => h) (fun _ h => h.elim) (fun _ _ => trivial) HB.out HB.out.size ?aL ?_; (case aL => have q1 := HYl.out; have q3 := HL.out.2.2.2.2; omega); intro va wa ho hb hg hat; have HO3 := Aside0.mk ho; have HB3 := Aside0.mk hb; clear ho hb hg hat)
          go_ret2
          refine ⟨va, ?_, ?_, HB3.out⟩
          · rw [HE.out]; rfl
          · rw [HE.out, show (entB k a b c true v, (0 : Int)).1 = ys ++ rowB v from by rw [← HY.out, ← HX.out]; simp [entB, catB]]; exact HO3.out
  · have HV := Aside0.mk (show rightV k a b c h v = 2 from if_neg hok)
    have HE := Aside0.mk (show bytesV k a b c h v = ([], 2) from if_neg hok)
    clear hok
    go_enter Tryd.func31, Tryd.ntmps31
    go_upto_region 1 with fail
    generalize w.alloc (.cells #[.string k, .int .i64 a, .int .i64 b, .int .i64 c, .bool h, .slice A v.length d] 28) = W at *
    obtain ⟨e0, e1, e2, e3, e4, e5⟩ := en_cells BE.out
    go_wp2_with fail
    (with_reducible refine (right_c k a b c h HR.out hc).mono ?_)
    rw [HV.out]
    rintro x w1 ⟨rfl, hb⟩
    have HB := Aside0.mk (below_then HB.out HB.out.size hb)
    clear hb e0 e1 e2 e3 e4 e5
    go_wp2_with fail
    go_ret2
    rw [HE.out]
    exact ⟨.slice none 0 0, rfl, Kd.R_nil _ _ _ _ _, HB.out⟩
end Go.Proofs.YthaoiamgkpkcbaaDoor.Tg
namespace Go.Proofs.YthaoiamgkpkcbaaDoor.Dec
open Go Go.RowKit Go.Proofs.YthaoiamgkpkcbaaDoor.Wrd Go.Proofs.YthaoiamgkpkcbaaDoor.Enc Go.Proofs.YthaoiamgkpkcbaaDoor.Pk
set_option linter.unusedVariables false
end Go.Proofs.YthaoiamgkpkcbaaDoor.Dec
namespace Go.Proofs.YthaoiamgkpkcbaaDoor.Seg
open Go Go.RowKit Go.Proofs.YthaoiamgkpkcbaaDoor.Wrd Go.Proofs.YthaoiamgkpkcbaaDoor.Enc Go.Proofs.YthaoiamgkpkcbaaDoor.EncP Go.Proofs.YthaoiamgkpkcbaaDoor.Dec Go.Proofs.YthaoiamgkpkcbaaDoor.Pk
set_option linter.unusedVariables false
set_option linter.unusedSimpArgs false
def Byte (l : List Int) : Prop := ∀ x ∈ l, 0 ≤ x ∧ x < 256
theorem Byte.append {a b : List Int} (ha : Byte a) (hb : Byte b) : Byte (a ++ b) := by
  intro x hx
  rcases List.mem_append.1 hx with h | h
  · exact ha x h
  · exact hb x h
theorem Byte.take {a : List Int} (ha : Byte a) (n : Nat) : Byte (a.take n) := fun x hx => ha x (List.mem_of_mem_take hx)
theorem Byte.drop {a : List Int} (ha : Byte a) (n : Nat) : Byte (a.drop n) := fun x hx => ha x (List.mem_of_mem_drop hx)
theorem Byte.nil : Byte [] := by intro x hx; cases hx
/-! whole -/
/-! cut short -/
/-! back -/
end Go.Proofs.YthaoiamgkpkcbaaDoor.Seg
namespace Go.Proofs.YthaoiamgkpkcbaaDoor.Tg
open Go Go.RowKit Go.Proofs.YthaoiamgkpkcbaaDoor.Wrd Go.Proofs.YthaoiamgkpkcbaaDoor.Enc Go.Proofs.YthaoiamgkpkcbaaDoor.EncP Go.Proofs.YthaoiamgkpkcbaaDoor.EncC Go.Proofs.YthaoiamgkpkcbaaDoor.Pk Go.Proofs.YthaoiamgkpkcbaaDoor.Seg
set_option linter.unusedVariables false
set_option linter.unusedSimpArgs false
section
variable {k : ByteArray} {a b c : Int} {h : Bool} {v : List Int}
end
end Go.Proofs.YthaoiamgkpkcbaaDoor.Tg
