/- The contract of ring.first: the library's binary search over the points. Conditions: points that are read; not none. · The contract of ring.compare as the library's sort asks for it. Conditions: none. · The library's sort laid over this program: slices.SortFunc at points. Conditions: none. · Points in a block of one's own, and the library's sort of them. Conditions: fewer than 2^62 points. · The library's Compact of points in a block of one's own. Conditions: none. · Written by a program of this session over the kit's print: functions and their contracts. · Written by a program of this session over the kit's print: functions and their contracts. · Written by a program of this session over the kit's print: functions and their contracts. · How tags stand, plain: by their numbers, one behind the other. And what holds from some count of rounds on. · Whether a ring may be, plain: both checks; the points' words. Conditions: none. · The contract of ring.Points. Conditions: none beyond memory. · The contract of ring.meet: the nodes in their order from a place on, each once. Conditions: points that are read, a place among them. · Points of rings and who keeps a word, plain. No program. Conditions: none. · Who keeps a word, plain: what ring.At comes to. Conditions: a ring that may be. · The reference's words of points and keys are the program's. Plain. Conditions: none. · The reference's points are the program's. Plain. Conditions: a ring that may be. · Is a number among some: plain. Conditions: none. · Who keeps a word: the reference's answer is the program's. Plain. Conditions: a ring that may be. · Written by a program of this session over the kit's print: functions and their contracts. · Written by a program of this session over the kit's print: functions and their contracts. · Written by a program of this session over the kit's print: functions and their contracts. · The lists of those who keep each point: the program's, the reference's, and whether they are the same. Plain. Conditions: a ring that may be. · Written by a program of this session over the kit's print: functions and their contracts. · Written by a program of this session over the kit's print: functions and their contracts. · Written by a program of this session over the kit's print: functions and their contracts. · The closure of quorum.Common, and the library's functions over it. · slices.IndexFunc over the closure of quorum.Common. · slices.DeleteFunc over the closure of quorum.Common, on a row of the call's own. · quorum.Common: what is in both. · Written by a program of this session over the kit's print: functions and their contracts. · Written by a program of this session over the kit's print: functions and their contracts. · Written by a program of this session over the kit's print: functions and their contracts. -/
import Derived.Test.YteocngcojijnkaaYQuorumRings2
import Derived.Deep.RegionHeld3
import Derived.Shelf.SlSortCmp.NoneTotal
import Derived.Deep.DrawnRows
import Derived.Test.YteocngcojijnkaaProg
import Derived.Lib.SliceRun
import Derived.Below
import Derived.Deep.Draws
import Derived.Deep.AppendLies
import Derived.Maps.AppendAt
import Derived.OwnWalk
import Derived.Laws.BytesArg
import Derived.Laws.MakeOwn
import Derived.Laws.OwnMore
import Derived.Deep.OwnRows
import Derived.Tactics
import Derived.Lib.ConvBytes
import Derived.Laws.Slices
import Derived.WalkKit
import Derived.KernelRfl
import Derived.RowKit3
import Derived.Deep.LoopGhost
import Derived.Deep.QuietTactic
import Derived.BigQuiet
import Derived.WideLaws
import Derived.Deep.DeepCutAuto
import Derived.Deep.CutBlock
import Derived.Laws.Rows
import Derived.Lib.AppendStr
import Derived.ArgAppend
import Derived.Laws.IdiomCopy
import Derived.OrdersHeld
import Derived.Laws.BitsLemmas
import Derived.RowKit
import Derived.Test.YteocngcojijnkaaYQuorumRings0
import Derived.Lib.Hide
import Derived.Laws.BitsAllLaws
import Derived.Test.YteocngcojijnkaaRows
import Derived.ProofKit
import Derived.OpenShut
import Derived.WalkLawsBesides

namespace Go.Proofs.Yteocngcojijnkaa.Hs
open Go.ChangeShapes Go.WideShapes Go.ChangeAt Go.RowKit Go.Proofs.Yteocngcojijnkaa.QH
open Go.Proofs.YteocngcojijnkaaW.PrintWords Go.Proofs.YteocngcojijnkaaW.PrintLast Go.Proofs.YteocngcojijnkaaW.PrintMore
set_option linter.unusedVariables false
set_option linter.unusedSimpArgs false
def cmpI (a b : Int) : Int := if a < b then -1 else if a > b then 1 else 0
theorem cmp_f (a b : Int) : cmp_Compare_uint64.f a b = some (cmpI a b) := by
  unfold cmp_Compare_uint64.f cmp_isNaN_uint64.f cmpI
  by_cases h1 : a < b
  · simp [h1]
  · by_cases h2 : a > b
    · simp [h1, h2]
    · simp [h1, h2]
set_option maxHeartbeats 4000000 in
set_option maxRecDepth 100000 in
theorem fclo_ (a n h : Int) (w : World) :
    Calls Try.prog 55 #[.agg #[.int .u64 a, .int .i64 n], .int .u64 h] w fun e w' => e = .returned (.int .i64 (cmpI a h)) ∧ Below w.heap.size w w' := by
  have BE := Aside0.mk (blk_new w (.cells #[.int .u64 a, .int .i64 n] 70))
  have HB := Aside0.mk (below_alloc (Below.refl w.heap.size w) (.cells #[.int .u64 a, .int .i64 n] 70))
  go_enter Try.func55, Try.ntmps55
  go_wp2_with fail
  (with_reducible refine (cmp_Compare_uint64.calls _ _ _ _ (cmp_f a h)).mono ?_)
  rintro e w3 ⟨rfl, hd⟩
  have HD := Aside0.mk hd
  clear hd
  go_wp2_with fail
  go_ret
  exact ⟨rfl, below_then HB.out HB.out.size HD.out.below⟩
theorem C_pt {w : World} {A : Option Addr} {l : List S70} (h : Kd.C k70 w A l.length l) (k : Nat) (hk : k < l.length) :
    ∃ b off, A = some ⟨b, off, none⟩ ∧ w.cell? ⟨b, off + k * 2, none⟩ = some (.int .u64 l[k].f0) ∧ w.cell? ⟨b, off + k * 2 + 1, none⟩ = some (.int .i64 l[k].f1) := by
  obtain ⟨ad, rfl, h0, _⟩ := at_T70 h 0 (by omega) (by omega)
  obtain ⟨b, off, sp⟩ := ad
  cases sp with
  | some x => simp [World.cell?, Addr.add] at h0; split at h0 <;> simp at h0
  | none =>
    obtain ⟨ad, he, h1, h2⟩ := at_T70 h (k : Int) (by omega) (by omega)
    obtain rfl := Option.some.inj he
    have hg : rd_T70 l (k : Int) = l[k] := by unfold rd_T70; rw [show (k : Int).toNat = k from rfl]; simp [hk]
    rw [hg, show (k : Int).toNat = k from rfl] at h1 h2
    have e1 : (⟨b, off, none⟩ : Addr).add (k * 2) = ⟨b, off + k * 2, none⟩ := by
      unfold Addr.add
      split
      · rename_i h0; rw [h0]; simp
      · rfl
    rw [e1] at h1 h2
    exact ⟨b, off, rfl, h1, h2⟩
/-- where the search ends: those ahead are smaller, that one is not -/
def Found (l : List S70) (h : Int) (i : Nat) : Prop := (∀ k, k + 1 = i → ∀ (hk : k < l.length), l[k].f0 < h) ∧ ∀ (hi : i < l.length), h ≤ l[i].f0
set_option maxHeartbeats 4000000 in
set_option maxRecDepth 100000 in
theorem search_ (A : Option Addr) (c : Nat) (l : List S70) (h : Int) (w : World) (hr : Kd.C k70 w A l.length l) (hc : l.length ≤ c) (hm : l.length ≤ 4611686018427387903) :
    Calls Try.prog 54 #[.slice A l.length c, .int .u64 h, .func (.func 55) #[] #[]] w fun e w' => ∃ (i : Nat) (b : Bool), e = .returned (.tuple #[.int .i64 i, .bool b]) ∧ i ≤ l.length ∧ Found l h i ∧ Below w.heap.size w w' := by
  have HR := Aside0.mk hr
  have HC := Aside0.mk hc
  clear hr hc
  go_enter Try.func54, Try.ntmps54
  go_wp2
  go_loopg [9, 10] l.length (fun q vi vj w' => ∃ (i j : Nat), vi = .int .i64 i ∧ vj = .int .i64 j ∧ i ≤ j ∧ j ≤ l.length ∧ q = j - i ∧ Aside0 ((∀ k, k + 1 = i → ∀ (hk : k < l.length), l[k].f0 < h) ∧ ∀ (hj : j < l.length), h ≤ l[j].f0) ∧ Aside0 (Below w.heap.size w w'))
  case atStart => exact ⟨0, l.length, rfl, rfl, Nat.zero_le _, Nat.le_refl _, rfl, ⟨fun k hk => absurd hk (by omega), fun hj => absurd hj (Nat.lt_irrefl _)⟩, ⟨Below.refl _ _⟩⟩
  case round =>
    obtain ⟨i, j, rfl, rfl, hij, hj, rfl, HF, HB⟩ := hrel
    by_cases hlt : i < j
    · have t1 : decide ((i : Int) < (j : Int)) = true := decide_eq_true (by omega)
      have hm1 : (i + j) / 2 < l.length := by omega
      obtain ⟨b, off, hA, hc1, hc2⟩ := C_pt (Kd.C_below HR.out HB.out) ((i + j) / 2) hm1
      subst hA
      obtain ⟨k, hk⟩ : ∃ k, (i + j) / 2 = k := ⟨_, rfl⟩
      have HK : Aside0 (i ≤ k ∧ k < j) := ⟨by omega, by omega⟩
      obtain ⟨x, hx⟩ : ∃ x, l[(i + j) / 2].f0 = x := ⟨_, rfl⟩
      obtain ⟨y, hy⟩ : ∃ y, l[(i + j) / 2].f1 = y := ⟨_, rfl⟩
      rw [hx] at hc1
      rw [hy] at hc2
      have HX : Aside0 (∀ (hk : k < l.length), l[k].f0 = x) := ⟨fun hk' => by subst hk; exact hx⟩
      have HKe := Aside0.mk hk
      clear hx hy hk
      go_wp2_with fail
      (with_reducible refine (fclo_ x y h _).mono ?_)
      rintro e w3 ⟨rfl, hb⟩
      have HB1 := Aside0.mk (below_then HB.out HB.out.size hb)
      clear hb
      have t0 := HK.out
      by_cases hxh : x < h
      · have hcm : cmpI x h = -1 := if_pos hxh
        have HXH := Aside0.mk hxh
        rw [hcm]
        clear hcm hxh
        go_wp2_with fail
        go_roundg (j - (k + 1))
        case measure => omega
        case rel => exact ⟨k + 1, j, by rw [show (((i : Int) + (j : Int)) / 2) = ((k : Nat) : Int) from by have := HKe.out; omega]; go_num, rfl, by omega, hj, rfl, ⟨fun k' hk' hlt' => by
          obtain rfl : k' = k := by omega
          rw [HX.out]; exact HXH.out, HF.out.2⟩, HB1⟩
      · have hcm : decide (cmpI x h < 0) = false := decide_eq_false (by unfold cmpI; rw [if_neg hxh]; split <;> omega)
        have HXH := Aside0.mk hxh
        obtain ⟨z, hz⟩ : ∃ z, cmpI x h = z := ⟨_, rfl⟩
        rw [hz] at hcm ⊢
        clear hxh hz
        go_wp2_with fail
        go_roundg (k - i)
        case measure => omega
        case rel => exact ⟨i, k, rfl, by rw [show (((i : Int) + (j : Int)) / 2) = ((k : Nat) : Int) from by have := HKe.out; omega], by omega, by omega, rfl, ⟨HF.out.1, fun hk' => by rw [HX.out]; have := HXH.out; omega⟩, HB1⟩
    · obtain rfl : i = j := by omega
      have t1 : decide ((i : Int) < (i : Int)) = false := decide_eq_false (by omega)
      by_cases hin : i < l.length
      · have t2 : decide ((i : Int) < (l.length : Int)) = true := decide_eq_true (by omega)
        obtain ⟨b, off, hA, hc1, hc2⟩ := C_pt (Kd.C_below HR.out HB.out) i hin
        subst hA
        go_wp2_with fail
        (with_reducible refine (fclo_ _ _ h _).mono ?_)
        rintro e w3 ⟨rfl, hb⟩
        have HB1 := Aside0.mk (below_then HB.out HB.out.size hb)
        clear hb
        go_wp2_with fail
        go_ret2
        exact ⟨i, _, rfl, hj, HF.out, HB1.out⟩
      · have t2 : decide ((i : Int) < (l.length : Int)) = false := decide_eq_false (by omega)
        have t3 : decide (i < l.length) = false := decide_eq_false hin
        go_wp2_with fail
        go_ret2
        exact ⟨i, _, rfl, hj, HF.out, HB.out⟩
/-- the place from which a word is kept -/
def firstL (l : List S70) (h : Int) : Nat := (l.takeWhile fun p => decide (p.f0 < h)).length % l.length
def Rise (l : List S70) : Prop := l.Pairwise fun p q => p.f0 ≤ q.f0
theorem tw_all {α : Type} {p : α → Bool} : ∀ {l : List α}, (∀ x ∈ l, p x = true) → l.takeWhile p = l
  | [], _ => rfl
  | x :: l, h => by rw [List.takeWhile_cons_of_pos (h x List.mem_cons_self), tw_all (fun y hy => h y (List.mem_cons_of_mem _ hy))]
theorem found_is {l : List S70} {h : Int} {i : Nat} (hs : Rise l) (hf : Found l h i) (hi : i ≤ l.length) : (l.takeWhile fun p => decide (p.f0 < h)).length = i := by
  obtain ⟨h1, h2⟩ := hf
  have ha : ∀ k (hk : k < i), l[k].f0 < h := by
    intro k hk
    have h3 := h1 (i - 1) (by omega) (by omega)
    by_cases he : k = i - 1
    · subst he; exact h3
    · have := List.pairwise_iff_getElem.1 hs k (i - 1) (by omega) (by omega) (by omega)
      omega
  have e : l = l.take i ++ l.drop i := (List.take_append_drop i l).symm
  have ht : (l.take i).takeWhile (fun p => decide (p.f0 < h)) = l.take i := by
    apply tw_all
    intro x hx
    obtain ⟨k, hk, rfl⟩ := List.getElem_of_mem hx
    rw [List.length_take] at hk
    rw [List.getElem_take]
    exact decide_eq_true (ha k (by omega))
  have hd : (l.drop i).takeWhile (fun p => decide (p.f0 < h)) = [] := by
    by_cases hi' : i < l.length
    · rw [List.drop_eq_getElem_cons hi', List.takeWhile_cons_of_neg]
      have := h2 hi'
      simp; omega
    · rw [List.drop_eq_nil_of_le (by omega)]; rfl
  rw [e, List.takeWhile_append, ht, hd, List.append_nil]
  have : (l.take i).length = i := by rw [List.length_take]; omega
  simp [this]
def ring_first.f (l : List S70) (h : Int) : Option Int := if 0 < l.length ∧ l.length ≤ 4611686018427387903 ∧ l.Pairwise (fun p q => p.f0 ≤ q.f0) then some (firstL l h : Nat) else none
set_option maxHeartbeats 4000000 in
set_option maxRecDepth 100000 in
theorem ring_first.calls (A : Option Addr) (c : Nat) (l : List S70) (h : Int) (r : Int) (w : World) (hr : Kd.C k70 w A l.length l) (hc : l.length ≤ c) (hf : ring_first.f l h = some r) :
    Calls Try.prog 45 #[.slice A l.length c, .int .u64 h] w fun e w' => e = .returned (.int .i64 r) ∧ Below w.heap.size w w' := by
  unfold ring_first.f at hf
  split at hf
  · rename_i hh
    obtain ⟨h0, hm, hs⟩ := hh
    have HF := Aside0.mk (Option.some.inj hf)
    have HS := Aside0.mk hs
    have HR := Aside0.mk hr
    have HC := Aside0.mk hc
    clear hr hf hs hc
    go_enter Try.func45, Try.ntmps45
    go_wp2_with fail
    (with_reducible refine (search_ A c l h _ HR.out HC.out hm).mono ?_)
    rintro e w3 ⟨i, b, rfl, hi, hfo, hb⟩
    have HB := Aside0.mk hb
    have HE := Aside0.mk (found_is HS.out hfo hi)
    have t1 : (0 : Int) < (l.length : Int) := by omega
    clear hb hfo
    go_wp2_with fail
    go_ret
    refine ⟨?_, HB.out⟩
    rw [← HF.out]
    unfold firstL
    rw [HE.out]
    simp
  · cases hf
end Go.Proofs.Yteocngcojijnkaa.Hs
namespace Go.Proofs.Yteocngcojijnkaa.Hs
open Go.ChangeShapes Go.WideShapes Go.ChangeAt Go.RowKit Go.Proofs.Yteocngcojijnkaa.QH
open Go.Proofs.YteocngcojijnkaaW.PrintWords Go.Proofs.YteocngcojijnkaaW.PrintLast Go.Proofs.YteocngcojijnkaaW.PrintMore
set_option linter.unusedVariables false
set_option linter.unusedSimpArgs false
/-- draws, and blocks of its own -/
def G (w w' : World) : Prop := ∃ (q : Nat) (os : Array Obj), w' = Go.Sort.grow (w.drewN q) os
theorem G.refl (w : World) : G w w := ⟨0, #[], by rw [Go.Sort.grow_empty]; rfl⟩
theorem G.drewN {w w' : World} (h : G w w') (n : Nat) : G w (w'.drewN n) := by
  obtain ⟨q, os, rfl⟩ := h
  exact ⟨q + n, os, by simp [Go.Sort.grow, World.drewN, Nat.add_assoc]⟩
theorem G.alloc {w w' : World} (h : G w w') (o : Obj) : G w (w'.alloc o) := by
  obtain ⟨q, os, rfl⟩ := h
  exact ⟨q, os.push o, by simp [Go.Sort.grow, World.alloc]⟩
theorem G.drawn {w w' w'' : World} (h : G w w') (k : Drawn0 w' w'') : G w w'' := by
  obtain ⟨n, rfl⟩ := k
  exact h.drewN n
def cmp2 (a b c d : Int) : Int := if cmpI a c ≠ 0 then cmpI a c else cmpI b d
theorem cmpi_f (a b : Int) : cmp_Compare_int.f a b = some (cmpI a b) := by
  unfold cmp_Compare_int.f cmp_isNaN_int.f cmpI
  by_cases h1 : a < b
  · simp [h1]
  · by_cases h2 : a > b
    · simp [h1, h2]
    · simp [h1, h2]
theorem or_f (x y : Int) : cmp_Or_int.f 3 [x, y] = some (if x ≠ 0 then x else y) := by
  unfold cmp_Or_int.f
  simp only [cmp_Or_int.l0, List.length_cons, List.length_nil]
  by_cases h : x = 0
  · subst h
    by_cases h2 : y = 0
    · subst h2; simp [rd, wrap64]
    · simp [rd, wrap64, h2]
  · simp [rd, wrap64, h]
set_option maxHeartbeats 4000000 in
set_option maxRecDepth 100000 in
theorem compare_ (a b c d : Int) (w : World) :
    Calls Try.prog 52 #[.agg #[.int .u64 a, .int .i64 b], .agg #[.int .u64 c, .int .i64 d]] w fun e w' => e = .returned (.int .i64 (cmp2 a b c d)) ∧ G w w' := by
  have G0 := Aside0.mk (((G.refl w).alloc (.cells #[.int .u64 a, .int .i64 b] 70)).alloc (.cells #[.int .u64 c, .int .i64 d] 70))
  go_enter Try.func52, Try.ntmps52
  go_upto_region 1 with fail
  obtain ⟨x, hx⟩ : ∃ x, cmpI a c = x := ⟨_, rfl⟩
  obtain ⟨y, hy⟩ : ∃ y, cmpI b d = y := ⟨_, rfl⟩
  obtain ⟨z, hz⟩ : ∃ z, (if x ≠ 0 then x else y) = z := ⟨_, rfl⟩
  have HZ : Aside0 (z = cmp2 a b c d) := ⟨by unfold cmp2; rw [hx, hy, hz]⟩
  have HX : Aside0 (∀ w, Calls Try.prog 56 #[.int .u64 a, .int .u64 c] w fun e w' => e = .returned (.int .i64 x) ∧ Drawn0 w w') := ⟨fun w => cmp_Compare_uint64.calls _ _ _ _ (by rw [cmp_f, hx])⟩
  have HY : Aside0 (∀ w, Calls Try.prog 67 #[.int .i64 b, .int .i64 d] w fun e w' => e = .returned (.int .i64 y) ∧ Drawn0 w w') := ⟨fun w => cmp_Compare_int.calls _ _ _ _ (by rw [cmpi_f, hy])⟩
  clear hx hy
  obtain ⟨W, hW⟩ : ∃ W, W = (w.alloc (.cells #[.int .u64 a, .int .i64 b] 70)).alloc (.cells #[.int .u64 c, .int .i64 d] 70) := ⟨_, rfl⟩
  have hsz : (w.alloc (.cells #[.int .u64 a, .int .i64 b] 70)).heap.size = w.heap.size + 1 := Array.size_push ..
  have b1 : W.heap[w.heap.size]? = some (.cells #[.int .u64 a, .int .i64 b] 70 (0, 0)) := by rw [hW]; exact blk_alloc (blk_new w _) _
  have b2 : W.heap[w.heap.size + 1]? = some (.cells #[.int .u64 c, .int .i64 d] 70 (0, 0)) := by rw [hW, ← hsz]; exact blk_new _ _
  obtain ⟨g, hg⟩ : ∃ g, w.heap.size = g := ⟨_, rfl⟩
  rw [hg] at b1 b2
  have c1 : W.cell? ⟨g, 0, none⟩ = some (.int .u64 a) := (blk_cell b1 0).trans rfl
  have c2 : W.cell? ⟨g, 1, none⟩ = some (.int .i64 b) := (blk_cell b1 1).trans rfl
  have c3 : W.cell? ⟨g + 1, 0, none⟩ = some (.int .u64 c) := (blk_cell b2 0).trans rfl
  have c4 : W.cell? ⟨g + 1, 1, none⟩ = some (.int .i64 d) := (blk_cell b2 1).trans rfl
  have HO : Aside0 (∀ (n : Nat) (o : TypeId), Calls Try.prog 66 #[.slice (some ⟨W.heap.size, 0, none⟩) 2 2] ((W.drewN n).alloc (.cells #[.int .i64 x, .int .i64 y] o)) fun e w' => e = .returned (.int .i64 z) ∧ Drawn0 ((W.drewN n).alloc (.cells #[.int .i64 x, .int .i64 y] o)) w') := ⟨fun n o => cmp_Or_int.calls 3 _ 2 [x, y] _ _ (Hlp.C_blk (by simp) (blk_new (W.drewN n) _) rfl) (by simp) (by rw [or_f x y, hz])⟩
  rw [← hW] at G0 ⊢
  rw [hg]
  clear hW b1 b2 hsz hg hz
  go_region_held3 (fun W => W.cell? ⟨g, 0, none⟩ = some (.int .u64 a) ∧ W.cell? ⟨g, 1, none⟩ = some (.int .i64 b) ∧ W.cell? ⟨g + 1, 0, none⟩ = some (.int .u64 c) ∧ W.cell? ⟨g + 1, 1, none⟩ = some (.int .i64 d)) (go_keep) (first
    | (go_at_call 56; (with_reducible refine (HX.out _).mono ?_); rintro e w' ⟨rfl, ⟨nd, rfl⟩⟩)
    | (go_at_call 67; (with_reducible refine (HY.out _).mono ?_); rintro e w' ⟨rfl, ⟨nd, rfl⟩⟩)
    | (go_at_call 66; (with_reducible refine (HO.out _ _).mono ?_); rintro e w' ⟨rfl, ⟨nd, rfl⟩⟩))
  all_goals
    go_wp2_with fail
    go_ret
    refine ⟨by rw [← HZ.out]; rfl, ?_⟩
    repeat (first | exact G0.out | refine G.drewN ?_ _ | refine G.alloc ?_ _)
end Go.Proofs.Yteocngcojijnkaa.Hs
namespace Go.Proofs.Yteocngcojijnkaa.Hs
open Go.RowKit Go.Shelf
set_option linter.unusedVariables false
def srtRen : Go.Shelf.Ren := ⟨fun | 6 => 51 | 14 => 64 | 15 => 65 | 20 => 74 | 21 => 75 | 22 => 76 | 23 => 77 | 24 => 78 | 25 => 79 | 26 => 80 | 27 => 81 | 28 => 82 | 29 => 83 | 46 => 87 | 47 => 88 | 48 => 89 | 49 => 90 | 50 => 91 | 57 => 92 | n => n, fun | 0 => 0 | 3 => 3 | 4 => 4 | 5 => 5 | 9 => 9 | 22 => 65 | 24 => 70 | 25 => 79 | 39 => 92 | 45 => 100 | 46 => 101 | 50 => 81 | 53 => 107 | 55 => 68 | 66 => 109 | 70 => 113 | 76 => 115 | 77 => 116 | n => n, fun n => n⟩
set_option maxRecDepth 100000 in
theorem srtLays : SlLaysF0.n6 Try.prog srtRen := {
  mixed := by kernel_rfl
  f6 := ⟨"slices.SortFunc[[]icehouse/api.Point,icehouse/api.Point]", by decide, by kernel_rfl⟩
  f14 := ⟨"slices.pdqsortCmpFunc[icehouse/api.Point]", by decide, by kernel_rfl⟩
  f15 := by kernel_rfl
  f20 := ⟨"slices.insertionSortCmpFunc[icehouse/api.Point]", by decide, by kernel_rfl⟩
  f21 := ⟨"slices.heapSortCmpFunc[icehouse/api.Point]", by decide, by kernel_rfl⟩
  f22 := ⟨"slices.breakPatternsCmpFunc[icehouse/api.Point]", by decide, by kernel_rfl⟩
  f23 := ⟨"slices.choosePivotCmpFunc[icehouse/api.Point]", by decide, by kernel_rfl⟩
  f24 := ⟨"slices.reverseRangeCmpFunc[icehouse/api.Point]", by decide, by kernel_rfl⟩
  f25 := ⟨"slices.partialInsertionSortCmpFunc[icehouse/api.Point]", by decide, by kernel_rfl⟩
  f26 := ⟨"slices.partitionEqualCmpFunc[icehouse/api.Point]", by decide, by kernel_rfl⟩
  f27 := ⟨"slices.partitionCmpFunc[icehouse/api.Point]", by decide, by kernel_rfl⟩
  f28 := by kernel_rfl
  f29 := by kernel_rfl
  f46 := ⟨"slices.siftDownCmpFunc[icehouse/api.Point]", by decide, by kernel_rfl⟩
  f47 := by kernel_rfl
  f48 := by kernel_rfl
  f49 := ⟨"slices.medianAdjacentCmpFunc[icehouse/api.Point]", by decide, by kernel_rfl⟩
  f50 := ⟨"slices.medianCmpFunc[icehouse/api.Point]", by decide, by kernel_rfl⟩
  f57 := ⟨"slices.order2CmpFunc[icehouse/api.Point]", by decide, by kernel_rfl⟩
  t0 := by kernel_rfl
  a0 := fun _ => by kernel_rfl
  z0 := fun _ => by kernel_rfl
  v0 := fun _ => by kernel_rfl
  t3 := by kernel_rfl
  a3 := fun _ => by kernel_rfl
  z3 := fun _ => by kernel_rfl
  v3 := fun _ => by kernel_rfl
  t4 := by kernel_rfl
  a4 := fun _ => by kernel_rfl
  z4 := fun _ => by kernel_rfl
  v4 := fun _ => by kernel_rfl
  t5 := by kernel_rfl
  a5 := fun _ => by kernel_rfl
  z5 := fun _ => by kernel_rfl
  v5 := fun _ => by kernel_rfl
  t9 := by kernel_rfl
  a9 := fun _ => by kernel_rfl
  z9 := fun _ => by kernel_rfl
  v9 := fun _ => by kernel_rfl
  t22 := by kernel_rfl
  a22 := fun _ => by kernel_rfl
  z22 := fun _ => by kernel_rfl
  v22 := fun _ => by kernel_rfl
  t25 := by kernel_rfl
  a25 := fun _ => by kernel_rfl
  z25 := fun _ => by kernel_rfl
  v25 := fun _ => by kernel_rfl
  t39 := by kernel_rfl
  a39 := fun _ => by kernel_rfl
  z39 := fun _ => by kernel_rfl
  v39 := fun _ => by kernel_rfl
  t45 := by kernel_rfl
  a45 := fun _ => by kernel_rfl
  z45 := fun _ => by kernel_rfl
  v45 := fun _ => by kernel_rfl
  t46 := by kernel_rfl
  a46 := fun _ => by kernel_rfl
  z46 := fun _ => by kernel_rfl
  v46 := fun _ => by kernel_rfl
  t50 := by kernel_rfl
  a50 := fun _ => by kernel_rfl
  z50 := fun _ => by kernel_rfl
  v50 := fun _ => by kernel_rfl
  t53 := by kernel_rfl
  a53 := fun _ => by kernel_rfl
  z53 := fun _ => by kernel_rfl
  v53 := fun _ => by kernel_rfl
  t55 := by kernel_rfl
  a55 := fun _ => by kernel_rfl
  z55 := fun _ => by kernel_rfl
  v55 := fun _ => by kernel_rfl
  t66 := by kernel_rfl
  a66 := fun _ => by kernel_rfl
  z66 := fun _ => by kernel_rfl
  v66 := fun _ => by kernel_rfl
  t70 := by kernel_rfl
  a70 := fun _ => by kernel_rfl
  z70 := fun _ => by kernel_rfl
  v70 := fun _ => by kernel_rfl
  t76 := by kernel_rfl
  a76 := fun _ => by kernel_rfl
  z76 := fun _ => by kernel_rfl
  v76 := fun _ => by kernel_rfl
  t77 := by kernel_rfl
  a77 := fun _ => by kernel_rfl
  z77 := fun _ => by kernel_rfl
  v77 := fun _ => by kernel_rfl }
end Go.Proofs.Yteocngcojijnkaa.Hs
namespace Go.Proofs.Yteocngcojijnkaa.Hs
open Go.ChangeShapes Go.WideShapes Go.ChangeAt Go.RowKit Go.Proofs.Yteocngcojijnkaa.QH
open Go.Proofs.YteocngcojijnkaaW.PrintWords Go.Proofs.YteocngcojijnkaaW.PrintLast Go.Proofs.YteocngcojijnkaaW.PrintMore
set_option linter.unusedVariables false
set_option linter.unusedSimpArgs false
instance instS70 : Inhabited S70 := ⟨z70⟩
abbrev TP : TypeId := 70
/-- a block of one's own, with these points at its head -/
structure PB (w : World) (g cap : Nat) (l : List S70) : Prop where
  blk : ∃ cur : Array Value, w.heap[g]? = some (.cells cur TP (0, 0)) ∧ cur.size = cap * 2 ∧ ∀ (k : Nat) (hk : k < l.length), cur[k * 2]? = some (.int .u64 l[k].f0) ∧ cur[k * 2 + 1]? = some (.int .i64 l[k].f1)
  len : l.length ≤ cap
  max : cap ≤ maxLen
theorem PB.R {w : World} {g cap base : Nat} {l : List S70} {ok : Nat → Prop} (h : PB w g cap l) (hb : base ≤ g) (hok : ok g) : Kd.R k70 TP w base ok (.slice (some ⟨g, 0, none⟩) l.length cap) l := by
  obtain ⟨cur, h1, h2, h3⟩ := h.blk
  have hl := h.len
  have hlen : (cur.toList.take (l.length * 2)).length = l.length * 2 := by rw [List.length_take, Array.length_toList (xs := cur), h2]; omega
  refine ⟨fun k hk => ?_, cur.toList.take (l.length * 2), ⟨hlen, .inr ⟨g, cap, cur, rfl, hb, h1, hl, h.max, h2, rfl⟩⟩, ?_⟩
  · simp only [Value.ownBlock, Option.some.injEq] at hk
    subst hk; exact hok
  · refine ⟨hlen, fun j p hj => ?_⟩
    obtain ⟨hlt, hp⟩ := List.getElem?_eq_some_iff.1 hj
    subst hp
    obtain ⟨e1, e2⟩ := h3 j hlt
    have he : ((cur.toList.take (l.length * 2)).drop (j * 2)).take 2 = [.int .u64 l[j].f0, .int .i64 l[j].f1] := by
      apply List.ext_getElem?
      intro i
      rw [List.getElem?_take]
      split
      · rename_i hi
        rw [List.getElem?_drop, List.getElem?_take, if_pos (by omega), Array.getElem?_toList]
        rcases (show i = 0 ∨ i = 1 by omega) with rfl | rfl
        · simpa using e1
        · simpa using e2
      · rename_i hi
        rw [List.getElem?_eq_none (by simp; omega)]
    rw [show k70.sz = 2 from rfl, he]
    exact k70_mkM _ _ _ _
theorem PB.of_R {w : World} {base : Nat} {l : List S70} {ok : Nat → Prop} {v : Value} (h : Kd.R k70 TP w base ok v l) (h0 : 0 < l.length) : ∃ g cap, v = .slice (some ⟨g, 0, none⟩) l.length cap ∧ base ≤ g ∧ ok g ∧ PB w g cap l := by
  obtain ⟨hok, inner, ⟨hlen, hown⟩, hreps⟩ := h
  rcases hown with ⟨_, hz⟩ | ⟨g, cap, cur, rfl, hb, h1, hl, hm, h2, h3⟩
  · omega
  · refine ⟨g, cap, rfl, hb, hok g rfl, ⟨cur, h1, h2, fun k hk => ?_⟩, hl, hm⟩
    have hp := hreps.2 k l[k] (List.getElem?_eq_getElem hk)
    have ho := k70_openM hp
    rw [← h3] at ho
    have e1 := congrArg (fun z => z[0]?) ho
    have e2 := congrArg (fun z => z[1]?) ho
    have hs : k70.sz = 2 := rfl
    rw [hs] at e1 e2
    simp only [List.getElem?_take, List.getElem?_drop, Array.getElem?_toList] at e1 e2
    rw [if_pos (by omega), if_pos (by omega)] at e1 e2
    exact ⟨by simpa using e1, by simpa using e2⟩
theorem PB.cells {w : World} {g cap : Nat} {l : List S70} (h : PB w g cap l) (k : Nat) (hk : k < l.length) : w.cell? ⟨g, k * 2, none⟩ = some (.int .u64 l[k].f0) ∧ w.cell? ⟨g, k * 2 + 1, none⟩ = some (.int .i64 l[k].f1) := by
  obtain ⟨cur, h1, h2, h3⟩ := h.blk
  obtain ⟨e1, e2⟩ := h3 k hk
  exact ⟨(blk_cell h1 _).trans e1, (blk_cell h1 _).trans e2⟩
theorem PB.frozen {w : World} {g cap : Nat} {l : List S70} (h : PB w g cap l) (k : Nat) : w.frozen? ⟨g, k, none⟩ = false := by
  obtain ⟨cur, h1, h2, h3⟩ := h.blk
  exact blk_frozen h1 k
theorem PB.lt {w : World} {g cap : Nat} {l : List S70} (h : PB w g cap l) : g < w.heap.size := by
  obtain ⟨cur, h1, h2, h3⟩ := h.blk
  exact blk_lt h1
theorem PB.step {w w' : World} {g cap : Nat} {l : List S70} (h : PB w g cap l) (hb : w'.heap[g]? = w.heap[g]?) : PB w' g cap l := by
  obtain ⟨cur, h1, h2, h3⟩ := h.blk
  exact ⟨⟨cur, hb.trans h1, h2, h3⟩, h.len, h.max⟩
def encP (p : S70) : List Value := [.int .u64 p.f0, .int .i64 p.f1]
def cfP (p q : S70) : Int := cmp2 p.f0 p.f1 q.f0 q.f1
theorem cfP_lt (p q : S70) : cfP p q < 0 ↔ (p.f0 < q.f0 ∨ p.f0 = q.f0 ∧ p.f1 < q.f1) := by
  unfold cfP cmp2 cmpI
  repeat' split
  all_goals omega
theorem ltP_true (p q : S70) : ltOf cfP p q = true ↔ (p.f0 < q.f0 ∨ p.f0 = q.f0 ∧ p.f1 < q.f1) := by
  unfold ltOf
  rw [decide_eq_true_iff]
  exact cfP_lt p q
theorem ltP_false (p q : S70) : ltOf cfP p q = false ↔ ¬ (p.f0 < q.f0 ∨ p.f0 = q.f0 ∧ p.f1 < q.f1) := by
  rw [← ltP_true]
  simp
theorem swoP : Go.Sort.SWO (ltOf cfP) where
  irrefl := fun p => (ltP_false p p).2 (by omega)
  trans := fun p q r h1 h2 => (ltP_true p r).2 (by have := (ltP_true p q).1 h1; have := (ltP_true q r).1 h2; omega)
  ntrans := fun p q r h1 h2 => (ltP_false p r).2 (by have := (ltP_false p q).1 h1; have := (ltP_false q r).1 h2; omega)
theorem totP (p q : S70) (h1 : ltOf cfP p q = false) (h2 : ltOf cfP q p = false) : p = q := by
  have := (ltP_false p q).1 h1
  have := (ltP_false q p).1 h2
  obtain ⟨a, b⟩ := p
  obtain ⟨c, d⟩ := q
  simp only at *
  have h3 : a = c := by omega
  have h4 : b = d := by omega
  rw [h3, h4]
theorem get2 (d : Array S70) (j : Nat) (hj : j < d.size * 2) : (Go.Sort.flatK encP 2 d)[j]! = if j % 2 = 0 then Value.int .u64 (d[j / 2]'(by omega)).f0 else Value.int .i64 (d[j / 2]'(by omega)).f1 := by
  rw [Go.Sort.get_flatK encP 2 d j hj, getElem!_pos d (j / 2) (by omega)]
  rcases (show j % 2 = 0 ∨ j % 2 = 1 by omega) with h | h
  · rw [h, if_pos rfl]; rfl
  · rw [h, if_neg (by omega)]; rfl
theorem PB.holds {w : World} {g cap : Nat} {l : List S70} (h : PB w g cap l) : Go.Sort.HoldsK encP 2 w g 0 l.toArray := by
  intro j hj
  rw [Go.Sort.size_flatK, List.size_toArray] at hj
  rw [get2 _ _ (by simpa using hj), Nat.zero_add]
  refine ⟨?_, h.frozen j⟩
  obtain ⟨e1, e2⟩ := h.cells (j / 2) (by omega)
  rcases (show j % 2 = 0 ∨ j % 2 = 1 by omega) with h' | h'
  · have e3 : j / 2 * 2 = j := by omega
    rw [e3] at e1
    rw [if_pos h', e1]
    simp
  · have e3 : j / 2 * 2 + 1 = j := by omega
    rw [e3] at e2
    rw [if_neg (by omega), e2]
    simp
theorem put_get (F cur : Array Value) (k : Nat) (hk : k < F.size) (hc : k < cur.size) : (Go.Sort.putCells id 0 F cur)[k]? = some F[k]! := by
  unfold Go.Sort.putCells
  rw [Array.getElem?_mapIdx, Array.getElem?_eq_getElem hc]
  simp [hk]
/-- a row sorted in its place -/
theorem PB.put {w : World} {g cap n : Nat} {l l' : List S70} {os : Array Obj} (h : PB w g cap l) (hl : l'.length = l.length) : PB (sortWorldK encP 2 w g 0 n l'.toArray os) g cap l' ∧ w.grownBy (sortWorldK encP 2 w g 0 n l'.toArray os) (some g) := by
  obtain ⟨cur, h1, h2, h3⟩ := h.blk
  have hlt := blk_lt h1
  have hlen := h.len
  have hs : (Go.Sort.flatK encP 2 l'.toArray).size = l'.length * 2 := by rw [Go.Sort.size_flatK, List.size_toArray]
  have hh : ∀ k, k < w.heap.size → (sortWorldK encP 2 w g 0 n l'.toArray os).heap[k]? = (Go.Sort.mapBlock w g (Go.Sort.putCells id 0 (Go.Sort.flatK encP 2 l'.toArray))).heap[k]? := by
    intro k hk
    unfold sortWorldK Go.Sort.grow Go.Sort.putRowK Go.Sort.putRow
    exact Array.getElem?_append_left (by unfold Go.Sort.mapBlock Go.Sort.ahead; simpa using hk)
  refine ⟨⟨⟨Go.Sort.putCells id 0 (Go.Sort.flatK encP 2 l'.toArray) cur, ?_, ?_, fun k hk => ?_⟩, by omega, h.max⟩, rfl, rfl, rfl, ?_, fun k hk hne => ?_⟩
  · rw [hh g hlt]
    unfold Go.Sort.mapBlock
    rw [Array.getElem?_modify, if_pos rfl, h1]
    rfl
  · unfold Go.Sort.putCells
    rw [Array.size_mapIdx, h2]
  · rw [put_get _ _ _ (by omega) (by omega), put_get _ _ _ (by omega) (by omega), get2 _ _ (by simp; omega), get2 _ _ (by simp; omega)]
    rw [if_pos (by omega), if_neg (by omega)]
    constructor
    · have e : k * 2 / 2 = k := by omega
      simp [e]
    · have e : (k * 2 + 1) / 2 = k := by omega
      simp [e]
  · unfold sortWorldK Go.Sort.grow Go.Sort.putRowK Go.Sort.putRow Go.Sort.mapBlock Go.Sort.ahead
    simp
  · rw [hh k hk]
    unfold Go.Sort.mapBlock
    rw [Array.getElem?_modify, if_neg (fun e => hne (by rw [e]))]
def sortP (l : List S70) : List S70 := l.mergeSort fun x y => !(ltOf cfP) y x
theorem sortP_len (l : List S70) : (sortP l).length = l.length := List.length_mergeSort _
set_option maxRecDepth 100000 in
theorem sort_ {w : World} {g cap : Nat} {l : List S70} (h : PB w g cap l) (hm : l.length < 4611686018427387904) :
    Calls Try.prog 51 #[.slice (some ⟨g, 0, none⟩) l.length cap, .func (.func 52) #[] #[]] w fun e w' => e = .returned (.tuple #[]) ∧ PB w' g cap (sortP l) ∧ w.grownBy w' (some g) := by
  have h1 := AnyQ.slices_SortFunc_total srtLays 2 (fun w => by kernel_rfl) (fun w => by kernel_rfl) encP (fun _ => rfl) (fun x v hv => by
    rcases List.mem_cons.1 hv with rfl | hv
    · rfl
    · rw [List.mem_singleton.1 hv]; rfl) cfP swoP 52 #[] g 0 cap l.toArray w (enters_of Try.func52 (by kernel_rfl) rfl) (fun m os dk hdk x y => (compare_ x.f0 x.f1 y.f0 y.f1 _).mono fun e w' hh => hh) h.holds h.lt (by simpa using hm) totP
  refine h1.mono ?_
  rintro e w' ⟨rfl, n, os, rfl⟩
  obtain ⟨k1, k2⟩ := h.put (n := n) (os := os) (l' := sortP l) (sortP_len l)
  exact ⟨rfl, k1, k2⟩
end Go.Proofs.Yteocngcojijnkaa.Hs
namespace Go.Proofs.Yteocngcojijnkaa.Hs
open Go.ChangeShapes Go.WideShapes Go.ChangeAt Go.RowKit Go.Proofs.Yteocngcojijnkaa.QH
open Go.Proofs.YteocngcojijnkaaW.PrintWords Go.Proofs.YteocngcojijnkaaW.PrintLast Go.Proofs.YteocngcojijnkaaW.PrintMore
attribute [local go_sem high] eqA70
set_option linter.unusedVariables false
set_option linter.unusedSimpArgs false
theorem same_iff (p q : S70) : (p.f0 == q.f0 && (p.f1 == q.f1)) = true ↔ p = q := by
  obtain ⟨a, b⟩ := p
  obtain ⟨c, d⟩ := q
  simp
instance decS70 (p q : S70) : Decidable (p = q) := decidable_of_iff _ (same_iff p q)
/-- neighbours that are one struck -/
def compP : List S70 → List S70
  | [] => []
  | [x] => [x]
  | x :: y :: l => if x = y then compP (y :: l) else x :: compP (y :: l)
theorem comp_snoc (x y : S70) : ∀ a : List S70, compP (a ++ [y, x]) = if y = x then compP (a ++ [y]) else compP (a ++ [y]) ++ [x]
  | [] => by
    show (if y = x then [x] else y :: [x]) = if y = x then [y] else [y] ++ [x]
    by_cases h : y = x
    · rw [if_pos h, if_pos h, h]
    · rw [if_neg h, if_neg h]; rfl
  | [b] => by
    have ih := comp_snoc x y []
    show (if b = y then compP ([] ++ [y, x]) else b :: compP ([] ++ [y, x])) = if y = x then (if b = y then compP ([] ++ [y]) else b :: compP ([] ++ [y])) else (if b = y then compP ([] ++ [y]) else b :: compP ([] ++ [y])) ++ [x]
    rw [ih]
    repeat' split
    all_goals rfl
  | b :: c :: a => by
    have ih := comp_snoc x y (c :: a)
    show (if b = c then compP (c :: a ++ [y, x]) else b :: compP (c :: a ++ [y, x])) = if y = x then (if b = c then compP (c :: a ++ [y]) else b :: compP (c :: a ++ [y])) else (if b = c then compP (c :: a ++ [y]) else b :: compP (c :: a ++ [y])) ++ [x]
    rw [ih]
    repeat' split
    all_goals rfl
theorem comp_step {l : List S70} {m : Nat} (h1 : 1 ≤ m) (hm : m < l.length) : compP (l.take (m + 1)) = if l[m - 1]'(by omega) = l[m] then compP (l.take m) else compP (l.take m) ++ [l[m]] := by
  have e1 : l.take m = l.take (m - 1) ++ [l[m - 1]'(by omega)] := by
    have := List.take_succ_eq_append_getElem (l := l) (i := m - 1) (by omega)
    rwa [show m - 1 + 1 = m from by omega] at this
  have e2 : l.take (m + 1) = l.take (m - 1) ++ [l[m - 1]'(by omega), l[m]] := by
    rw [List.take_succ_eq_append_getElem hm, e1, List.append_assoc]; rfl
  rw [e2, e1]
  exact comp_snoc _ _ _
/-- none is its neighbour: nothing is struck -/
theorem comp_none {l : List S70} : ∀ (m : Nat), m ≤ l.length → (∀ (j : Nat) (hj : j + 1 < m) (hj2 : j + 1 < l.length), l[j] ≠ l[j + 1]) → compP (l.take m) = l.take m
  | 0, _, _ => rfl
  | 1, _, _ => by
    cases l with
    | nil => rfl
    | cons x l => rfl
  | m + 2, hm, h => by
    rw [comp_step (m := m + 1) (by omega) (by omega), comp_none (m + 1) (by omega) (fun j hj hj2 => h j (by omega) hj2), List.take_succ_eq_append_getElem (i := m + 1) (by omega)]
    exact if_neg (h m (by omega) (by omega))
theorem PB.set {w : World} {g cap : Nat} {l : List S70} (h : PB w g cap l) (i : Nat) (hi : i < l.length) (p : S70) :
    PB ((w.setCell ⟨g, i * 2, none⟩ (.int .u64 p.f0)).setCell ⟨g, i * 2 + 1, none⟩ (.int .i64 p.f1)) g cap (l.set i p) ∧ w.grownBy ((w.setCell ⟨g, i * 2, none⟩ (.int .u64 p.f0)).setCell ⟨g, i * 2 + 1, none⟩ (.int .i64 p.f1)) (some g) := by
  obtain ⟨cur, h1, h2, h3⟩ := h.blk
  have hl := h.len
  refine ⟨⟨⟨_, blk_set (blk_set h1 _ _) _ _, by simp [h2], fun k hk => ?_⟩, by rw [List.length_set]; exact hl, h.max⟩, ?_⟩
  · rw [List.length_set] at hk
    obtain ⟨e1, e2⟩ := h3 k hk
    simp only [Array.getElem?_setIfInBounds, Array.size_setIfInBounds, List.getElem_set]
    by_cases he : i = k
    · subst he
      rw [if_neg (by omega), if_pos rfl, if_pos (by omega), if_pos rfl, if_pos (by omega)]
      simp
      omega
    · have n1 : ¬ (i * 2 + 1 = k * 2) := by omega
      have n2 : ¬ (i * 2 = k * 2) := by omega
      have n3 : ¬ (i * 2 + 1 = k * 2 + 1) := by omega
      have n4 : ¬ (i * 2 = k * 2 + 1) := by omega
      simp only [n1, n2, n3, n4, he, if_false]
      exact ⟨e1, e2⟩
  · refine ⟨rfl, rfl, rfl, by simp [World.setCell], fun k hk hne => ?_⟩
    have hkg : k ≠ g := fun e => hne (by rw [e])
    rw [Below.heap_setCell _ _ _ _ (by simpa using hkg), Below.heap_setCell _ _ _ _ (by simpa using hkg)]
/-- the rest cleared: what stands ahead of it stays -/
theorem PB.clear {w : World} {g cap : Nat} {l : List S70} (h : PB w g cap l) (i : Nat) (hi : i ≤ l.length) (cs : List Value) (hcs : i * 2 + cs.length ≤ cap * 2) : PB (w.setCells g (i * 2) cs) g cap (l.take i) ∧ w.grownBy (w.setCells g (i * 2) cs) (some g) := by
  obtain ⟨cur, h1, h2, h3⟩ := h.blk
  have hl := h.len
  have hs := setCells_same g cs (i * 2) w
  obtain ⟨cur', k1, k2, k3⟩ := setCells_row cs (i * 2) w cur h1 (by omega)
  have hat : ∀ j, j < i * 2 → cur'[j]? = cur[j]? := by
    intro j hj
    rw [← Array.getElem?_toList, k3, List.append_assoc, List.getElem?_append_left (by rw [List.length_take, Array.length_toList (xs := cur)]; omega), List.getElem?_take, if_pos hj, Array.getElem?_toList]
  refine ⟨⟨⟨cur', k1, by omega, fun k hk => ?_⟩, by rw [List.length_take]; omega, h.max⟩, hs.1, hs.2.1, hs.2.2.1, by rw [hs.2.2.2]; exact Nat.le_refl _, fun k hk hne => setCells_far _ _ k (fun e => hne (by rw [e]))⟩
  rw [List.length_take] at hk
  obtain ⟨e1, e2⟩ := h3 k (by omega)
  rw [hat _ (by omega), hat _ (by omega), List.getElem_take]
  exact ⟨e1, e2⟩
theorem grown_trans {w w1 w2 : World} {r : Option Nat} (h : w.grownBy w1 r) (k : w1.grownBy w2 r) : w.grownBy w2 r :=
  ⟨k.os.trans h.os, k.tape.trans h.tape, k.output.trans h.output, Nat.le_trans h.size k.size, fun j hj hne => (k.block j (Nat.lt_of_lt_of_le hj h.size) hne).trans (h.block j hj hne)⟩
theorem run_clear2 (w : World) (ty : TypeId) (b o n c : Nat) (hn : 0 < n) (hc : ∀ j, j < n * 2 → (w.cell? ⟨b, o + j, none⟩).isSome = true) (hf : ∀ j, j < n * 2 → w.frozen? ⟨b, o + j, none⟩ = false) :
    ∃ cs : List Value, cs.length = n * 2 ∧ (Builtin.clear_ #[65] ty #[.slice (some ⟨b, o, none⟩) n c]).run Try.prog w = .ok (.tuple #[]) (w.setCells b o cs) := by
  have hv : ∀ w, (zeroValue TP).run Try.prog w = .ok (.agg #[.int .u64 0, .int .i64 0]) w := fun w => by kernel_rfl
  obtain ⟨cs, hcs⟩ : ∃ cs, cs = (Builtin.zeroCells #[Value.int .u64 0, .int .i64 0] n).toList := ⟨_, rfl⟩
  have hlen : cs.length = n * 2 := by rw [hcs]; simp [Builtin.zeroCells]
  have hone : ∀ v ∈ cs, v.oneCell' = true := by
    intro v hv'
    rw [hcs] at hv'
    simp only [Builtin.zeroCells, Array.toList_map, List.mem_map] at hv'
    obtain ⟨i, _, rfl⟩ := hv'
    rcases (show i % 2 = 0 ∨ i % 2 = 1 by omega) with h | h <;> simp [h, Value.oneCell']
  have hst := run_storeCells_cells (P := Try.prog) b o cs 0 w (by rw [hlen]; simpa using hc) (by rw [hlen]; simpa using hf) hone
  simp only [Nat.add_zero] at hst
  refine ⟨cs, hlen, ?_⟩
  obtain ⟨m, rfl⟩ : ∃ m, n = m + 1 := ⟨n - 1, by omega⟩
  have hzc : (Builtin.zeroCells (Value.agg #[.int .u64 0, .int .i64 0]).cells (m + 1)).toList = cs := hcs.symm
  simp [Builtin.clear_, run_underlying Try.underlying65, hv, hzc, hst]
set_option maxHeartbeats 4000000 in
set_option maxRecDepth 100000 in
theorem compact_ {w : World} {g cap : Nat} {l : List S70} (h : PB w g cap l) (hm : l.length ≤ 17592186044000) :
    Calls Try.prog 53 #[.slice (some ⟨g, 0, none⟩) l.length cap] w fun e w' => ∃ l' : List S70, e = .returned (.slice (some ⟨g, 0, none⟩) l'.length cap) ∧ l' = compP l ∧ PB w' g cap l' ∧ w.grownBy w' (some g) := by
  have H := Aside0.mk h
  have hcap := h.len
  have hmax := h.max
  unfold maxLen at hmax
  clear h
  by_cases hs : l.length < 2
  · have t1 : decide ((l.length : Int) < 2) = true := decide_eq_true (by omega)
    have hc : compP l = l := by
      match l, hs with
      | [], _ => rfl
      | [x], _ => rfl
    have HC := Aside0.mk hc
    clear hc
    go_enter Try.func53, Try.ntmps53
    go_wp2
    go_ret
    exact ⟨l, rfl, HC.out.symm, H.out, ⟨rfl, rfl, rfl, Nat.le_refl _, fun _ _ _ => rfl⟩⟩
  · have t1 : decide ((l.length : Int) < 2) = false := decide_eq_false (by omega)
    go_enter Try.func53, Try.ntmps53
    go_wp2
    go_loopg [3] (l.length - 1) (fun q vk w' => ∃ k : Nat, vk = .int .i64 k ∧ 1 ≤ k ∧ k ≤ l.length ∧ q = l.length - k ∧ Aside0 (∀ (j : Nat) (hj : j + 1 < k) (hj2 : j + 1 < l.length), l[j] ≠ l[j + 1]) ∧ Aside0 (Drawn0 w w'))
    case atStart => exact ⟨1, by go_num, Nat.le_refl _, by omega, rfl, ⟨fun j hj => by omega⟩, ⟨Drawn0.refl w⟩⟩
    case round =>
      obtain ⟨k, rfl, hk1, hk, rfl, HN, HD⟩ := hrel
      by_cases hlt : k < l.length
      · have t2 : decide ((k : Int) < (l.length : Int)) = true := decide_eq_true (by omega)
        obtain ⟨c1, c2⟩ := H.out.cells k hlt
        obtain ⟨c3, c4⟩ := H.out.cells (k - 1) (by omega)
        have c1 := pw_cell_below HD.out.below c1
        have c2 := pw_cell_below HD.out.below c2
        have c3 := pw_cell_below HD.out.below c3
        have c4 := pw_cell_below HD.out.below c4
        obtain ⟨x0, hx0⟩ : ∃ x, l[k].f0 = x := ⟨_, rfl⟩
        obtain ⟨x1, hx1⟩ : ∃ x, l[k].f1 = x := ⟨_, rfl⟩
        obtain ⟨y0, hy0⟩ : ∃ x, (l[k - 1]'(by omega)).f0 = x := ⟨_, rfl⟩
        obtain ⟨y1, hy1⟩ : ∃ x, (l[k - 1]'(by omega)).f1 = x := ⟨_, rfl⟩
        rw [hx0] at c1
        rw [hx1] at c2
        rw [hy0] at c3
        rw [hy1] at c4
        have hsame := same_iff l[k] (l[k - 1]'(by omega))
        rw [hx0, hx1, hy0, hy1] at hsame
        have HS := Aside0.mk hsame
        clear hx0 hx1 hy0 hy1 hsame
        have i1 : (0 : Int) ≤ (k : Int) := by omega
        have i2 : (k : Int) < (l.length : Int) := by omega
        have i3 : (0 : Int) ≤ (k : Int) - 1 := by omega
        have i4 : (k : Int) - 1 < (l.length : Int) := by omega
        by_cases he : (x0 == y0 && (x1 == y1)) = true
        · have HP := Aside0.mk (H.out.step (w' := wr) (by obtain ⟨n, e⟩ := HD.out; rw [e]; rfl))
          have HE := Aside0.mk (HS.out.1 he)
          have HG : Aside0 (w.grownBy wr (some g)) := ⟨⟨HD.out.below.os, HD.out.below.tape, HD.out.below.output, HD.out.below.size, fun k hk _ => HD.out.below.block k hk⟩⟩
          have i5 : (k : Int) ≤ (l.length : Int) := by omega
          go_wp2_with fail
          go_quiet (fail)
          go_wp2_with fail
          have hl0 : compP (l.take (k + 1)) = l.take k := by
            have hc := comp_none k (by omega) HN.out
            rw [comp_step hk1 hlt, if_pos HE.out.symm, hc]
          have HL0 := Aside0.mk hl0
          have HH := HP.out
          have HG1 : Aside0 (∀ q, w.grownBy (wr.drewN q) (some g)) := ⟨fun q => ⟨HG.out.os, HG.out.tape, HG.out.output, HG.out.size, HG.out.block⟩⟩
          have HP1 : Aside0 (∀ q, PB (wr.drewN q) g cap l) := ⟨fun q => HP.out.step rfl⟩
          obtain ⟨n, hn⟩ : ∃ n, l.length - k = n := ⟨_, rfl⟩
          have hln : l.length = k + n := by omega
          have HLn := Aside0.mk hln
          rw [hn]
          clear hl0 HH HN HS HE HP HG HD he c1 c2 c3 c4 i1 i2 i3 i4 i5 hn hln
          go_loopg [3, 5] (n - 1) (fun q v3 v5 w' => ∃ (i j : Nat) (ys : List S70), v3 = .int .i64 i ∧ v5 = .int .i64 j ∧ 1 ≤ j ∧ j ≤ n ∧ 1 ≤ i ∧ i + 1 ≤ k + j ∧ q = n - j ∧ Aside0 (ys.length = l.length ∧ ys.take i = compP (l.take (k + j)) ∧ ys.drop (k + j - 1) = l.drop (k + j - 1)) ∧ Aside0 (PB w' g cap ys) ∧ Aside0 (w.grownBy w' (some g)))
          case atStart => exact ⟨k, 1, l, rfl, by go_num, Nat.le_refl _, by have := HLn.out; omega, hk1, Nat.le_refl _, rfl, ⟨rfl, HL0.out.symm, rfl⟩, ⟨HP1.out _⟩, ⟨HG1.out _⟩⟩
          case round =>
            obtain ⟨i, j, ys, rfl, rfl, hj1, hjn, hi1, hij, rfl, HY, HP, HG⟩ := hrel
            clear HL0 HG1 HP1
            have hyl : ys.length = k + n := by rw [HY.out.1, HLn.out]
            have hll := HLn.out
            by_cases hjl : j < n
            · have t3 : decide ((j : Int) < (n : Int)) = true := decide_eq_true (by omega)
              have hdr := HY.out.2.2
              have hkj : k + j < l.length := by omega
              have hkj1 : k + j - 1 < l.length := by omega
              have hp : ys[k + j]'(by omega) = l[k + j]'hkj := by
                have e := congrArg (fun z => z[1]?) hdr
                simp only [List.getElem?_drop] at e
                rw [show k + j - 1 + 1 = k + j by omega, List.getElem?_eq_getElem (by omega), List.getElem?_eq_getElem (by omega)] at e
                exact Option.some.inj e
              have hq : ys[k + j - 1]'(by omega) = l[k + j - 1]'hkj1 := by
                have e := congrArg (fun z => z[0]?) hdr
                simp only [List.getElem?_drop] at e
                rw [Nat.add_zero, List.getElem?_eq_getElem (by omega), List.getElem?_eq_getElem (by omega)] at e
                exact Option.some.inj e
              have hdr1 : ys.drop (k + j) = l.drop (k + j) := by
                have e := congrArg (List.drop 1) hdr
                rw [List.drop_drop, List.drop_drop, show k + j - 1 + 1 = k + j by omega] at e
                exact e
              obtain ⟨c1, c2⟩ := HP.out.cells (k + j) (by omega)
              obtain ⟨c3, c4⟩ := HP.out.cells (k + j - 1) (by omega)
              obtain ⟨d1, d2⟩ := HP.out.cells i (by omega)
              have f1 := HP.out.frozen (i * 2)
              have f2 := HP.out.frozen (i * 2 + 1)
              obtain ⟨p, hpp⟩ : ∃ x, ys[k + j]'(by omega) = x := ⟨_, rfl⟩
              obtain ⟨q, hqq⟩ : ∃ x, ys[k + j - 1]'(by omega) = x := ⟨_, rfl⟩
              rw [hpp] at c1 c2 hp
              rw [hqq] at c3 c4 hq
              rw [show (k + j) * 2 = k * 2 + j * 2 by omega] at c1 c2
              rw [show (k + j - 1) * 2 = k * 2 + (j - 1) * 2 by omega] at c3 c4
              have hsame := same_iff p q
              obtain ⟨p0, p1⟩ := p
              obtain ⟨q0, q1⟩ := q
              have HC := Aside0.mk (comp_step (l := l) (m := k + j) (Nat.le_trans hk1 (Nat.le_add_right k j)) hkj)
              have HPQ := Aside0.mk (And.intro hp hq)
              have HSm := Aside0.mk hsame
              have HDr := Aside0.mk hdr1
              obtain ⟨z0, hz0⟩ : ∃ z, (ys[i]'(by omega)).f0 = z := ⟨_, rfl⟩
              obtain ⟨z1, hz1⟩ : ∃ z, (ys[i]'(by omega)).f1 = z := ⟨_, rfl⟩
              rw [hz0] at d1
              rw [hz1] at d2
              clear hp hq hpp hqq hdr hdr1 hsame hz0 hz1
              have HHl := Aside0.mk hll
              have HHy := Aside0.mk hyl
              have i6 : (i : Int) < (l.length : Int) := by omega
              have i7 : (0 : Int) ≤ (j : Int) - 1 := by omega
              have i8 : (j : Int) - 1 < (n : Int) := by omega
              have i9 : (j : Int) < (n : Int) := by omega
              clear hll hyl
              by_cases he : (p0 == q0 && (p1 == q1)) = true
              · have HEq := Aside0.mk (HSm.out.1 he)
                go_wp2_with fail
                go_quiet (fail)
                go_wp2_with fail
                go_roundg (n - (j + 1))
                case measure => omega
                case rel => exact ⟨i, j + 1, ys, rfl, by go_num, by omega, hjl, hi1, by omega, rfl, ⟨HY.out.1, by rw [show k + (j + 1) = k + j + 1 by omega, HC.out, if_pos (by rw [← HPQ.out.1, ← HPQ.out.2]; exact HEq.out.symm)]; exact HY.out.2.1, by rw [show k + (j + 1) - 1 = k + j by omega]; exact HDr.out⟩, ⟨HP.out.step rfl⟩, ⟨⟨HG.out.os, HG.out.tape, HG.out.output, HG.out.size, HG.out.block⟩⟩⟩
              · have HEq := Aside0.mk (fun e => he (HSm.out.2 e))
                have he : (p0 == q0 && (p1 == q1)) = false := by simpa using he
                go_wp2_with fail
                go_quiet (fail)
                go_wp2_with fail
                go_roundg (n - (j + 1))
                case measure => omega
                case rel =>
                  have hset := (HP.out.step (w' := wr.drewN nq) rfl).set i (by rw [HHy.out]; omega) ⟨p0, p1⟩
                  refine ⟨i + 1, j + 1, ys.set i ⟨p0, p1⟩, by go_num, by go_num, by omega, hjl, by omega, by omega, rfl, ⟨by rw [List.length_set]; exact HY.out.1, ?_, ?_⟩, ⟨hset.1⟩, ⟨grown_trans (w1 := wr.drewN nq) ⟨HG.out.os, HG.out.tape, HG.out.output, HG.out.size, HG.out.block⟩ hset.2⟩⟩
                  · rw [show k + (j + 1) = k + j + 1 by omega, HC.out, if_neg (by rw [← HPQ.out.1, ← HPQ.out.2]; exact fun e => HEq.out e.symm), ← HY.out.2.1, ← HPQ.out.1]
                    have hi : i < (ys.set i ⟨p0, p1⟩).length := by rw [List.length_set, HHy.out]; omega
                    rw [List.take_succ_eq_append_getElem hi, List.getElem_set_self, List.take_set_of_le (Nat.le_refl i)]
                  · rw [show k + (j + 1) - 1 = k + j by omega, List.drop_set_of_lt (by omega)]
                    exact HDr.out
            · obtain rfl : j = n := by omega
              have t3 : decide ((j : Int) < (j : Int)) = false := decide_eq_false (by omega)
              have i6 : (i : Int) < (l.length : Int) := by omega
              have i7 : (i : Int) ≤ (l.length : Int) := by omega
              obtain ⟨cs, hcs, hcl⟩ := run_clear2 wr 0 g (i * 2) (l.length - i) (cap - i) (by omega) (fun x hx => by
                rcases (show x % 2 = 0 ∨ x % 2 = 1 by omega) with h' | h'
                · obtain ⟨e1, e2⟩ := HP.out.cells (i + x / 2) (by omega)
                  rw [show (i + x / 2) * 2 = i * 2 + x by omega] at e1
                  rw [e1]; rfl
                · obtain ⟨e1, e2⟩ := HP.out.cells (i + x / 2) (by omega)
                  rw [show (i + x / 2) * 2 + 1 = i * 2 + x by omega] at e2
                  rw [e2]; rfl) (fun x _ => HP.out.frozen _)
              have HCl := Aside0.mk (HP.out.clear i (by omega) cs (by have := HP.out.len; omega))
              have hti : ys.take i = compP l := by
                have := HY.out.2.1
                rwa [← hll, List.take_length] at this
              have HT := Aside0.mk hti
              have HTl : Aside0 ((ys.take i).length = i) := ⟨by rw [List.length_take]; omega⟩
              have HHl := Aside0.mk hll
              have HHy := Aside0.mk hyl
              clear hti hll hyl hcs
              go_wp2_with fail
              go_ret
              exact ⟨ys.take i, by rw [HTl.out]; rfl, HT.out, HCl.out.1, grown_trans HG.out HCl.out.2⟩
        · have HE := Aside0.mk (fun e => he (HS.out.2 e))
          have he : (x0 == y0 && (x1 == y1)) = false := by simpa using he
          go_wp2_with fail
          go_quiet (fail)
          go_wp2_with fail
          go_roundg (l.length - (k + 1))
          case measure => omega
          case rel => exact ⟨k + 1, by go_num, by omega, hlt, by omega, ⟨fun j hj hj2 => by
            by_cases hjk : j + 1 = k
            · subst hjk
              exact fun e => HE.out e.symm
            · exact HN.out j (by omega) hj2⟩, ⟨HD.out.step _⟩⟩
      · obtain rfl : k = l.length := by omega
        have t2 : decide ((l.length : Int) < (l.length : Int)) = false := decide_eq_false (by omega)
        have hc := comp_none l.length (Nat.le_refl _) (fun j hj hj2 => HN.out j hj hj2)
        rw [List.take_length] at hc
        have HC := Aside0.mk hc
        clear hc
        have HP := Aside0.mk (H.out.step (w' := wr) (by obtain ⟨n, e⟩ := HD.out; rw [e]; rfl))
        have HG : Aside0 (w.grownBy wr (some g)) := ⟨⟨HD.out.below.os, HD.out.below.tape, HD.out.below.output, HD.out.below.size, fun k hk _ => HD.out.below.block k hk⟩⟩
        go_wp2_with fail
        go_ret
        exact ⟨l, rfl, HC.out.symm, HP.out, HG.out⟩
end Go.Proofs.Yteocngcojijnkaa.Hs
namespace Go.Proofs.Yteocngcojijnkaa.QP
open Go.RowKit Go.Proofs.YteocngcojijnkaaW.PrintWords Go.Proofs.YteocngcojijnkaaW.PrintLast Go.Proofs.YteocngcojijnkaaW.PrintMore
attribute [local go_sem] max2_int min2_int max_two min_two max_three min_three max_four min_four   -- for this text's walks alone
set_option linter.unusedVariables false
set_option linter.unusedSimpArgs false
def errW : Option Int → Value
  | none => .nilIface
  | some c => .iface 0 (.int .i64 c)
theorem errW_none : errW none = .nilIface := rfl
theorem errW_some (c : Int) : errW (some c) = .iface 0 (.int .i64 c) := rfl
def rd_L1 (xs : List (List Int)) (i : Int) : (List Int) := xs.getD i.toNat ([] : List Int)
theorem at_L1 {w : World} {A : Option Addr} {n : Nat} {xs : List (List Int)} (h : Kd.C (Kd.slice 5 (Kd.int .u8)) w A n xs) (i : Int) (h0 : 0 ≤ i) (h1 : i < n) : ∃ ad A0 c0, A = some ad ∧ w.cell? (ad.add i.toNat) = some (.slice A0 (rd_L1 xs i).length c0) ∧ (rd_L1 xs i).length ≤ c0 ∧ (Kd.int .u8).C w A0 (rd_L1 xs i).length (rd_L1 xs i) := by
  obtain ⟨ad, c, e, _, hK, hc0⟩ := Kd.C_get h ([] : List Int) i h0 h1
  have hc : ∀ j u, c[j]? = some u → w.cell? (ad.add (i.toNat * 1 + j)) = some u := hc0
  obtain ⟨A0, c0, rfl, l0, g0⟩ := hK
  exact ⟨ad, A0, c0, e, by have hq := hc 0 _ rfl; rwa [Nat.mul_one, Nat.add_zero] at hq, l0, g0⟩
end Go.Proofs.Yteocngcojijnkaa.QP
namespace Go.Proofs.Yteocngcojijnkaa.QP
open Go.RowKit Go.Proofs.YteocngcojijnkaaW.PrintWords Go.Proofs.YteocngcojijnkaaW.PrintLast Go.Proofs.YteocngcojijnkaaW.PrintMore
attribute [local go_sem] max2_int min2_int max_two min_two max_three min_three max_four min_four   -- for this text's walks alone
set_option linter.unusedVariables false
set_option linter.unusedSimpArgs false
/-! ### hash_Point: function 50 -/
def hash_Point.f (k : Nat) (a0 : Int) (a1 : Int) : Option (Int) := (QH.hash_word.f k a0).bind fun t101 => ((QH.hash_word.f k a1).bind fun t104 => ((Hs.hash_Sum.f (([t101, t104] : List (List Int)))).bind fun t110 => ((QH.hash_Stir.f t110).bind fun t111 => (some t111))))
set_option maxHeartbeats 8000000 in
set_option maxRecDepth 100000 in
theorem hash_Point.calls (k : Nat) (a0 : Int) (a1 : Int) (r : Int) (w : World) (h : hash_Point.f k a0 a1 = some r) :
    Calls Try.prog 50 #[.int .i64 a0, .int .i64 a1] w fun e w' => e = .returned (.int .u64 r) ∧ Below w.heap.size w w' := by
  have HB := Aside0.mk (Below.refl w.heap.size w)
  have H : ((QH.hash_word.f k a0).bind fun t101 => ((QH.hash_word.f k a1).bind fun t104 => ((Hs.hash_Sum.f (([t101, t104] : List (List Int)))).bind fun t110 => ((QH.hash_Stir.f t110).bind fun t111 => (some t111))))) = some r := h
  clear h
  replace H := Option.bind_eq_some_iff.mp H
  obtain ⟨t101, A30, H⟩ := H
  replace H : ((QH.hash_word.f k a1).bind fun t104 => ((Hs.hash_Sum.f (([t101, t104] : List (List Int)))).bind fun t110 => ((QH.hash_Stir.f t110).bind fun t111 => (some t111)))) = some r := H
  have A3 := Aside0.mk A30
  clear A30
  replace H := Option.bind_eq_some_iff.mp H
  obtain ⟨t104, A40, H⟩ := H
  replace H : ((Hs.hash_Sum.f (([t101, t104] : List (List Int)))).bind fun t110 => ((QH.hash_Stir.f t110).bind fun t111 => (some t111))) = some r := H
  have A4 := Aside0.mk A40
  clear A40
  obtain ⟨y107, hy107⟩ : ∃ y_ : List (List Int), y_ = (([t101, t104] : List (List Int))) := ⟨_, rfl⟩
  replace H : ((Hs.hash_Sum.f y107).bind fun t110 => ((QH.hash_Stir.f t110).bind fun t111 => (some t111))) = some r := by first | (rw [hy107]; with_reducible exact H) | (have H2_ := (Option.bind_some _ _).symm.trans H; rw [hy107]; with_reducible exact H2_) | (have H2_ := (Option.bind_some _ _).symm.trans H; with_reducible exact H2_) | with_reducible exact H | (rw [hy107]; exact H) | exact H
  have Ny107 := Aside0.mk hy107
  clear hy107
  replace H := Option.bind_eq_some_iff.mp H
  obtain ⟨t110, A50, H⟩ := H
  replace H : ((QH.hash_Stir.f t110).bind fun t111 => (some t111)) = some r := H
  have A5 := Aside0.mk A50
  clear A50
  replace H := Option.bind_eq_some_iff.mp H
  obtain ⟨t111, A60, H⟩ := H
  replace H : (some t111) = some r := H
  have A6 := Aside0.mk A60
  clear A60
  obtain rfl := Option.some.inj H
  go_enter Try.func50, Try.ntmps50
  go_wp2_with (first | ((with_reducible refine gate_callee (f := 63) rfl ?_); refine goesL_ (some 6) rfl rfl Try.func63 (by kernel_rfl) rfl #[.int .i64 a0] rfl (by (try simp only [List.map_toArray, List.map_cons, List.map_nil]); first | done | rfl | (simp only [List.length_drop, List.length_take]; rfl)) ?_; (with_reducible refine (QH.hash_word.calls k a0 t101 _ A3.out).mono ?_); rintro e w7 ⟨v102, rfl, ho0, hb⟩; refine ⟨_, rfl, ?_⟩; have n0_ := Aside0.mk (Kd.R_lower ho0 (below_size (by repeat (first | (with_reducible first | exact HB.out | apply below_alloc | apply pw_below_drewN | apply below_drew1) | exact HB.out)))); have n1_ := Aside0.mk (below_step (by repeat (first | (with_reducible first | exact HB.out | apply below_alloc | apply pw_below_drewN | apply below_drew1) | exact HB.out)) hb); clear HB; have HO103 := n0_; have HB := n1_; clear n0_ n1_; (try clear hb); (try clear hb2); (try clear hk); (try clear hi); (try clear ho0)) | ((with_reducible refine gate_callee (f := 63) rfl ?_); refine goesL_ (some 8) rfl rfl Try.func63 (by kernel_rfl) rfl #[.int .i64 a1] rfl (by (try simp only [List.map_toArray, List.map_cons, List.map_nil]); first | done | rfl | (simp only [List.length_drop, List.length_take]; rfl)) ?_; (with_reducible refine (QH.hash_word.calls k a1 t104 _ A4.out).mono ?_); rintro e w8 ⟨v105, rfl, ho0, hb⟩; refine ⟨_, rfl, ?_⟩; have n0_ := Aside0.mk (Kd.R_elder' (by (with_reducible repeat (first | apply Kd.R_alloc | apply Kd.R_drewN | apply Kd.R_drew)); exact HO103.out) (Kd.R_base ho0) hb); have n1_ := Aside0.mk (Kd.R_lower (Kd.R_new' ho0 (Kd.R_lt (by (with_reducible repeat (first | apply Kd.R_alloc | apply Kd.R_drewN | apply Kd.R_drew)); exact HO103.out))) (below_size (by repeat (first | (with_reducible first | exact HB.out | apply below_alloc | apply pw_below_drewN | apply below_drew1) | exact HB.out)))); have n2_ := Aside0.mk (below_step (by repeat (first | (with_reducible first | exact HB.out | apply below_alloc | apply pw_below_drewN | apply below_drew1) | exact HB.out)) hb); clear HO103; clear HB; have HO103 := n0_; have HO106 := n1_; have HB := n2_; clear n0_ n1_ n2_; (try clear hb); (try clear hb2); (try clear hk); (try clear hi); (try clear ho0); obtain ⟨Ao9, co9, eo9⟩ := Kd.R_slice HO103.out; subst eo9; obtain ⟨Ao10, co10, eo10⟩ := Kd.R_slice HO106.out; subst eo10) | ((with_reducible refine gate_dst (N := 9) rfl ?_); refine Kd.N_lit (Kd.slice 5 (Kd.int .u8)) _ 88 ?hg (N' := 9) ?hd (xs := ([t101, t104] : List (List Int))) (inner := [.slice Ao9 t101.length co9, .slice Ao10 t104.length co10]) (ok := (fun _ => True)) (okp := (fun _ => True)) ?hr ?hp (fun _ hk => hk) ((show ∀ k_, w8.heap.size ≤ k_ → (fun _ => True) k_ from fun k_ hk => trivial) _ (Nat.le_refl _)) (Below.refl _ _) (Nat.le_refl _) (by simp) ?_; (case hd => rfl); (case hg => rfl); (case hr => first | (go_simp; done) | (go_simp; rfl)); (case hp => exact (Reps.one (show Kd.FK (Kd.slice 5 (Kd.int .u8)) _ _ t101 [.slice Ao9 t101.length co9] from (Kd.FK_slice_mk (Kd.R_reads' (Kd.R_mono (ok' := (fun _ => True)) (HO103.out) (fun k_ hk => trivial))).2.1 (Kd.R_F (Kd.R_mono (ok' := (fun _ => True)) (HO103.out) (fun k_ hk => trivial))))) (Reps.one (show Kd.FK (Kd.slice 5 (Kd.int .u8)) _ _ t104 [.slice Ao10 t104.length co10] from (Kd.FK_slice_mk (Kd.R_reads' (Kd.R_mono (ok' := (fun _ => True)) (HO106.out) (fun k_ hk => trivial))).2.1 (Kd.R_F (Kd.R_mono (ok' := (fun _ => True)) (HO106.out) (fun k_ hk => trivial))))) (Reps.none _ _)))); intro v108 w11 ho12 hb hg_ hnew_; clear hg_ hnew_; (first | rw [← Ny107.out] at ho12 | (simp only [Int.reduceToNat] at ho12; rw [← Ny107.out] at ho12)); have n0_ := Aside0.mk (Kd.N_lower ho12 (below_size (by repeat (first | (with_reducible first | exact HB.out | apply below_alloc | apply pw_below_drewN | apply below_drew1) | exact HB.out)))); have n1_ := Aside0.mk (below_step (by repeat (first | (with_reducible first | exact HB.out | apply below_alloc | apply pw_below_drewN | apply below_drew1) | exact HB.out)) hb); clear HB; clear HO103; clear HO106; have HO109 := n0_; have HB := n1_; clear n0_ n1_; clear hb ho12; obtain ⟨Ao13, co13, eo13⟩ := Kd.N_slice HO109.out; subst eo13) | ((with_reducible refine gate_callee (f := 62) rfl ?_); refine goesL_ (some 10) rfl rfl Try.func62 (by kernel_rfl) rfl #[.slice Ao13 y107.length co13] rfl (by (try simp only [List.map_toArray, List.map_cons, List.map_nil]); first | done | rfl | (simp only [List.length_drop, List.length_take]; rfl)) ?_; (with_reducible refine (Hs.hash_Sum.calls _ _ y107 t110 _ ?side1 ?side2 A5.out).mono ?_); (case side1 => repeat (first | exact (Kd.N_reads' HO109.out).2.2 | (with_reducible refine Kd.C_alloc ?_ _) | (with_reducible refine Kd.C_drewN ?_ _) | (with_reducible refine Kd.C_drew ?_))); (case side2 => exact (Kd.N_reads' HO109.out).2.1); rintro e w' ⟨rfl, ⟨nd, rfl⟩⟩; refine ⟨_, rfl, ?_⟩) | ((with_reducible refine gate_callee (f := 61) rfl ?_); refine goesL_ (some 11) rfl rfl Try.func61 (by kernel_rfl) rfl #[.int .u64 t110] rfl (by (try simp only [List.map_toArray, List.map_cons, List.map_nil]); first | done | rfl | (simp only [List.length_drop, List.length_take]; rfl)) ?_; (with_reducible refine (QH.hash_Stir.calls t110 t111 _ A6.out).mono ?_); rintro e w' ⟨rfl, ⟨nd, rfl⟩⟩; refine ⟨_, rfl, ?_⟩))
  go_ret
  exact ⟨by first | rfl | (simp [errW_none, errW_some] <;> rfl) | (simp [*, errW_none, errW_some] <;> rfl), by repeat (first | (with_reducible first | exact HB.out | apply below_alloc | apply pw_below_drewN | apply below_drew1) | exact HB.out)⟩

-- NOT PRINTED: function 55 (ring_first_1)
end Go.Proofs.Yteocngcojijnkaa.QP
namespace Go.Proofs.Yteocngcojijnkaa.QP
open Go.RowKit Go.Proofs.YteocngcojijnkaaW.PrintWords Go.Proofs.YteocngcojijnkaaW.PrintLast Go.Proofs.YteocngcojijnkaaW.PrintMore
attribute [local go_sem] max2_int min2_int max_two min_two max_three min_three max_four min_four   -- for this text's walks alone
set_option linter.unusedVariables false
set_option linter.unusedSimpArgs false
end Go.Proofs.Yteocngcojijnkaa.QP
namespace Go.Proofs.Yteocngcojijnkaa.Lex
/-- from some count of rounds on -/
def Since {α : Type} (f : Nat → Option α) (r : α) : Prop := ∃ K, ∀ k, K ≤ k → f k = some r
theorem Since.one {α β : Type} {f : Nat → Option α} {r : α} {F : Nat → Option β} {q : β} (h : Since f r) (hF : ∀ k, f k = some r → F (k + 1) = some q) : Since F q := by
  obtain ⟨K, h⟩ := h
  refine ⟨K + 1, fun k hk => ?_⟩
  obtain ⟨k, rfl⟩ : ∃ j, k = j + 1 := ⟨k - 1, by omega⟩
  exact hF k (h k (by omega))
theorem Since.two {α α' β : Type} {f : Nat → Option α} {r : α} {g : Nat → Option α'} {r' : α'} {F : Nat → Option β} {q : β} (h : Since f r) (h' : Since g r') (hF : ∀ k, f k = some r → g k = some r' → F (k + 1) = some q) : Since F q := by
  obtain ⟨K, h⟩ := h
  obtain ⟨K', h'⟩ := h'
  refine ⟨K + K' + 1, fun k hk => ?_⟩
  obtain ⟨k, rfl⟩ : ∃ j, k = j + 1 := ⟨k - 1, by omega⟩
  exact hF k (h k (by omega)) (h' k (by omega))
theorem Since.none {β : Type} {F : Nat → Option β} {q : β} (hF : ∀ k, F (k + 1) = some q) : Since F q := by
  refine ⟨1, fun k hk => ?_⟩
  obtain ⟨k, rfl⟩ : ∃ j, k = j + 1 := ⟨k - 1, by omega⟩
  exact hF k
theorem Since.map {α β : Type} {f : Nat → Option α} {r : α} {F : Nat → Option β} {q : β} (h : Since f r) (hF : ∀ k, f k = some r → F k = some q) : Since F q := by
  obtain ⟨K, h⟩ := h
  exact ⟨K, fun k hk => hF k (h k hk)⟩
theorem Since.and {α α' β : Type} {f : Nat → Option α} {r : α} {g : Nat → Option α'} {r' : α'} {F : Nat → Option β} {q : β} (h : Since f r) (h' : Since g r') (hF : ∀ k, f k = some r → g k = some r' → F k = some q) : Since F q := by
  obtain ⟨K, h⟩ := h
  obtain ⟨K', h'⟩ := h'
  exact ⟨K + K', fun k hk => hF k (h k (by omega)) (h' k (by omega))⟩
end Go.Proofs.Yteocngcojijnkaa.Lex
namespace Go.Proofs.Yteocngcojijnkaa.Hs
open Go.RowKit Go.Proofs.Yteocngcojijnkaa.QH Go.Proofs.Yteocngcojijnkaa.Lex
open Go.Proofs.YteocngcojijnkaaW.PrintWords Go.Proofs.YteocngcojijnkaaW.PrintLast Go.Proofs.YteocngcojijnkaaW.PrintMore
set_option linter.unusedVariables false
set_option linter.unusedSimpArgs false
theorem w_succ' (i : Nat) (h : i < 9223372036854775807) : wrap64 ((i : Int) + 1) = ((i + 1 : Nat) : Int) := by unfold wrap64; omega
/-- rising from a number on, and none too great -/
def risesB : Int → List Int → Bool
  | _, [] => true
  | last, n :: l => !decide (n ≤ last) && (!decide (n > 1048575) && risesB n l)
def okB (l : List Int) (each keep : Int) : Bool := decide (0 < l.length) && (decide (l.length ≤ 64) && (risesB (-1) l && (decide (1 ≤ each) && (decide (each ≤ 64) && (decide (1 ≤ keep) && decide (keep ≤ (l.length : Int)))))))
def chk (l : List Int) (each keep : Int) : Int := if okB l each keep = true then 0 else 2
theorem rises_l0 (l : List Int) (hl : l.length ≤ 9223372036854775807) : ∀ (n i : Nat) (last : Int), l.length - i = n → i ≤ l.length →
    Since (fun k => ring_rises.l0 k last l (l.length : Int) (i : Int)) (risesB last (l.drop i)) := by
  intro n
  induction n with
  | zero =>
    intro i last hn hi
    have hf : ¬ ((i : Int) < (l.length : Int)) := by omega
    rw [List.drop_eq_nil_of_le (by omega)]
    exact Since.none fun k => by simp only [ring_rises.l0, if_neg hf]; rfl
  | succ n ih =>
    intro i last hn hi
    have h1 : i < l.length := by omega
    have f1 : (i : Int) < (l.length : Int) := by omega
    have f0 : (0 : Int) ≤ (i : Int) := by omega
    have r1 : rd l (i : Int) = l[i] := by simp [rd, h1]
    rw [List.drop_eq_getElem_cons h1]
    unfold risesB
    by_cases c1 : l[i] ≤ last
    · refine Since.none fun k => ?_
      simp only [ring_rises.l0, if_pos f1, if_pos f0, r1, if_pos c1]
      simp [c1]
    · by_cases c2 : l[i] > 1048575
      · refine Since.none fun k => ?_
        simp only [ring_rises.l0, if_pos f1, if_pos f0, r1, if_neg c1, if_pos c2]
        simp [c2]
      · refine Since.one (ih (i + 1) l[i] (by omega) (by omega)) fun k h => ?_
        simp only [ring_rises.l0, if_pos f1, if_pos f0, r1, if_neg c1, if_neg c2, w_succ' i (by omega)]
        rw [h]
        simp [c1, c2]
theorem check_ev (l : List Int) (each keep : Int) (hl : l.length ≤ 9223372036854775807) : Since (fun k => ring_Check.f k l each keep) (chk l each keep) := by
  have hr := rises_l0 l hl _ 0 (-1) rfl (Nat.zero_le _)
  rw [List.drop_zero] at hr
  refine hr.map fun k h => ?_
  unfold ring_Check.f ring_rises.f chk okB
  rw [show ring_rises.l0 k (-1) l (l.length : Int) 0 = some (risesB (-1) l) from h]
  by_cases c1 : (l.length : Int) = 0
  · have : l = [] := List.length_eq_zero_iff.1 (by omega)
    subst this
    simp
  · by_cases c2 : (l.length : Int) > 64
    · have c3 : ¬ (l.length ≤ 64) := by omega
      simp only [if_neg c1, if_pos c2]
      simp [c3]
    · have c3 : l.length ≤ 64 := by omega
      have c4 : 0 < l.length := by omega
      simp only [if_neg c1, if_neg c2, Option.bind_some]
      cases hb : risesB (-1) l
      · simp
      · by_cases d1 : each < 1
        · have : ¬ (1 ≤ each) := by omega
          simp [d1, this]
        · by_cases d2 : each > 64
          · have : ¬ (each ≤ 64) := by omega
            simp [d1, d2, this]
          · by_cases d3 : keep < 1
            · have : ¬ (1 ≤ keep) := by omega
              simp [d1, d2, d3, this]
            · by_cases d4 : keep > (l.length : Int)
              · have : ¬ (keep ≤ (l.length : Int)) := by omega
                simp [d1, d2, d3, d4, this]
              · have e1 : 1 ≤ each := by omega
                have e2 : each ≤ 64 := by omega
                have e3 : 1 ≤ keep := by omega
                have e4 : keep ≤ (l.length : Int) := by omega
                simp [d1, d2, d3, d4, e1, e2, e3, e4, c3, c4]
/-! the reference's -/
theorem rchk_l0 (l : List Int) (each keep : Int) (hl : l.length ≤ 9223372036854775807) : ∀ (n i : Nat), l.length - i = n → i ≤ l.length → ∀ last : Int, (i = 0 → last = -1) → (∀ h : 0 < i, ∀ h2 : i - 1 < l.length, last = l[i - 1] ∧ 0 ≤ last) →
    Since (fun k => icehouseref09_Check.l0 k (l.length : Int) (i : Int) l each keep) (if risesB last (l.drop i) = true then 0 else 2) := by
  intro n
  induction n with
  | zero =>
    intro i hn hi last _ _
    have hf : ¬ ((i : Int) < (l.length : Int)) := by omega
    rw [List.drop_eq_nil_of_le (by omega)]
    exact Since.none fun k => by simp only [icehouseref09_Check.l0, if_neg hf]; rfl
  | succ n ih =>
    intro i hn hi last h0 hs
    have h1 : i < l.length := by omega
    have f1 : (i : Int) < (l.length : Int) := by omega
    have f0 : (0 : Int) ≤ (i : Int) := by omega
    have r1 : rd l (i : Int) = l[i] := by simp [rd, h1]
    rw [List.drop_eq_getElem_cons h1]
    unfold risesB
    by_cases c1 : l[i] < 0
    · have : l[i] ≤ last := by
        rcases Nat.eq_zero_or_pos i with h | h
        · have := h0 h; omega
        · have := (hs h (by omega)).2; omega
      refine Since.none fun k => ?_
      simp only [icehouseref09_Check.l0, if_pos f1, if_pos f0, r1, if_pos c1]
      simp [this]
    · by_cases c2 : l[i] > 1048575
      · refine Since.none fun k => ?_
        simp only [icehouseref09_Check.l0, if_pos f1, if_pos f0, r1, if_neg c1, if_pos c2]
        simp [c2]
      · have hn1 := ih (i + 1) (by omega) (by omega) l[i] (by omega) (fun _ _ => ⟨by simp, by omega⟩)
        rcases Nat.eq_zero_or_pos i with h | h
        · subst h
          have hl0 := h0 rfl
          have c3 : ¬ (l[0] ≤ last) := by omega
          refine Since.one hn1 fun k h => ?_
          simp only [icehouseref09_Check.l0, if_pos f1, if_pos f0, r1, if_neg c1, if_neg c2, w_succ' 0 (by omega)]
          rw [if_neg (by omega), h]
          simp [c3, c2]
        · obtain ⟨hl1, hl2⟩ := hs h (by omega)
          have g1 : wrap64 ((i : Int) - 1) = ((i - 1 : Nat) : Int) := by unfold wrap64; omega
          have r2 : rd l ((i - 1 : Nat) : Int) = l[i - 1] := by simp [rd, show i - 1 < l.length by omega]
          have g2 : (0 : Int) ≤ ((i - 1 : Nat) : Int) := by omega
          have g3 : ((i - 1 : Nat) : Int) < (l.length : Int) := by omega
          have g4 : (i : Int) > 0 := by omega
          by_cases c3 : l[i] ≤ l[i - 1]
          · refine Since.none fun k => ?_
            simp only [icehouseref09_Check.l0, if_pos f1, if_pos f0, r1, if_neg c1, if_neg c2, if_pos g4, g1, if_pos g2, if_pos g3, r2, if_pos c3]
            rw [hl1]
            simp [c3]
          · refine Since.one hn1 fun k h => ?_
            simp only [icehouseref09_Check.l0, if_pos f1, if_pos f0, r1, if_neg c1, if_neg c2, if_pos g4, g1, if_pos g2, if_pos g3, r2, if_neg c3, w_succ' i (by omega)]
            rw [h, hl1]
            simp [c3, c2]
theorem rcheck_ev (l : List Int) (each keep : Int) (hl : l.length ≤ 9223372036854775807) : Since (fun k => icehouseref09_Check.f k l each keep) (chk l each keep) := by
  have hr := rchk_l0 l each keep hl _ 0 rfl (Nat.zero_le _) (-1) (fun _ => rfl) (fun h => absurd h (Nat.lt_irrefl 0))
  rw [List.drop_zero] at hr
  refine Since.one hr fun k h => ?_
  unfold icehouseref09_Check.f chk okB
  by_cases c1 : (l.length : Int) < 1
  · have : ¬ (0 < l.length) := by omega
    simp [c1, this, icehouseref09_Check.j0]
  · by_cases c2 : (l.length : Int) > 64
    · have c3 : ¬ (l.length ≤ 64) := by omega
      simp only [if_neg c1, if_pos c2]
      simp [c3, icehouseref09_Check.j0]
    · have c3 : l.length ≤ 64 := by omega
      have c4 : 0 < l.length := by omega
      by_cases d1 : each < 1
      · have : ¬ (1 ≤ each) := by omega
        simp [c1, c2, d1, this, icehouseref09_Check.j0]
      · by_cases d2 : each > 64
        · have : ¬ (each ≤ 64) := by omega
          simp [c1, c2, d1, d2, this, icehouseref09_Check.j0]
        · by_cases d3 : keep < 1
          · have : ¬ (1 ≤ keep) := by omega
            simp [c1, c2, d1, d2, d3, this, icehouseref09_Check.j0]
          · by_cases d4 : keep > (l.length : Int)
            · have : ¬ (keep ≤ (l.length : Int)) := by omega
              simp [c1, c2, d1, d2, d3, d4, this, icehouseref09_Check.j0]
            · have e1 : 1 ≤ each := by omega
              have e2 : each ≤ 64 := by omega
              have e3 : 1 ≤ keep := by omega
              have e4 : keep ≤ (l.length : Int) := by omega
              simp only [if_neg c1, if_neg c2, if_neg d1, if_neg d2, if_neg d3, decide_eq_false d4, icehouseref09_Check.j0]
              rw [if_neg (by decide), show icehouseref09_Check.l0 k (l.length : Int) 0 l each keep = _ from h]
              simp [e1, e2, e3, e4, c3, c4]
/-! a point's word -/
def ptH (n j : Int) : Int := (QP.hash_Point.f 9 n j).getD 0
theorem word_some (n : Int) : ∃ l, hash_word.f 9 n = some l := by
  unfold hash_word.f
  simp [hash_word.l0, wrap64]
theorem pt_f (n j : Int) : QP.hash_Point.f 9 n j = some (ptH n j) := by
  have h : ∃ r, QP.hash_Point.f 9 n j = some r := by
    obtain ⟨a, ha⟩ := word_some n
    obtain ⟨b, hb⟩ := word_some j
    unfold QP.hash_Point.f
    rw [ha, hb]
    exact ⟨_, rfl⟩
  obtain ⟨r, hr⟩ := h
  unfold ptH
  rw [hr]; rfl
/-- all points, as they are laid -/
def rowP (n : Int) (each : Nat) : List S70 := (List.range each).map fun j : Nat => ⟨ptH n (j : Int), n⟩
def rawP (l : List Int) (each : Int) : List S70 := l.flatMap fun n => rowP n each.toNat
theorem rowP_succ (n : Int) (k : Nat) : rowP n (k + 1) = rowP n k ++ [⟨ptH n (k : Int), n⟩] := by unfold rowP; rw [List.range_succ, List.map_append]; rfl
theorem rawP_snoc (l : List Int) (x each : Int) : rawP (l ++ [x]) each = rawP l each ++ rowP x each.toNat := by unfold rawP; rw [List.flatMap_append]; simp
theorem rowP_len (n : Int) (k : Nat) : (rowP n k).length = k := by unfold rowP; simp
theorem rawP_len (l : List Int) (each : Int) : (rawP l each).length = l.length * each.toNat := by
  induction l with
  | nil => simp [rawP]
  | cons x l ih =>
    have e : rawP (x :: l) each = rowP x each.toNat ++ rawP l each := by unfold rawP; simp
    rw [e, List.length_append, ih, rowP_len, List.length_cons, Nat.add_mul]
    omega
end Go.Proofs.Yteocngcojijnkaa.Hs
namespace Go.Proofs.Yteocngcojijnkaa.Hs
open Go.ChangeShapes Go.WideShapes Go.ChangeAt Go.RowKit Go.Proofs.Yteocngcojijnkaa.QH Go.Proofs.Yteocngcojijnkaa.Lex
open Go.Proofs.YteocngcojijnkaaW.PrintWords Go.Proofs.YteocngcojijnkaaW.PrintLast Go.Proofs.YteocngcojijnkaaW.PrintMore
set_option linter.unusedVariables false
set_option linter.unusedSimpArgs false
abbrev TR : TypeId := 42
/-- the points of a ring -/
def ptsP (l : List Int) (each : Int) : List S70 := compP (sortP (rawP l each))
def ring_Points.f (l : List Int) (each keep : Int) : Option (List S70 × Int) := some (if okB l each keep = true then (ptsP l each, 0) else ([], 2))
theorem grown_below {w w1 w2 : World} {B g : Nat} (h : Below B w w1) (hB : B ≤ w1.heap.size) (hg : w1.grownBy w2 (some g)) (hb : B ≤ g) : Below B w w2 :=
  pw_below_grown h (some g) hB hg (by intro k hk; injection hk with hk; omega)
theorem okB_len {l : List Int} {each keep : Int} (h : okB l each keep = true) : 0 < l.length ∧ l.length ≤ 64 ∧ 1 ≤ each ∧ each ≤ 64 ∧ 1 ≤ keep ∧ keep ≤ (l.length : Int) ∧ risesB (-1) l = true := by
  unfold okB at h
  simp only [Bool.and_eq_true, decide_eq_true_eq] at h
  exact ⟨h.1, h.2.1, h.2.2.2.1, h.2.2.2.2.1, h.2.2.2.2.2.1, h.2.2.2.2.2.2, h.2.2.1⟩
set_option maxHeartbeats 4000000 in
set_option maxRecDepth 100000 in
theorem points_no (A : Option Addr) (c : Nat) (l : List Int) (each keep : Int) (w : World) (hr : Kd.C (Kd.int .i64) w A l.length l) (hc : l.length ≤ c) (ho : okB l each keep = false) :
    Calls Try.prog 43 #[.agg #[.slice A l.length c, .int .i64 each, .int .i64 keep]] w fun e w' => ∃ v0_ : Value, e = .returned (.tuple #[v0_, .int .i64 2]) ∧ Kd.R k70 TP w' w.heap.size (fun _ => True) v0_ [] ∧ Below w.heap.size w w' := by
  have hu := Try.underlying42
  have HR := Aside0.mk (Kd.C_alloc hr (.cells #[.slice A l.length c, .int .i64 each, .int .i64 keep] TR))
  have HB := Aside0.mk (below_alloc (Below.refl w.heap.size w) (.cells #[.slice A l.length c, .int .i64 each, .int .i64 keep] TR))
  obtain ⟨K, hK⟩ := check_ev l each keep hr.2.1
  have hk := hK K (Nat.le_refl K)
  unfold chk at hk
  rw [ho, if_neg (by decide)] at hk
  have HK := Aside0.mk hk
  clear hr hK hk ho
  go_enter Try.func43, Try.ntmps43
  go_wp2_with fail
  (with_reducible refine (ring_Check.calls K A c l each keep 2 _ HR.out hc HK.out).mono ?_)
  rintro e w1 ⟨rfl, hb⟩
  have HB1 := Aside0.mk (below_then HB.out HB.out.size hb)
  clear hb
  go_wp2_with fail
  go_ret2
  exact ⟨_, rfl, Kd.R_nil _ _ _ _ _, HB1.out⟩
set_option maxHeartbeats 4000000 in
set_option maxRecDepth 100000 in
theorem points_yes (A : Option Addr) (c : Nat) (l : List Int) (each keep : Int) (w : World) (hr : Kd.C (Kd.int .i64) w A l.length l) (hc : l.length ≤ c) (ho : okB l each keep = true) :
    Calls Try.prog 43 #[.agg #[.slice A l.length c, .int .i64 each, .int .i64 keep]] w fun e w' => ∃ v0_ : Value, e = .returned (.tuple #[v0_, .int .i64 0]) ∧ Kd.R k70 TP w' w.heap.size (fun _ => True) v0_ (ptsP l each) ∧ Below w.heap.size w w' := by
  have hu := Try.underlying42
  obtain ⟨k0, k1, k2, k3, k4, k5, _⟩ := okB_len ho
  obtain ⟨K, hK⟩ := check_ev l each keep hr.2.1
  have hk := hK K (Nat.le_refl K)
  unfold chk at hk
  rw [ho, if_pos rfl] at hk
  have HK := Aside0.mk hk
  clear hK hk ho
  have HR := Aside0.mk hr
  have HRa := Aside0.mk (Kd.C_alloc hr (.cells #[.slice A l.length c, .int .i64 each, .int .i64 keep] TR))
  have HB := Aside0.mk (below_alloc (Below.refl w.heap.size w) (.cells #[.slice A l.length c, .int .i64 each, .int .i64 keep] TR))
  have BK := Aside0.mk (blk_new w (.cells #[.slice A l.length c, .int .i64 each, .int .i64 keep] TR))
  clear hr
  go_enter Try.func43, Try.ntmps43
  go_wp2_with fail
  (with_reducible refine (ring_Check.calls K A c l each keep 0 _ HRa.out hc HK.out).mono ?_)
  rintro e w1 ⟨rfl, hb⟩
  have HB1 := Aside0.mk (below_then HB.out HB.out.size hb)
  have BK1 := Aside0.mk (blk_below BK.out hb)
  have b0 : w1.cell? ⟨w.heap.size, 0, none⟩ = some (.slice A l.length c) := (blk_cell BK1.out 0).trans rfl
  clear hb
  go_wp2_with fail
  clear b0
  go_loopg [5, 17] l.length (fun q vo vk w' => ∃ (k d : Nat) (B : Option Addr) (acc : List S70), vo = .slice B acc.length d ∧ vk = .int .i64 k ∧ k ≤ l.length ∧ q = l.length - k ∧ Aside0 (acc = rawP (l.take k) each) ∧ Aside0 (Kd.R k70 TP w' w.heap.size (fun _ => True) (.slice B acc.length d) acc) ∧ Aside0 (Below w.heap.size w w') ∧ Aside0 (w'.heap[w.heap.size]? = some (.cells #[.slice A l.length c, .int .i64 each, .int .i64 keep] TR (0, 0))))
  case atStart => exact ⟨0, 0, none, [], rfl, rfl, Nat.zero_le _, rfl, ⟨rfl⟩, ⟨Kd.R_nil _ _ _ _ _⟩, HB1, BK1⟩
  case round =>
    obtain ⟨k, d, B, acc, rfl, rfl, hk, rfl, HA, HO, HB2, BK2⟩ := hrel
    clear HB HB1 BK BK1
    have hal : acc.length = k * each.toNat := by rw [HA.out, rawP_len, List.length_take, Nat.min_eq_left hk]
    have hb64 : k * each.toNat ≤ 64 * 64 := Nat.mul_le_mul (by omega) (by omega)
    by_cases hlt : k < l.length
    · have t1 : decide ((k : Int) < (l.length : Int)) = true := decide_eq_true (by omega)
      obtain ⟨b, off, hA, hcl⟩ := Hlp.C_block (Kd.C_below HR.out HB2.out) (by omega)
      have hcell := hcl k hlt
      subst hA
      obtain ⟨x, hx⟩ : ∃ x, l[k] = x := ⟨_, rfl⟩
      rw [hx] at hcell
      have HX := Aside0.mk hx
      have b1 : wr.cell? ⟨w.heap.size, 1, none⟩ = some (.int .i64 each) := (blk_cell BK2.out 1).trans rfl
      have i1 : (k : Int) < (l.length : Int) := by omega
      have HAL := Aside0.mk (And.intro hal hb64)
      clear hx hcl hal hb64
      go_wp2_with fail
      clear hcell b1
      go_loopg [5, 23] each.toNat (fun q vo vk w' => ∃ (j d : Nat) (B : Option Addr) (acc2 : List S70), vo = .slice B acc2.length d ∧ vk = .int .i64 j ∧ (j : Int) ≤ each ∧ q = each.toNat - j ∧ Aside0 (acc2 = acc ++ rowP x j) ∧ Aside0 (Kd.R k70 TP w' w.heap.size (fun _ => True) (.slice B acc2.length d) acc2) ∧ Aside0 (Below w.heap.size w w') ∧ Aside0 (w'.heap[w.heap.size]? = some (.cells #[.slice (some ⟨b, off, none⟩) l.length c, .int .i64 each, .int .i64 keep] TR (0, 0))))
      case atStart => exact ⟨0, d, B, acc, rfl, rfl, by omega, rfl, ⟨by simp [rowP]⟩, HO, HB2, BK2⟩
      case round =>
        obtain ⟨j, d2, B2, acc2, rfl, rfl, hj, rfl, HA2, HO2, HB3, BK3⟩ := hrel
        clear HO HB2 BK2
        have hal2 : acc2.length = acc.length + j := by rw [HA2.out, List.length_append, rowP_len]
        have hle : (acc2.length + 1) * 16 ≤ 140737488355328 := by have := HAL.out; omega
        by_cases hjl : (j : Int) < each
        · have t2 : decide ((j : Int) < each) = true := decide_eq_true hjl
          obtain ⟨acc3, hacc3⟩ : ∃ a, a = acc2 ++ [(⟨ptH x (j : Int), x⟩ : S70)] := ⟨_, rfl⟩
          have HA3 := Aside0.mk hacc3
          obtain ⟨p, hp⟩ : ∃ p, ptH x (j : Int) = p := ⟨_, rfl⟩
          have HPt : Aside0 (∀ W, Calls Try.prog 50 #[.int .i64 x, .int .i64 j] W fun e w' => e = .returned (.int .u64 p) ∧ Below W.heap.size W w') := ⟨fun W => QP.hash_Point.calls 9 x (j : Int) p W (by rw [pt_f, hp])⟩
          have HPe := Aside0.mk hp
          rw [hp] at HA3
          clear hacc3 hp hal2
          go_wp2_with fail
          (with_reducible refine (HPt.out _).mono ?_)
          rintro e w2 ⟨rfl, hb⟩
          have HB4 := Aside0.mk (below_then HB3.out HB3.out.size hb)
          have BK4 := Aside0.mk (blk_below BK3.out hb)
          have HO4 := Aside0.mk (Kd.R_below HO2.out hb)
          clear hb
          go_wp2_with ((with_reducible refine gate_builtin (b := .append) (xs := #[.tmp 26, .tmp 32]) rfl ?_); at_builtin; refine Kd.R_append k70 (w0 := w) w.heap.size rfl (.tmp 26) (.tmp 32) 65 TP (.agg #[(.int .u64 0), (.int .i64 0)]) 16 rfl Try.underlying65 info70 rfl (by decide) (by omega) (.slice B2 acc2.length d2) acc2 (⟨p, x⟩ : S70) [.int .u64 p, .int .i64 x] (fun _ => True) (fun _ => False) rfl rfl (k70_mkM _ _ _ (⟨p, x⟩ : S70)) (fun _ hk => hk.elim) (fun _ _ => trivial) HO4.out HB4.out HB4.out.size hle ?_; intro v3 w3 ho hb hg hat; rw [← HA3.out] at ho; have BK5 := Aside0.mk (blk_grown BK4.out hg (Kd.R_ne HO4.out BK4.out (by decide))); obtain ⟨B5, d5, hv5, hd5, _⟩ := Kd.R_reads ho; subst hv5; have HO5 := Aside0.mk ho; have HB5 := Aside0.mk hb; clear ho hb hg hat)
          go_roundg (each.toNat - (j + 1))
          case measure => omega
          case rel => exact ⟨j + 1, d5, B5, acc3, rfl, by go_num, by omega, rfl, ⟨by rw [HA3.out, HA2.out, rowP_succ, List.append_assoc, HPe.out]⟩, HO5, HB5, BK5⟩
        · obtain rfl : j = each.toNat := by omega
          have t2 : decide (((each.toNat : Nat) : Int) < each) = false := decide_eq_false (by omega)
          have HA4 : Aside0 (acc2 = rawP (l.take (k + 1)) each) := ⟨by rw [HA2.out, HA.out, List.take_succ_eq_append_getElem hlt, rawP_snoc, HX.out]⟩
          clear hal2 hle
          go_wp2_with fail
          go_roundg (l.length - (k + 1))
          case measure => omega
          case rel => exact ⟨k + 1, d2, B2, acc2, rfl, by go_num, hlt, rfl, HA4, HO2, HB3, BK3⟩
    · obtain rfl : k = l.length := by omega
      have t1 : decide ((l.length : Int) < (l.length : Int)) = false := decide_eq_false (by omega)
      rw [List.take_length] at HA
      have hpos : 0 < acc.length := by
        rw [hal]
        exact Nat.mul_pos k0 (by omega)
      obtain ⟨g, cap, hv, hg, _, hPB⟩ := PB.of_R HO.out hpos
      injection hv with hv1 _ hv3
      subst hv1
      subst hv3
      have HPB := Aside0.mk hPB
      have HG := Aside0.mk hg
      have hal2 : acc.length ≤ 4096 := by omega
      clear hPB hg hal hb64 hpos
      go_wp2_with fail
      (with_reducible refine (sort_ HPB.out (by omega)).mono ?_)
      rintro e w3 ⟨rfl, hp3, hg3⟩
      have HP3 := Aside0.mk hp3
      have HB3 := Aside0.mk (grown_below HB2.out HB2.out.size hg3 HG.out)
      have HL3 := Aside0.mk (sortP_len acc)
      have HS3 : Aside0 (∀ W, PB W g d (sortP acc) → Calls Try.prog 53 #[.slice (some ⟨g, 0, none⟩) acc.length d] W fun e w' => ∃ l' : List S70, e = .returned (.slice (some ⟨g, 0, none⟩) l'.length d) ∧ l' = compP (sortP acc) ∧ PB w' g d l' ∧ W.grownBy w' (some g)) := ⟨fun W hW => by
        have := compact_ hW (by rw [sortP_len]; omega)
        rwa [sortP_len] at this⟩
      clear hp3 hg3
      go_wp2_with fail
      (with_reducible refine (HS3.out _ HP3.out).mono ?_)
      rintro e w4 ⟨l', rfl, hl', hp4, hg4⟩
      have HP4 := Aside0.mk hp4
      have HL4 := Aside0.mk hl'
      have HB4 := Aside0.mk (grown_below HB3.out HB3.out.size hg4 HG.out)
      clear hl' hp4 hg4
      go_wp2_with fail
      go_ret2
      have he : l' = ptsP l each := by rw [HL4.out, HA.out]; rfl
      refine ⟨_, rfl, ?_, HB4.out⟩
      rw [← he]
      exact HP4.out.R HG.out trivial
theorem ring_Points.calls (A : Option Addr) (c : Nat) (l : List Int) (each keep : Int) (r1 : List S70) (r2 : Int) (w : World) (hr : Kd.C (Kd.int .i64) w A l.length l) (hc : l.length ≤ c) (hf : ring_Points.f l each keep = some (r1, r2)) :
    Calls Try.prog 43 #[.agg #[.slice A l.length c, .int .i64 each, .int .i64 keep]] w fun e w' => ∃ v0_ : Value, e = .returned (.tuple #[v0_, .int .i64 r2]) ∧ Kd.R k70 TP w' w.heap.size (fun _ => True) v0_ r1 ∧ Below w.heap.size w w' := by
  unfold ring_Points.f at hf
  have hf := Option.some.inj hf
  cases ho : okB l each keep
  · rw [ho, if_neg (by decide)] at hf
    injection hf with h1 h2
    subst h1; subst h2
    exact points_no A c l each keep w hr hc ho
  · rw [ho, if_pos rfl] at hf
    injection hf with h1 h2
    subst h1; subst h2
    exact points_yes A c l each keep w hr hc ho
end Go.Proofs.Yteocngcojijnkaa.Hs
namespace Go.Proofs.Yteocngcojijnkaa.Hs
open Go.ChangeShapes Go.WideShapes Go.ChangeAt Go.RowKit Go.Proofs.Yteocngcojijnkaa.QH Go.Proofs.Yteocngcojijnkaa.Lex
open Go.Proofs.YteocngcojijnkaaW.PrintWords Go.Proofs.YteocngcojijnkaaW.PrintLast Go.Proofs.YteocngcojijnkaaW.PrintMore
set_option linter.unusedVariables false
set_option linter.unusedSimpArgs false
theorem w_succ (i : Nat) (h : i < 9223372036854775807) : wrap64 ((i : Int) + 1) = ((i + 1 : Nat) : Int) := by unfold wrap64; omega
theorem index_l0 (l : List Int) (x : Int) (hl : l.length ≤ 9223372036854775807) : ∀ (n i : Nat), l.length - i = n → i ≤ l.length →
    ∃ r, Since (fun k => slices_Index_int_int.l0 k l x (l.length : Int) (i : Int)) r ∧ (r ≥ 0 ↔ x ∈ l.drop i) := by
  intro n
  induction n with
  | zero =>
    intro i hn hi
    have hf : ¬ ((i : Int) < (l.length : Int)) := by omega
    exact ⟨-1, Since.none fun k => by simp only [slices_Index_int_int.l0, if_neg hf], by rw [List.drop_eq_nil_of_le (by omega)]; simp⟩
  | succ n ih =>
    intro i hn hi
    have h1 : i < l.length := by omega
    have f1 : (i : Int) < (l.length : Int) := by omega
    have f0 : (0 : Int) ≤ (i : Int) := by omega
    have r1 : rd l (i : Int) = l[i] := by simp [rd, h1]
    obtain ⟨r, hr, hm⟩ := ih (i + 1) (by omega) (by omega)
    have d := List.drop_eq_getElem_cons h1
    by_cases he : x = l[i]
    · exact ⟨i, Since.none fun k => by simp only [slices_Index_int_int.l0, if_pos f1, if_pos f0, r1, if_pos he], by rw [d, ← he]; simp⟩
    · refine ⟨r, Since.one hr fun k h => ?_, by rw [hm, d, List.mem_cons]; simp [he]⟩
      simp only [slices_Index_int_int.l0, if_pos f1, if_pos f0, r1, if_neg he, w_succ i (by omega)]
      exact h
theorem contains_ev (l : List Int) (x : Int) (hl : l.length ≤ 9223372036854775807) : Since (fun k => slices_Contains_int_int.f k l x) (decide (x ∈ l)) := by
  obtain ⟨r, hr, hm⟩ := index_l0 l x hl _ 0 rfl (Nat.zero_le _)
  rw [List.drop_zero] at hm
  refine hr.map fun k h => ?_
  simp only [slices_Contains_int_int.f, slices_Index_int_int.f]
  rw [show slices_Index_int_int.l0 k l x (l.length : Int) 0 = some r from h, Option.bind_some]
  congr 1
  exact decide_eq_decide.2 hm
/-- the walk of meet: those found, those to come -/
def meetS (keep : Int) : List Int → List Int → List Int
  | acc, [] => acc
  | acc, x :: l => if x ∈ acc then meetS keep acc l else if (acc.length : Int) + 1 = keep then acc ++ [x] else meetS keep (acc ++ [x]) l
def rotL (l : List S70) (i : Nat) : List Int := (l.drop i ++ l.take i).map S70.f1
theorem rotL_len (l : List S70) (i : Nat) (hi : i ≤ l.length) : (rotL l i).length = l.length := by unfold rotL; rw [List.length_map, List.length_append, List.length_drop, List.length_take]; omega
theorem rotL_at (l : List S70) (i k : Nat) (hi : i < l.length) (hk : k < l.length) : (rotL l i)[k]'(by rw [rotL_len l i (by omega)]; exact hk) = (l[(i + k) % l.length]'(Nat.mod_lt _ (by omega))).f1 := by
  unfold rotL
  rw [List.getElem_map]
  congr 1
  by_cases h : k < l.length - i
  · rw [List.getElem_append_left (by rw [List.length_drop]; exact h), List.getElem_drop]
    congr 1
    exact (Nat.mod_eq_of_lt (by omega)).symm
  · rw [List.getElem_append_right (by rw [List.length_drop]; omega), List.getElem_take]
    congr 1
    rw [List.length_drop, show i + k = (k - (l.length - i)) + l.length from by omega, Nat.add_mod_right, Nat.mod_eq_of_lt (by omega)]
def ring_meet.f (l : List S70) (at_ keep : Int) : Option (List Int) := if 0 ≤ at_ ∧ at_ < (l.length : Int) ∧ l.length ≤ 17592186044000 then some (meetS keep [] (rotL l at_.toNat)) else none
set_option maxHeartbeats 4000000 in
set_option maxRecDepth 100000 in
theorem meet_ (A : Option Addr) (c : Nat) (l : List S70) (i : Nat) (keep : Int) (w : World) (hr : Kd.C k70 w A l.length l) (hc : l.length ≤ c) (hi : i < l.length) (hm : l.length ≤ 17592186044000) :
    Calls Try.prog 44 #[.slice A l.length c, .int .i64 i, .int .i64 keep] w fun e w' => ∃ v, e = .returned v ∧ Kd.R (Kd.int .i64) 3 w' w.heap.size (fun _ => True) v (meetS keep [] (rotL l i)) ∧ Below w.heap.size w w' := by
  have HR := Aside0.mk hr
  have HC := Aside0.mk hc
  have HL := Aside0.mk (rotL_len l i (by omega))
  clear hr hc
  go_enter Try.func44, Try.ntmps44
  go_wp2
  go_step3
  go_wp2
  go_step3
  go_wp2
  go_loopg [7, 12] l.length (fun q vo vk w' => ∃ (acc : List Int) (k d : Nat) (B : Option Addr), vo = .slice B acc.length d ∧ vk = .int .i64 k ∧ k ≤ l.length ∧ q = l.length - k ∧ acc.length ≤ k ∧ acc.length ≤ d ∧ Aside0 (meetS keep [] (rotL l i) = meetS keep acc ((rotL l i).drop k)) ∧ Aside0 (Kd.R (Kd.int .i64) 3 w' w.heap.size (fun _ => True) (.slice B acc.length d) acc) ∧ Aside0 (Below w.heap.size w w'))
  case atStart => exact ⟨[], 0, 0, none, rfl, rfl, Nat.zero_le _, rfl, Nat.le_refl _, Nat.le_refl _, ⟨rfl⟩, ⟨Kd.R_nil _ _ _ _ _⟩, ⟨Below.refl _ _⟩⟩
  case round =>
    obtain ⟨acc, k, d, B, rfl, rfl, hk, rfl, hak, hd, HS, HO, HB⟩ := hrel
    by_cases hlt : k < l.length
    · have t1 : decide ((k : Int) < (l.length : Int)) = true := decide_eq_true (by omega)
      have t2 : (0 : Int) < (l.length : Int) := by omega
      have t3 : 0 ≤ ((i : Int) + (k : Int)) % (l.length : Int) := Int.emod_nonneg _ (by omega)
      have t4 : ((i : Int) + (k : Int)) % (l.length : Int) < (l.length : Int) := Int.emod_lt_of_pos _ (by omega)
      obtain ⟨b, off, hA, hc1, hc2⟩ := C_pt (Kd.C_below HR.out HB.out) ((i + k) % l.length) (Nat.mod_lt _ (by omega))
      subst hA
      have hx0 := rotL_at l i k hi hlt
      have hdr : (rotL l i).drop k = (l[(i + k) % l.length]'(Nat.mod_lt _ (by omega))).f1 :: (rotL l i).drop (k + 1) := by
        rw [List.drop_eq_getElem_cons (by rw [HL.out]; exact hlt), hx0]
      obtain ⟨x, hx⟩ : ∃ x, (l[(i + k) % l.length]'(Nat.mod_lt _ (by omega))).f1 = x := ⟨_, rfl⟩
      rw [hx] at hc2 hdr
      have HDr := Aside0.mk hdr
      obtain ⟨K, hK⟩ := contains_ev acc x (by omega)
      have HK := Aside0.mk (hK K (Nat.le_refl K))
      clear hx hx0 hdr hc1 hK
      go_wp2_with fail
      (with_reducible refine (slices_Contains_int_int.calls K B d acc x _ _ (Kd.R_reads' HO.out).2.2 hd HK.out).mono ?_)
      rintro e w1 ⟨rfl, hdw⟩
      have HO := Aside0.mk (Kd.R_below HO.out hdw.below)
      have HB := Aside0.mk (below_then HB.out HB.out.size hdw.below)
      clear hdw hc2
      by_cases hin : x ∈ acc
      · have hdec : decide (x ∈ acc) = true := decide_eq_true hin
        have HS1 : Aside0 (meetS keep [] (rotL l i) = meetS keep acc ((rotL l i).drop (k + 1))) := ⟨by rw [HS.out, HDr.out]; unfold meetS; rw [if_pos hin]; cases (rotL l i).drop (k + 1) <;> rfl⟩
        rw [hdec]
        clear hdec hin
        go_wp2_with fail
        go_roundg (l.length - (k + 1))
        case measure => omega
        case rel => exact ⟨acc, k + 1, d, B, rfl, by go_num, hlt, rfl, by omega, hd, HS1, HO, HB⟩
      · have hdec : decide (x ∈ acc) = false := decide_eq_false hin
        rw [hdec]
        have hle : (acc.length + 1) * 8 ≤ 140737488355328 := by omega
        obtain ⟨acc1, hacc1⟩ : ∃ a, a = acc ++ [x] := ⟨_, rfl⟩
        have HA := Aside0.mk hacc1
        have hl1 : acc1.length = acc.length + 1 := by rw [hacc1, List.length_append]; rfl
        have HL1 := Aside0.mk hl1
        have HIN := Aside0.mk hin
        clear hdec hin hacc1 hl1
        go_wp2_with ((with_reducible refine gate_builtin (b := .append) (xs := #[.tmp 28, .tmp 30]) rfl ?_); at_builtin; refine Kd.R_append (Kd.int .i64) (w0 := w) w.heap.size rfl (.tmp 28) (.tmp 30) 22 3 (.int .i64 0) 8 rfl Try.underlying22 info3 rfl (by decide) (by omega) (.slice B acc.length d) acc x [.int .i64 x] (fun _ => True) (fun _ => False) rfl rfl rfl (fun _ hk => hk.elim) (fun _ _ => trivial) HO.out HB.out HB.out.size hle ?_; intro v2 w2 ho hb hg hat; rw [← HA.out] at ho; obtain ⟨B2, d2, hv2, hd2, _⟩ := Kd.R_reads ho; subst hv2; have HO2 := Aside0.mk ho; have HB2 := Aside0.mk hb; clear ho hb hg hat)
        · have hkp : ((acc1.length : Int) == keep) = true := by assumption
          have hkq : (acc.length : Int) + 1 = keep := by have := eq_of_beq hkp; have := HL1.out; omega
          have hS : meetS keep [] (rotL l i) = acc1 := by rw [HS.out, HDr.out]; unfold meetS; rw [if_neg HIN.out, if_pos hkq, HA.out]
          have HSS := Aside0.mk hS
          clear hkp hkq hS
          rw [Exit.noGoto_ret]
          go_ret
          exact ⟨_, rfl, by rw [HSS.out]; exact HO2.out, HB2.out⟩
        · have hkp : ((acc1.length : Int) == keep) = false := by assumption
          have hkq : ¬ ((acc.length : Int) + 1 = keep) := by have := ne_of_beq_false hkp; have := HL1.out; omega
          have hS : meetS keep [] (rotL l i) = meetS keep acc1 ((rotL l i).drop (k + 1)) := by rw [HS.out, HDr.out]; unfold meetS; rw [if_neg HIN.out, if_neg hkq, HA.out]; cases (rotL l i).drop (k + 1) <;> rfl
          have HSS := Aside0.mk hS
          have hl1 := HL1.out
          clear hkp hkq hS
          go_roundg (l.length - (k + 1))
          case measure => omega
          case rel => exact ⟨acc1, k + 1, d2, B2, rfl, by go_num, hlt, rfl, by omega, hd2, HSS, HO2, HB2⟩
    · obtain rfl : k = l.length := by omega
      have t1 : decide ((l.length : Int) < (l.length : Int)) = false := decide_eq_false (by omega)
      rw [List.drop_eq_nil_of_le (by rw [HL.out]; exact Nat.le_refl _)] at HS
      go_wp2_with fail
      rw [Exit.noGoto_ret]
      go_ret
      exact ⟨_, rfl, by rw [HS.out]; exact HO.out, HB.out⟩
theorem ring_meet.calls (A : Option Addr) (c : Nat) (l : List S70) (at_ keep : Int) (r : List Int) (w : World) (hr : Kd.C k70 w A l.length l) (hc : l.length ≤ c) (hf : ring_meet.f l at_ keep = some r) :
    Calls Try.prog 44 #[.slice A l.length c, .int .i64 at_, .int .i64 keep] w fun e w' => ∃ v0_ : Value, e = .returned (v0_) ∧ Kd.R (Kd.int .i64) 3 w' w.heap.size (fun _ => True) v0_ r ∧ Below w.heap.size w w' := by
  unfold ring_meet.f at hf
  split at hf
  · rename_i hh
    obtain ⟨h0, h1, hm⟩ := hh
    obtain ⟨i, rfl⟩ := Int.eq_ofNat_of_zero_le h0
    rw [← Option.some.inj hf]
    exact meet_ A c l i keep w hr hc (by omega) hm
  · cases hf
end Go.Proofs.Yteocngcojijnkaa.Hs
namespace Go.Proofs.Yteocngcojijnkaa.Rg
/-- a point: the word at which it stands, its node -/
abbrev Pt := Int × Int
def lt2 (p q : Pt) : Prop := p.1 < q.1 ∨ p.1 = q.1 ∧ p.2 < q.2
theorem lt2_irrefl (p : Pt) : ¬ lt2 p p := fun h => by
  rcases h with h | ⟨_, h⟩ <;> omega
theorem lt2_trans {p q r : Pt} (h : lt2 p q) (k : lt2 q r) : lt2 p r := by
  unfold lt2 at *
  omega
theorem lt2_asymm {p q : Pt} (h : lt2 p q) : ¬ lt2 q p := fun k => lt2_irrefl p (lt2_trans h k)
theorem lt2_total (p q : Pt) : lt2 p q ∨ p = q ∨ lt2 q p := by
  obtain ⟨a, b⟩ := p
  obtain ⟨c, d⟩ := q
  unfold lt2
  simp only [Prod.mk.injEq]
  omega
/-- rising, each once -/
def Srt (l : List Pt) : Prop := l.Pairwise lt2
theorem Srt.filter {l : List Pt} (h : Srt l) (p : Pt → Bool) : Srt (l.filter p) := List.Pairwise.filter p h
/-- two rising rows of the same points are one -/
theorem srt_unique : ∀ {l m : List Pt}, Srt l → Srt m → (∀ x, x ∈ l ↔ x ∈ m) → l = m
  | [], [], _, _, _ => rfl
  | [], y :: m, _, _, h => absurd ((h y).2 List.mem_cons_self) (by simp)
  | x :: l, [], _, _, h => absurd ((h x).1 List.mem_cons_self) (by simp)
  | x :: l, y :: m, hl, hm, h => by
    obtain ⟨h1, h2⟩ := List.pairwise_cons.1 hl
    obtain ⟨k1, k2⟩ := List.pairwise_cons.1 hm
    have hxy : x = y := by
      rcases List.mem_cons.1 ((h x).1 List.mem_cons_self) with e | e
      · exact e
      · rcases List.mem_cons.1 ((h y).2 List.mem_cons_self) with e' | e'
        · exact e'.symm
        · exact absurd (k1 x e) (lt2_asymm (h1 y e'))
    subst hxy
    rw [srt_unique h2 k2 (fun z => ?_)]
    constructor
    · intro hz
      rcases List.mem_cons.1 ((h z).1 (List.mem_cons_of_mem _ hz)) with e | e
      · subst e; exact absurd (h1 z hz) (lt2_irrefl z)
      · exact e
    · intro hz
      rcases List.mem_cons.1 ((h z).2 (List.mem_cons_of_mem _ hz)) with e | e
      · subst e; exact absurd (k1 z hz) (lt2_irrefl z)
      · exact e
/-- from a word on, and round -/
def rotH (l : List Pt) (h : Int) : List Pt := l.filter (fun p => decide (h ≤ p.1)) ++ l.filter (fun p => !decide (h ≤ p.1))
/-- each once, where it came first -/
def dd : List Int → List Int
  | [] => []
  | x :: l => x :: (dd l).filter (fun y => decide (y ≠ x))
theorem dd_mem : ∀ (l : List Int) (x : Int), x ∈ dd l ↔ x ∈ l
  | [], x => Iff.rfl
  | y :: l, x => by
    show x ∈ y :: (dd l).filter _ ↔ x ∈ y :: l
    simp only [List.mem_cons, List.mem_filter, decide_eq_true_iff, dd_mem l x]
    constructor
    · rintro (h | ⟨h, _⟩)
      · exact .inl h
      · exact .inr h
    · rintro (h | h)
      · exact .inl h
      · by_cases e : x = y
        · exact .inl e
        · exact .inr ⟨h, e⟩
theorem dd_nodup : ∀ l : List Int, (dd l).Nodup
  | [] => List.nodup_nil
  | x :: l => by
    show (x :: (dd l).filter _).Nodup
    rw [List.nodup_cons]
    exact ⟨fun h => by have := (List.mem_filter.1 h).2; simp at this, (dd_nodup l).filter _⟩
/-- the nodes in their order from a word on -/
def ord (l : List Pt) (h : Int) : List Int := dd ((rotH l h).map Prod.snd)
theorem dd_snoc : ∀ (l : List Int) (x : Int), dd (l ++ [x]) = if x ∈ l then dd l else dd l ++ [x]
  | [], x => by simp [dd]
  | y :: l, x => by
    show y :: (dd (l ++ [x])).filter _ = _
    rw [dd_snoc l x]
    by_cases h : x ∈ l
    · rw [if_pos h, if_pos (List.mem_cons_of_mem _ h)]; rfl
    · rw [if_neg h, List.filter_append]
      by_cases e : x = y
      · subst e
        have hf : [x].filter (fun y => decide (y ≠ x)) = [] := by simp
        rw [if_pos List.mem_cons_self, hf, List.append_nil]
        rfl
      · have hf : [x].filter (fun z => decide (z ≠ y)) = [x] := by simp [e]
        rw [if_neg (by simp [e, h]), hf]
        rfl
/-- of a rising row, those below a word stand ahead of the others -/
theorem srt_split (h : Int) : ∀ {l : List Pt}, Srt l → l.filter (fun p => !decide (h ≤ p.1)) ++ l.filter (fun p => decide (h ≤ p.1)) = l
  | [], _ => rfl
  | x :: l, hl => by
    obtain ⟨h1, h2⟩ := List.pairwise_cons.1 hl
    by_cases hx : h ≤ x.1
    · have hall : ∀ y ∈ l, h ≤ y.1 := fun y hy => by
        have := h1 y hy
        unfold lt2 at this
        omega
      have e1 : l.filter (fun p => !decide (h ≤ p.1)) = [] := List.filter_eq_nil_iff.2 (fun y hy => by simp [hall y hy])
      have e2 : l.filter (fun p => decide (h ≤ p.1)) = l := List.filter_eq_self.2 (fun y hy => by simp [hall y hy])
      rw [List.filter_cons_of_neg (by simp [hx]), List.filter_cons_of_pos (by simp [hx]), e1, e2]
      rfl
    · rw [List.filter_cons_of_pos (by simp [hx]), List.filter_cons_of_neg (by simp [hx]), List.cons_append, srt_split h h2]
/-- how many points stand below a word -/
def low (l : List Pt) (h : Int) : Nat := (l.filter (fun p => !decide (h ≤ p.1))).length
theorem rotH_at {l : List Pt} (hl : Srt l) (h : Int) : rotH l h = l.drop (low l h) ++ l.take (low l h) := by
  have e := srt_split h hl
  have hd : l.drop (low l h) = l.filter (fun p => decide (h ≤ p.1)) := by
    have : (l.filter (fun p => !decide (h ≤ p.1)) ++ l.filter (fun p => decide (h ≤ p.1))).drop (low l h) = l.filter (fun p => decide (h ≤ p.1)) := by unfold low; exact List.drop_left
    rwa [e] at this
  have ht : l.take (low l h) = l.filter (fun p => !decide (h ≤ p.1)) := by
    have : (l.filter (fun p => !decide (h ≤ p.1)) ++ l.filter (fun p => decide (h ≤ p.1))).take (low l h) = l.filter (fun p => !decide (h ≤ p.1)) := by unfold low; exact List.take_left
    rwa [e] at this
  unfold rotH
  rw [hd, ht]
theorem low_le (l : List Pt) (h : Int) : low l h ≤ l.length := List.length_filter_le _ _
/-- the place from which a word is kept, as the program reckons it -/
theorem rotH_mod {l : List Pt} (hl : Srt l) (h : Int) : rotH l h = l.drop (low l h % l.length) ++ l.take (low l h % l.length) := by
  rw [rotH_at hl]
  rcases Nat.lt_or_ge (low l h) l.length with hlt | hge
  · rw [Nat.mod_eq_of_lt hlt]
  · have : low l h = l.length := Nat.le_antisymm (low_le l h) hge
    rw [this, Nat.mod_self]
    simp
theorem dd_pre : ∀ (b a : List Int), ∃ t, dd (a ++ b) = dd a ++ t
  | [], a => ⟨[], by simp⟩
  | x :: b, a => by
    obtain ⟨t, ht⟩ := dd_pre b (a ++ [x])
    rw [List.append_assoc] at ht
    rw [dd_snoc] at ht
    by_cases h : x ∈ a
    · rw [if_pos h] at ht; exact ⟨t, ht⟩
    · rw [if_neg h, List.append_assoc] at ht; exact ⟨x :: t, ht⟩
/-- the walk of meet: those found, those to come -/
def meetS (keep : Nat) : List Int → List Int → List Int
  | acc, [] => acc
  | acc, x :: l => if x ∈ acc then meetS keep acc l else if acc.length + 1 = keep then acc ++ [x] else meetS keep (acc ++ [x]) l
theorem meetS_eq (keep : Nat) : ∀ (l pre : List Int), (dd pre).length < keep → meetS keep (dd pre) l = (dd (pre ++ l)).take keep
  | [], pre, h => by
    rw [List.append_nil]
    exact (List.take_of_length_le (Nat.le_of_lt h)).symm
  | x :: l, pre, h => by
    have e : pre ++ x :: l = (pre ++ [x]) ++ l := by simp
    unfold meetS
    by_cases hx : x ∈ pre
    · have hd : dd (pre ++ [x]) = dd pre := by rw [dd_snoc, if_pos hx]
      rw [if_pos ((dd_mem pre x).2 hx), e, ← meetS_eq keep l (pre ++ [x]) (by rw [hd]; exact h), hd]
    · have hd : dd (pre ++ [x]) = dd pre ++ [x] := by rw [dd_snoc, if_neg hx]
      rw [if_neg (fun h' => hx ((dd_mem pre x).1 h'))]
      by_cases hk : (dd pre).length + 1 = keep
      · obtain ⟨t, ht⟩ := dd_pre l (pre ++ [x])
        rw [if_pos hk, e, ht, hd, List.take_append_of_le_length (by rw [List.length_append]; simp; omega), List.take_of_length_le (by rw [List.length_append]; simp; omega)]
      · rw [if_neg hk, e, ← meetS_eq keep l (pre ++ [x]) (by rw [hd, List.length_append]; simp; omega), hd]
theorem meetS_all {keep : Nat} (hk : 0 < keep) (l : List Int) : meetS keep [] l = (dd l).take keep := meetS_eq keep l [] hk
/-- who keeps a word -/
def keepers (l : List Pt) (h : Int) (keep : Nat) : List Int := (ord l h).take keep
/-! the points of a ring -/
instance (p q : Pt) : Decidable (lt2 p q) := by unfold lt2; infer_instance
/-- laid at its place -/
def ins (p : Pt) : List Pt → List Pt
  | [] => [p]
  | x :: l => if lt2 x p then x :: ins p l else if x = p then x :: l else p :: x :: l
theorem ins_mem (p : Pt) : ∀ (l : List Pt) (y : Pt), y ∈ ins p l ↔ y = p ∨ y ∈ l
  | [], y => by simp [ins]
  | x :: l, y => by
    unfold ins
    by_cases h : lt2 x p
    · rw [if_pos h, List.mem_cons, ins_mem p l y, List.mem_cons]
      constructor
      · rintro (h | h | h)
        · exact .inr (.inl h)
        · exact .inl h
        · exact .inr (.inr h)
      · rintro (h | h | h)
        · exact .inr (.inl h)
        · exact .inl h
        · exact .inr (.inr h)
    · rw [if_neg h]
      by_cases e : x = p
      · rw [if_pos e]
        constructor
        · exact .inr
        · rintro (h | h)
          · rw [h, ← e]; exact List.mem_cons_self
          · exact h
      · rw [if_neg e, List.mem_cons]
theorem ins_srt (p : Pt) : ∀ {l : List Pt}, Srt l → Srt (ins p l)
  | [], _ => List.pairwise_singleton _ _
  | x :: l, h => by
    obtain ⟨h1, h2⟩ := List.pairwise_cons.1 h
    unfold ins
    by_cases hx : lt2 x p
    · rw [if_pos hx]
      refine List.pairwise_cons.2 ⟨fun y hy => ?_, ins_srt p h2⟩
      rcases (ins_mem p l y).1 hy with rfl | hy
      · exact hx
      · exact h1 y hy
    · rw [if_neg hx]
      by_cases e : x = p
      · rw [if_pos e]; exact h
      · rw [if_neg e]
        have hp : lt2 p x := by
          rcases lt2_total x p with h | h | h
          · exact absurd h hx
          · exact absurd h e
          · exact h
        refine List.pairwise_cons.2 ⟨fun y hy => ?_, h⟩
        rcases List.mem_cons.1 hy with rfl | hy
        · exact hp
        · exact lt2_trans hp (h1 y hy)
def pts (raw : List Pt) : List Pt := raw.foldl (fun acc p => ins p acc) []
theorem fold_ins : ∀ (raw acc : List Pt), Srt acc → Srt (raw.foldl (fun acc p => ins p acc) acc) ∧ ∀ y, y ∈ raw.foldl (fun acc p => ins p acc) acc ↔ y ∈ raw ∨ y ∈ acc
  | [], acc, h => ⟨h, fun y => by simp⟩
  | x :: raw, acc, h => by
    obtain ⟨h1, h2⟩ := fold_ins raw (ins x acc) (ins_srt x h)
    refine ⟨h1, fun y => (h2 y).trans ?_⟩
    rw [ins_mem, List.mem_cons]
    constructor
    · rintro (h | h | h)
      · exact .inl (.inr h)
      · exact .inl (.inl h)
      · exact .inr h
    · rintro ((h | h) | h)
      · exact .inr (.inl h)
      · exact .inl h
      · exact .inr (.inr h)
theorem pts_srt (raw : List Pt) : Srt (pts raw) := (fold_ins raw [] List.Pairwise.nil).1
theorem pts_mem (raw : List Pt) (y : Pt) : y ∈ pts raw ↔ y ∈ raw := ((fold_ins raw [] List.Pairwise.nil).2 y).trans (by simp)
/-- neighbours that are one struck, as slices.Compact does -/
def comp : List Pt → List Pt
  | [] => []
  | [x] => [x]
  | x :: y :: l => if x = y then comp (y :: l) else x :: comp (y :: l)
theorem comp_mem : ∀ (l : List Pt) (z : Pt), z ∈ comp l ↔ z ∈ l
  | [], z => Iff.rfl
  | [x], z => Iff.rfl
  | x :: y :: l, z => by
    unfold comp
    by_cases h : x = y
    · subst h
      rw [if_pos rfl, comp_mem (x :: l) z]
      simp
    · rw [if_neg h, List.mem_cons, comp_mem (y :: l) z, List.mem_cons (a := z) (b := x)]
def le2 (p q : Pt) : Prop := p = q ∨ lt2 p q
theorem comp_srt : ∀ {l : List Pt}, l.Pairwise le2 → Srt (comp l)
  | [], _ => List.Pairwise.nil
  | [x], _ => List.pairwise_singleton _ _
  | x :: y :: l, h => by
    obtain ⟨h1, h2⟩ := List.pairwise_cons.1 h
    unfold comp
    by_cases e : x = y
    · rw [if_pos e]; exact comp_srt h2
    · rw [if_neg e]
      refine List.pairwise_cons.2 ⟨fun z hz => ?_, comp_srt h2⟩
      have hxy : lt2 x y := (h1 y List.mem_cons_self).resolve_left e
      rcases List.mem_cons.1 ((comp_mem (y :: l) z).1 hz) with rfl | hz
      · exact hxy
      · rcases (List.pairwise_cons.1 h2).1 z hz with rfl | h3
        · exact hxy
        · exact lt2_trans hxy h3
/-- sorted, and doubles struck: the points -/
theorem comp_pts {raw l : List Pt} (hs : l.Pairwise le2) (hm : ∀ x, x ∈ l ↔ x ∈ raw) : comp l = pts raw :=
  srt_unique (comp_srt hs) (pts_srt raw) (fun x => ((comp_mem l x).trans (hm x)).trans (pts_mem raw x).symm)
end Go.Proofs.Yteocngcojijnkaa.Rg
namespace Go.Proofs.Yteocngcojijnkaa.Hs
open Go.RowKit Go.Proofs.Yteocngcojijnkaa.QH Go.Proofs.Yteocngcojijnkaa.Lex Go.Proofs.Yteocngcojijnkaa.Rg
open Go.Proofs.YteocngcojijnkaaW.PrintWords Go.Proofs.YteocngcojijnkaaW.PrintLast Go.Proofs.YteocngcojijnkaaW.PrintMore
set_option linter.unusedVariables false
set_option linter.unusedSimpArgs false
def toPt (p : S70) : Pt := (p.f0, p.f1)
theorem toPt_inj {p q : S70} (h : toPt p = toPt q) : p = q := by
  obtain ⟨a, b⟩ := p
  obtain ⟨c, d⟩ := q
  unfold toPt at h
  injection h with h1 h2
  simp only at h1 h2
  rw [h1, h2]
theorem compP_map : ∀ l : List S70, (compP l).map toPt = comp (l.map toPt)
  | [] => rfl
  | [x] => rfl
  | x :: y :: l => by
    have ih := compP_map (y :: l)
    show (if x = y then compP (y :: l) else x :: compP (y :: l)).map toPt = if toPt x = toPt y then comp ((y :: l).map toPt) else toPt x :: comp ((y :: l).map toPt)
    by_cases h : x = y
    · rw [if_pos h, if_pos (congrArg toPt h), ih]
    · rw [if_neg h, if_neg (fun e => h (toPt_inj e)), List.map_cons, ih]
theorem sortP_le (l : List S70) : ((sortP l).map toPt).Pairwise le2 := by
  have h : (sortP l).Pairwise (fun x y => (!(ltOf cfP) y x) = true) := by
    unfold sortP
    refine List.pairwise_mergeSort (le := fun x y => !(ltOf cfP) y x) (fun a b c h1 h2 => ?_) (fun a b => ?_) l
    · simp only [Bool.not_eq_true', ltP_false] at h1 h2 ⊢
      omega
    · rcases hc : ltOf cfP b a with _ | _
      · simp
      · have := (ltP_true b a).1 hc
        have h2 : ltOf cfP a b = false := (ltP_false a b).2 (by omega)
        simp [h2]
  rw [List.pairwise_map]
  refine h.imp (fun {a b} hab => ?_)
  have := (ltP_false b a).1 (by simpa using hab)
  unfold le2 lt2 toPt
  simp only [Prod.mk.injEq]
  omega
theorem sortP_mem (l : List S70) (x : S70) : x ∈ sortP l ↔ x ∈ l := (List.mergeSort_perm l _).mem_iff
/-- the points of a ring, plain -/
def ptsR (l : List Int) (each : Int) : List Pt := pts ((rawP l each).map toPt)
theorem ptsP_map (l : List Int) (each : Int) : (ptsP l each).map toPt = ptsR l each := by
  unfold ptsP ptsR
  rw [compP_map]
  refine comp_pts (sortP_le _) (fun x => ?_)
  simp only [List.mem_map, sortP_mem]
theorem ptsR_srt (l : List Int) (each : Int) : Srt (ptsR l each) := pts_srt _
theorem ptsP_len (l : List Int) (each : Int) : (ptsP l each).length = (ptsR l each).length := by rw [← ptsP_map, List.length_map]
theorem compP_len : ∀ l : List S70, (compP l).length ≤ l.length
  | [] => Nat.le_refl _
  | [x] => Nat.le_refl _
  | x :: y :: l => by
    have ih := compP_len (y :: l)
    show (if x = y then compP (y :: l) else x :: compP (y :: l)).length ≤ _
    split
    · rw [List.length_cons]; omega
    · rw [List.length_cons, List.length_cons]; omega
theorem mem_rawP (l : List Int) (each : Int) (p : S70) : p ∈ rawP l each ↔ ∃ n ∈ l, ∃ j : Nat, j < each.toNat ∧ p = ⟨ptH n (j : Int), n⟩ := by
  unfold rawP rowP
  simp only [List.mem_flatMap, List.mem_map, List.mem_range]
  constructor
  · rintro ⟨n, hn, j, hj, rfl⟩; exact ⟨n, hn, j, hj, rfl⟩
  · rintro ⟨n, hn, j, hj, rfl⟩; exact ⟨n, hn, j, hj, rfl⟩
theorem mem_ptsR (l : List Int) (each : Int) (p : Pt) : p ∈ ptsR l each ↔ ∃ n ∈ l, ∃ j : Nat, j < each.toNat ∧ p = (ptH n (j : Int), n) := by
  unfold ptsR
  rw [pts_mem, List.mem_map]
  constructor
  · rintro ⟨q, hq, rfl⟩
    obtain ⟨n, hn, j, hj, rfl⟩ := (mem_rawP l each q).1 hq
    exact ⟨n, hn, j, hj, rfl⟩
  · rintro ⟨n, hn, j, hj, rfl⟩
    exact ⟨_, (mem_rawP l each _).2 ⟨n, hn, j, hj, rfl⟩, rfl⟩
theorem ptsR_pos {l : List Int} {each : Int} (h : 0 < l.length) (he : 1 ≤ each) : 0 < (ptsR l each).length := by
  obtain ⟨n, hn⟩ := List.exists_mem_of_length_pos h
  exact List.length_pos_of_mem ((mem_ptsR l each _).2 ⟨n, hn, 0, by omega, rfl⟩)
/-- where a word begins: those below it, in a rising row -/
theorem tw_low : ∀ {l : List Pt} {h : Int}, Srt l → (l.takeWhile fun p => decide (p.1 < h)).length = low l h
  | [], h, _ => rfl
  | x :: l, h, hs => by
    obtain ⟨h1, h2⟩ := List.pairwise_cons.1 hs
    unfold low
    by_cases hx : x.1 < h
    · rw [List.takeWhile_cons_of_pos (by simpa using hx), List.filter_cons_of_pos (by simp; omega), List.length_cons, List.length_cons, tw_low h2]
      rfl
    · have hall : l.filter (fun p => !decide (h ≤ p.1)) = [] := List.filter_eq_nil_iff.2 (fun y hy => by
        have := h1 y hy
        unfold lt2 at this
        simp; omega)
      rw [List.takeWhile_cons_of_neg (by simpa using hx), List.filter_cons_of_neg (by simp; omega), hall]
theorem tw_map (h : Int) : ∀ l : List S70, (l.takeWhile fun p => decide (p.f0 < h)).length = ((l.map toPt).takeWhile fun p => decide (p.1 < h)).length
  | [] => rfl
  | x :: l => by
    have ih := tw_map h l
    rw [List.map_cons]
    by_cases hx : x.f0 < h
    · rw [List.takeWhile_cons_of_pos (by simpa using hx), List.takeWhile_cons_of_pos (by unfold toPt; simpa using hx), List.length_cons, List.length_cons, ih]
    · rw [List.takeWhile_cons_of_neg (by simpa using hx), List.takeWhile_cons_of_neg (by unfold toPt; simpa using hx)]
      rfl
theorem firstL_eq (l : List Int) (each h : Int) : firstL (ptsP l each) h = low (ptsR l each) h % (ptsR l each).length := by
  unfold firstL
  rw [tw_map, ptsP_map, tw_low (ptsR_srt l each), ptsP_len]
theorem rotL_eq (l : List Int) (each h : Int) : rotL (ptsP l each) (firstL (ptsP l each) h) = (rotH (ptsR l each) h).map Prod.snd := by
  rw [rotH_mod (ptsR_srt l each) h, ← firstL_eq]
  unfold rotL
  rw [← ptsP_map, ← List.map_drop, ← List.map_take, ← List.map_append, List.map_map]
  rfl
theorem meetS_nat (k : Nat) : ∀ (l acc : List Int), Hs.meetS (k : Int) acc l = Rg.meetS k acc l
  | [], acc => rfl
  | x :: l, acc => by
    unfold Hs.meetS Rg.meetS
    rw [meetS_nat k l acc, meetS_nat k l (acc ++ [x])]
    by_cases h : acc.length + 1 = k
    · rw [if_pos h, if_pos (show (acc.length : Int) + 1 = (k : Int) by omega)]
    · rw [if_neg h, if_neg (show ¬ ((acc.length : Int) + 1 = (k : Int)) by omega)]
/-- who keeps a word of a ring -/
def keepR (l : List Int) (each h : Int) (k : Nat) : List Int := keepers (ptsR l each) h k
theorem points_at {l : List Int} {each keep : Int} (ho : okB l each keep = true) : ring_Points.f l each keep = some (ptsP l each, 0) := by unfold ring_Points.f; rw [if_pos ho]
theorem points_out {l : List Int} {each keep : Int} (ho : okB l each keep = false) : ring_Points.f l each keep = some ([], 2) := by unfold ring_Points.f; rw [ho]; rfl
theorem rawP_small {l : List Int} {each keep : Int} (ho : okB l each keep = true) : (ptsP l each).length ≤ 4096 := by
  obtain ⟨k0, k1, k2, k3, k4, k5, _⟩ := okB_len ho
  refine Nat.le_trans (compP_len _) ?_
  rw [sortP_len, rawP_len]
  exact Nat.le_trans (Nat.mul_le_mul k1 (show each.toNat ≤ 64 by omega)) (by omega)
theorem first_at {l : List Int} {each keep : Int} (ho : okB l each keep = true) (h : Int) : ring_first.f (ptsP l each) h = some ((firstL (ptsP l each) h : Nat) : Int) := by
  obtain ⟨k0, k1, k2, k3, k4, k5, _⟩ := okB_len ho
  unfold ring_first.f
  rw [if_pos]
  refine ⟨by rw [ptsP_len]; exact ptsR_pos k0 k2, by have := rawP_small ho; omega, ?_⟩
  have hs := ptsR_srt l each
  rw [← ptsP_map] at hs
  unfold Srt at hs
  rw [List.pairwise_map] at hs
  refine hs.imp (fun {a b} hab => ?_)
  unfold lt2 toPt at hab
  simp only at hab
  omega
theorem firstL_lt {l : List Int} {each keep : Int} (ho : okB l each keep = true) (h : Int) : firstL (ptsP l each) h < (ptsP l each).length := by
  obtain ⟨k0, k1, k2, k3, k4, k5, _⟩ := okB_len ho
  exact Nat.mod_lt _ (by rw [ptsP_len]; exact ptsR_pos k0 k2)
theorem meet_at {l : List Int} {each keep : Int} (ho : okB l each keep = true) (h : Int) : ring_meet.f (ptsP l each) ((firstL (ptsP l each) h : Nat) : Int) keep = some (keepR l each h keep.toNat) := by
  obtain ⟨k0, k1, k2, k3, k4, k5, _⟩ := okB_len ho
  have hlt := firstL_lt ho h
  have hsm := rawP_small ho
  unfold ring_meet.f
  rw [if_pos ⟨by omega, by omega, by omega⟩]
  have e : ((keep.toNat : Nat) : Int) = keep := by omega
  have := meetS_nat keep.toNat (rotL (ptsP l each) (firstL (ptsP l each) h)) []
  rw [e] at this
  rw [Int.toNat_natCast, this, rotL_eq, meetS_all (by omega)]
  rfl
/-! all nodes stand in the order, each once -/
theorem ord_mem (l : List Int) (each h : Int) (he : 1 ≤ each) (x : Int) : x ∈ ord (ptsR l each) h ↔ x ∈ l := by
  unfold ord rotH
  rw [dd_mem, List.map_append, List.mem_append, List.mem_map, List.mem_map]
  constructor
  · rintro (⟨p, hp, rfl⟩ | ⟨p, hp, rfl⟩)
    all_goals
      obtain ⟨n, hn, j, hj, rfl⟩ := (mem_ptsR l each p).1 (List.mem_filter.1 hp).1
      exact hn
  · intro hx
    have hm := (mem_ptsR l each _).2 ⟨x, hx, 0, by omega, rfl⟩
    by_cases hh : h ≤ ptH x ((0 : Nat) : Int)
    · exact .inl ⟨_, List.mem_filter.2 ⟨hm, by simpa using hh⟩, rfl⟩
    · exact .inr ⟨_, List.mem_filter.2 ⟨hm, by simpa using hh⟩, rfl⟩
theorem rises_lt : ∀ {l : List Int} {last : Int}, risesB last l = true → (∀ x ∈ l, last < x) ∧ l.Pairwise (· < ·)
  | [], _, _ => ⟨fun x hx => absurd hx (List.not_mem_nil), List.Pairwise.nil⟩
  | n :: l, last, h => by
    unfold risesB at h
    simp only [Bool.and_eq_true, Bool.not_eq_true', decide_eq_false_iff_not] at h
    obtain ⟨h1, h2⟩ := rises_lt h.2.2
    refine ⟨fun x hx => ?_, List.pairwise_cons.2 ⟨h1, h2⟩⟩
    rcases List.mem_cons.1 hx with rfl | hx
    · omega
    · have := h1 x hx; omega
theorem nodup_of_lt {l : List Int} (h : l.Pairwise (· < ·)) : l.Nodup := h.imp (fun {a b} hab e => by omega)
theorem ord_len {l : List Int} {each keep : Int} (ho : okB l each keep = true) (h : Int) : (ord (ptsR l each) h).length = l.length := by
  obtain ⟨k0, k1, k2, k3, k4, k5, k6⟩ := okB_len ho
  exact ((List.perm_ext_iff_of_nodup (dd_nodup _) (nodup_of_lt (rises_lt k6).2)).2 (fun x => ord_mem l each h k2 x)).length_eq
theorem keepR_len {l : List Int} {each keep : Int} (ho : okB l each keep = true) (h : Int) (k : Nat) (hk : k ≤ l.length) : (keepR l each h k).length = k := by
  unfold keepR keepers
  rw [List.length_take, ord_len ho]
  omega
/-! the reference's small ones -/
theorem same_l0 (l m : List Int) (hlm : l.length = m.length) (hl : l.length ≤ 9223372036854775807) : ∀ (n i : Nat), l.length - i = n → i ≤ l.length →
    Since (fun k => icehouseref00_SameInts.l0 k l m (i : Int)) (decide (l.drop i = m.drop i)) := by
  intro n
  induction n with
  | zero =>
    intro i hn hi
    have hf : ¬ ((i : Int) < (l.length : Int)) := by omega
    rw [List.drop_eq_nil_of_le (by omega), List.drop_eq_nil_of_le (by omega)]
    exact Since.none fun k => by simp only [icehouseref00_SameInts.l0, if_neg hf]; rfl
  | succ n ih =>
    intro i hn hi
    have h1 : i < l.length := by omega
    have h2 : i < m.length := by omega
    have f1 : (i : Int) < (l.length : Int) := by omega
    have f2 : (i : Int) < (m.length : Int) := by omega
    have f0 : (0 : Int) ≤ (i : Int) := by omega
    have r1 : rd l (i : Int) = l[i] := by simp [rd, h1]
    have r2 : rd m (i : Int) = m[i] := by simp [rd, h2]
    have d1 := List.drop_eq_getElem_cons h1
    have d2 := List.drop_eq_getElem_cons h2
    by_cases c1 : l[i] = m[i]
    · refine Since.one (ih (i + 1) (by omega) (by omega)) fun k h => ?_
      simp only [icehouseref00_SameInts.l0, if_pos f1, if_pos f0, if_pos f2, r1, r2, if_pos c1, w_succ' i (by omega)]
      rw [h]
      congr 1
      refine decide_eq_decide.2 ?_
      rw [d1, d2, c1]
      exact ⟨fun h => by rw [h], fun h => (List.cons.inj h).2⟩
    · refine Since.none fun k => ?_
      simp only [icehouseref00_SameInts.l0, if_pos f1, if_pos f0, if_pos f2, r1, r2, if_neg c1]
      congr 1
      refine (decide_eq_false (fun h => c1 ?_)).symm
      rw [d1, d2] at h
      exact (List.cons.inj h).1
theorem same_ev (l m : List Int) (hl : l.length ≤ 9223372036854775807) : Since (fun k => icehouseref00_SameInts.f k l m) (decide (l = m)) := by
  by_cases h : l.length = m.length
  · have := same_l0 l m h hl _ 0 rfl (Nat.zero_le _)
    rw [List.drop_zero, List.drop_zero] at this
    refine this.map fun k hk => ?_
    simp only [icehouseref00_SameInts.f]
    rw [if_pos (by omega)]
    exact hk
  · refine ⟨0, fun k _ => ?_⟩
    simp only [icehouseref00_SameInts.f]
    rw [if_neg (by omega)]
    have : l ≠ m := fun e => h (by rw [e])
    simp [this]
end Go.Proofs.Yteocngcojijnkaa.Hs
namespace Go.Proofs.Yteocngcojijnkaa.Hs
open Go.RowKit Go.Proofs.Yteocngcojijnkaa.QH Go.Proofs.Yteocngcojijnkaa.Lex
open Go.Proofs.YteocngcojijnkaaW.PrintWords Go.Proofs.YteocngcojijnkaaW.PrintLast Go.Proofs.YteocngcojijnkaaW.PrintMore
set_option linter.unusedVariables false
set_option linter.unusedSimpArgs false
theorem wu (x : Int) : IntKind.u64.wrap x = x % 18446744073709551616 := by simp [IntKind.wrap, IntKind.bits, IntKind.signed]
theorem wu_in {x : Int} (h0 : 0 ≤ x) (h1 : x < 18446744073709551616) : IntKind.u64.wrap x = x := by rw [wu]; exact Int.emod_eq_of_lt h0 h1
theorem wu_bd (x : Int) : 0 ≤ IntKind.u64.wrap x ∧ IntKind.u64.wrap x < 18446744073709551616 := by rw [wu]; omega
theorem xor_low (a c : Nat) (hc : c < 256) : a ^^^ c = a / 256 * 256 + (a % 256 ^^^ c) := by
  have h1 : (a ^^^ c) / 2 ^ 8 = a / 2 ^ 8 ^^^ c / 2 ^ 8 := Nat.xor_div_two_pow
  have h2 : (a ^^^ c) % 2 ^ 8 = a % 2 ^ 8 ^^^ c % 2 ^ 8 := Nat.xor_mod_two_pow
  rw [Nat.div_eq_of_lt (show c < 2 ^ 8 by omega), Nat.xor_zero] at h1
  rw [Nat.mod_eq_of_lt (show c < 2 ^ 8 by omega)] at h2
  have h3 := Nat.div_add_mod (a ^^^ c) (2 ^ 8)
  rw [h1, h2] at h3
  simp only [show (2 : Nat) ^ 8 = 256 from rfl] at h3
  omega
theorem xor_lt (a c : Nat) (ha : a < 18446744073709551616) (hc : c < 18446744073709551616) : a ^^^ c < 18446744073709551616 := Nat.xor_lt_two_pow (n := 64) ha hc
theorem step_same {h c : Int} (h0 : 0 ≤ h) (h1 : h < 18446744073709551616) (c0 : 0 ≤ c) (c1 : c < 256) : icehouseref04_Step.f h c = some (stepH h c) := by
  obtain ⟨H, rfl⟩ := Int.eq_ofNat_of_zero_le h0
  obtain ⟨C, rfl⟩ := Int.eq_ofNat_of_zero_le c0
  have hx := xor_low H C (by omega)
  have hl := xor_lt H C (by omega) (by omega)
  have hr : H % 256 ^^^ C < 256 := Nat.xor_lt_two_pow (n := 8) (by omega) (by omega)
  have e1 : IntKind.u64.wrap (C : Int) = (C : Int) := wu_in (by omega) (by omega)
  have e2 : Go.bits .xor .u64 (H : Int) (C : Int) = ((H ^^^ C : Nat) : Int) := u64_xor_nat H C (by omega) (by omega)
  have e3 : Int.tmod (H : Int) 256 = ((H % 256 : Nat) : Int) := by rw [Int.tmod_eq_emod_of_nonneg (by omega)]; omega
  have e4 : ((H % 256 : Nat) : Int) % 256 = ((H % 256 : Nat) : Int) := by omega
  have e5 : Go.bits .xor .u8 ((H % 256 : Nat) : Int) (C : Int) = ((H % 256 ^^^ C : Nat) : Int) := u8_xor_nat (H % 256) C (by omega) (by omega)
  unfold icehouseref04_Step.f stepH
  rw [e1, e2, e3, e4, e5]
  congr 1
  generalize H ^^^ C = N at *
  generalize H % 256 ^^^ C = r at *
  have e6 : IntKind.u64.wrap (r : Int) = (r : Int) := wu_in (by omega) (by omega)
  have e7 : IntKind.u64.wrap ((H : Int) - ((H % 256 : Nat) : Int)) = (H : Int) - ((H % 256 : Nat) : Int) := wu_in (by omega) (by omega)
  have e8 : IntKind.u64.wrap ((H : Int) - ((H % 256 : Nat) : Int) + (r : Int)) = (N : Int) := by rw [wu_in (by omega) (by omega)]; omega
  rw [e6, e7, e8, wu, wu, wu, wu]
  omega
theorem stepH_bd (h c : Int) : 0 ≤ stepH h c ∧ stepH h c < 18446744073709551616 := wu_bd _
theorem sumRow_bd : ∀ (l : List Int) (h : Int), 0 ≤ h → h < 18446744073709551616 → 0 ≤ sumRow h l ∧ sumRow h l < 18446744073709551616
  | [], h, h0, h1 => ⟨h0, h1⟩
  | c :: l, h, h0, h1 => sumRow_bd l (stepH h c) (stepH_bd h c).1 (stepH_bd h c).2
theorem rsum_l0 (l : List Int) (hb : ∀ x ∈ l, 0 ≤ x ∧ x < 256) (hl : l.length ≤ 9223372036854775807) : ∀ (n i : Nat) (h : Int), l.length - i = n → i ≤ l.length → 0 ≤ h → h < 18446744073709551616 →
    Since (fun k => icehouseref04_Sum.l0 k l h (i : Int)) (sumRow h (l.drop i)) := by
  intro n
  induction n with
  | zero =>
    intro i h hn hi h0 h1
    have hf : ¬ ((i : Int) < (l.length : Int)) := by omega
    rw [List.drop_eq_nil_of_le (by omega)]
    exact Since.none fun k => by simp only [icehouseref04_Sum.l0, if_neg hf]; rfl
  | succ n ih =>
    intro i h hn hi h0 h1
    have hi1 : i < l.length := by omega
    have f1 : (i : Int) < (l.length : Int) := by omega
    have f0 : (0 : Int) ≤ (i : Int) := by omega
    have r1 : rd l (i : Int) = l[i] := by simp [rd, hi1]
    have hc := hb l[i] (List.getElem_mem hi1)
    refine Since.one (ih (i + 1) (stepH h l[i]) (by omega) (by omega) (stepH_bd _ _).1 (stepH_bd _ _).2) fun k hk => ?_
    simp only [icehouseref04_Sum.l0, if_pos f1, if_pos f0, r1, step_same h0 h1 hc.1 hc.2, Option.bind_some, w_succ' i (by omega)]
    rw [hk, List.drop_eq_getElem_cons hi1]
    rfl
theorem rsum_ev (l : List Int) (hb : ∀ x ∈ l, 0 ≤ x ∧ x < 256) (hl : l.length ≤ 9223372036854775807) : Since (fun k => icehouseref04_Sum.f k l) (sumRow begH l) := by
  have := rsum_l0 l hb hl _ 0 begH rfl (Nat.zero_le _) (by decide) (by decide)
  rw [List.drop_zero] at this
  exact this
theorem fold_same {h : Int} (h0 : 0 ≤ h) (h1 : h < 18446744073709551616) : icehouseref04_fold.f h = hash_fold.f h := by
  unfold icehouseref04_fold.f hash_fold.f
  rw [Int.tdiv_eq_ediv_of_nonneg h0, wu_in (by omega) (by omega)]
theorem fold_bd {h : Int} (h0 : 0 ≤ h) (h1 : h < 18446744073709551616) : ∃ r, hash_fold.f h = some r ∧ 0 ≤ r ∧ r < 18446744073709551616 := by
  obtain ⟨H, rfl⟩ := Int.eq_ofNat_of_zero_le h0
  refine ⟨((H ^^^ (H / 8589934592) : Nat) : Int), ?_, by omega, ?_⟩
  · unfold hash_fold.f
    rw [show ((H : Int) / 8589934592) = ((H / 8589934592 : Nat) : Int) by omega, u64_xor_nat H (H / 8589934592) (by omega) (by omega)]
  · have := xor_lt H (H / 8589934592) (by omega) (by omega)
    omega
theorem stir_same {h : Int} (h0 : 0 ≤ h) (h1 : h < 18446744073709551616) : icehouseref04_Stir.f h = some (stirH h) := by
  rw [← stir_f]
  unfold icehouseref04_Stir.f hash_Stir.f
  obtain ⟨a, ha, a0, a1⟩ := fold_bd h0 h1
  rw [fold_same h0 h1, ha, Option.bind_some, Option.bind_some]
  have hw := wu_bd (a * 18397679294719823053)
  obtain ⟨b, hb, b0, b1⟩ := fold_bd hw.1 hw.2
  rw [fold_same hw.1 hw.2, hb, Option.bind_some, Option.bind_some]
  have hw := wu_bd (b * 14181476777654086739)
  rw [fold_same hw.1 hw.2]
theorem since_mono {α : Type} {f : Nat → Option α} {r : α} (hm : ∀ k, LeO (f k) (f (k + 1))) (K : Nat) (h : f K = some r) : Since f r := by
  refine ⟨K, fun k hk => ?_⟩
  induction k with
  | zero => rw [show (0 : Nat) = K by omega]; exact h
  | succ k ih =>
    by_cases e : k + 1 = K
    · rw [e]; exact h
    · exact hm k r (ih (by omega))
/-- a number's eight bytes -/
def wordU (u : Int) : List Int := [u / 72057594037927936 % 256, u / 281474976710656 % 256, u / 1099511627776 % 256, u / 4294967296 % 256, u / 16777216 % 256, u / 65536 % 256, u / 256 % 256, u % 256]
theorem word_is (n : Int) : hash_word.f 9 n = some (wordU (IntKind.u64.wrap n)) := by
  unfold hash_word.f
  simp [hash_word.l0, wrap64, shr, wordU, IntKind.bits]
theorem bytes_l0 (k : Nat) (x : Int) (L : List Int) (i : Int) (h0 : 0 ≤ x) (h1 : x < 18446744073709551616) (i0 : 0 ≤ i) (i1 : i < (L.length : Int)) (i2 : i ≤ 7) :
    icehouseref04_Bytes.l0 (k + 1) x L i = icehouseref04_Bytes.l0 k (x / 256) (L.set i.toNat (x % 256)) (i - 1) := by
  have hd : IntKind.u64.wrap (Int.tdiv x 256) = x / 256 := by rw [Int.tdiv_eq_ediv_of_nonneg h0, wu_in (by omega) (by omega)]
  have hm : Int.tmod x 256 % 256 = x % 256 := by rw [Int.tmod_eq_emod_of_nonneg h0]; omega
  have hw : wrap64 (i - 1) = i - 1 := by unfold wrap64; omega
  simp only [icehouseref04_Bytes.l0, if_pos (show i ≥ 0 from i0), if_pos i0, if_pos i1, hd, hm, hw]
theorem bytes_is (n : Int) : icehouseref04_Bytes.f 9 n = some (wordU (IntKind.u64.wrap n)) := by
  obtain ⟨u, hu⟩ : ∃ u, IntKind.u64.wrap n = u := ⟨_, rfl⟩
  have hb := wu_bd n
  rw [hu] at hb
  unfold icehouseref04_Bytes.f
  rw [if_pos (by omega), hu]
  rw [bytes_l0 8 _ _ 7 (by omega) (by omega) (by omega) (by simp) (by omega), bytes_l0 7 _ _ _ (by omega) (by omega) (by omega) (by simp) (by omega), bytes_l0 6 _ _ _ (by omega) (by omega) (by omega) (by simp) (by omega), bytes_l0 5 _ _ _ (by omega) (by omega) (by omega) (by simp) (by omega), bytes_l0 4 _ _ _ (by omega) (by omega) (by omega) (by simp) (by omega), bytes_l0 3 _ _ _ (by omega) (by omega) (by omega) (by simp) (by omega), bytes_l0 2 _ _ _ (by omega) (by omega) (by omega) (by simp) (by omega), bytes_l0 1 _ _ _ (by omega) (by omega) (by omega) (by simp) (by omega)]
  simp only [icehouseref04_Bytes.l0]
  rw [if_neg (by omega)]
  simp [wordU, List.replicate]
  omega
theorem wordU_range (u : Int) : ∀ x ∈ wordU u, 0 ≤ x ∧ x < 256 := by
  intro x hx
  unfold wordU at hx
  simp only [List.mem_cons, List.not_mem_nil, or_false] at hx
  omega
theorem sumRow_app (h : Int) (a b : List Int) : sumRow h (a ++ b) = sumRow (sumRow h a) b := by unfold sumRow; rw [List.foldl_append]
theorem ptH_is (n j : Int) : ptH n j = stirH (sumRow begH (wordU (IntKind.u64.wrap n) ++ wordU (IntKind.u64.wrap j))) := by
  simp only [ptH, QP.hash_Point.f, word_is, Option.bind_some, hash_Sum.f, stir_f, Option.getD_some, sumRow_app]
  simp only [sumH, sumFrom, List.foldl]
theorem rpoint_ev (n j : Int) : Since (fun k => icehouseref04_Point.f k n j) (ptH n j) := by
  have h1 := since_mono (fun k => icehouseref04_Bytes.mono n k) 9 (bytes_is n)
  have h2 := since_mono (fun k => icehouseref04_Bytes.mono j k) 9 (bytes_is j)
  have hw : ∀ x ∈ wordU (IntKind.u64.wrap n) ++ wordU (IntKind.u64.wrap j), 0 ≤ x ∧ x < 256 := fun x hx => by
    rcases List.mem_append.1 hx with h | h
    · exact wordU_range _ x h
    · exact wordU_range _ x h
  have h3 := rsum_ev _ hw (by simp [wordU])
  refine ((h1.and h2 (q := (wordU (IntKind.u64.wrap n), wordU (IntKind.u64.wrap j))) (F := fun k => (icehouseref04_Bytes.f k n).bind fun a => (icehouseref04_Bytes.f k j).bind fun b => some (a, b)) fun k a b => by simp only [a, b, Option.bind_some]).and h3 fun k a b => ?_)
  obtain ⟨a1, ha, hh⟩ := Option.bind_eq_some_iff.1 a
  obtain ⟨b1, hb, hh⟩ := Option.bind_eq_some_iff.1 hh
  have hh := Option.some.inj hh
  injection hh with e1 e2
  subst e1; subst e2
  simp only [icehouseref04_Point.f]
  rw [ha, hb, Option.bind_some, Option.bind_some, if_pos (by simp [wordU]), b, Option.bind_some, stir_same (sumRow_bd _ _ (by decide) (by decide)).1 (sumRow_bd _ _ (by decide) (by decide)).2, ptH_is]
  rfl
end Go.Proofs.Yteocngcojijnkaa.Hs
namespace Go.Proofs.Yteocngcojijnkaa.Hs
open Go.RowKit Go.Proofs.Yteocngcojijnkaa.QH Go.Proofs.Yteocngcojijnkaa.Lex Go.Proofs.Yteocngcojijnkaa.Rg
open Go.Proofs.YteocngcojijnkaaW.PrintWords Go.Proofs.YteocngcojijnkaaW.PrintLast Go.Proofs.YteocngcojijnkaaW.PrintMore
set_option linter.unusedVariables false
set_option linter.unusedSimpArgs false
def insS (p : S70) : List S70 → List S70
  | [] => [p]
  | x :: l => if lt2 (toPt x) (toPt p) then x :: insS p l else if x = p then x :: l else p :: x :: l
theorem insS_map (p : S70) : ∀ l : List S70, (insS p l).map toPt = ins (toPt p) (l.map toPt)
  | [] => rfl
  | x :: l => by
    unfold insS
    rw [List.map_cons]
    unfold ins
    by_cases h : lt2 (toPt x) (toPt p)
    · rw [if_pos h, if_pos h, List.map_cons, insS_map p l]
    · rw [if_neg h, if_neg h]
      by_cases e : x = p
      · rw [if_pos e, if_pos (congrArg toPt e)]; rfl
      · rw [if_neg e, if_neg (fun h => e (toPt_inj h))]; rfl
theorem insS_len (p : S70) : ∀ l : List S70, (insS p l).length ≤ l.length + 1
  | [] => Nat.le_refl _
  | x :: l => by
    have := insS_len p l
    unfold insS
    split
    · rw [List.length_cons, List.length_cons]; omega
    · split
      · exact Nat.le_succ _
      · exact Nat.le_refl _
def foldS (acc raw : List S70) : List S70 := raw.foldl (fun a p => insS p a) acc
theorem foldS_map : ∀ (raw acc : List S70), (foldS acc raw).map toPt = (raw.map toPt).foldl (fun a p => ins p a) (acc.map toPt)
  | [], acc => rfl
  | x :: raw, acc => by
    show (foldS (insS x acc) raw).map toPt = _
    rw [foldS_map raw, insS_map]
    rfl
theorem foldS_pts (l : List Int) (each : Int) : foldS [] (rawP l each) = ptsP l each := by
  have h : (foldS [] (rawP l each)).map toPt = (ptsP l each).map toPt := by
    rw [foldS_map, ptsP_map]; rfl
  exact (List.map_inj_right (fun _ _ => toPt_inj)).1 h
theorem foldS_app (a b acc : List S70) : foldS acc (a ++ b) = foldS (foldS acc a) b := by unfold foldS; rw [List.foldl_append]
theorem less_f (a b c d : Int) : icehouseref09_less.f a b c d = some (decide (lt2 (a, b) (c, d))) := by
  unfold icehouseref09_less.f lt2
  by_cases h1 : a < c
  · simp [h1]
  · by_cases h2 : a = c
    · simp [h1, h2]
    · simp [h1, h2]
theorem insS_skip (p : S70) : ∀ (i : Nat) (l : List S70), (∀ m (hm : m < i) (h : m < l.length), lt2 (toPt l[m]) (toPt p)) → insS p l = l.take i ++ insS p (l.drop i)
  | 0, l, _ => by simp
  | i + 1, [], _ => by simp
  | i + 1, x :: l, h => by
    have h0 : lt2 (toPt x) (toPt p) := h 0 (by omega) (by simp)
    rw [insS, if_pos h0, insS_skip p i l (fun m hm hl => h (m + 1) (by omega) (by simpa using hl))]
    rfl
section
variable (nodes : List Int) (each keep : Int) (p : S70) (x4 x5 : Int)
theorem l2_ev (r : List S70) (l : List S70) (hl : l.length ≤ 8796093000000) (hw : wrap64 (x5 + 1) = x5 + 1) (h : Since (fun k => icehouseref09_Points.l1 k (insS p l) x4 (x5 + 1) nodes each keep) r) : ∀ (n i : Nat), l.length - i = n → i ≤ l.length → (∀ m (hm : m < i) (h : m < l.length), lt2 (toPt l[m]) (toPt p)) →
    Since (fun k => icehouseref09_Points.l2 k l x4 x5 (i : Int) nodes each keep p.f0 p.f1) r := by
  intro n
  induction n with
  | zero =>
    intro i hn hi hlt
    obtain rfl : i = l.length := by omega
    have hf : ¬ ((l.length : Int) < (l.length : Int)) := by omega
    have e := insS_skip p l.length l hlt
    rw [List.take_length, List.drop_length] at e
    refine Since.one h fun k hk => ?_
    rw [e] at hk
    simp only [icehouseref09_Points.l2, if_neg hf, if_pos (show (0 : Int) ≤ (l.length : Int) by omega), if_pos (Int.le_refl (l.length : Int)), Option.bind_some, Int.toNat_natCast, List.take_length, List.drop_length, List.nil_append, List.length_append, List.length_nil, Nat.zero_add, hw]
    rw [if_pos (by omega), if_pos (by omega), if_pos (by simp; omega), List.append_nil]
    exact hk
  | succ n ih =>
    intro i hn hi hlt
    have h1 : i < l.length := by omega
    have f1 : (i : Int) < (l.length : Int) := by omega
    have f0 : (0 : Int) ≤ (i : Int) := by omega
    have r1 : rd_T70 l (i : Int) = l[i] := by unfold rd_T70; rw [show (i : Int).toNat = i from rfl]; simp [h1]
    have e := insS_skip p i l hlt
    rw [List.drop_eq_getElem_cons h1, insS] at e
    by_cases c1 : lt2 (toPt l[i]) (toPt p)
    · refine Since.one (ih (i + 1) (by omega) (by omega) (fun m hm hl' => ?_)) fun k hk => ?_
      · by_cases hmi : m = i
        · subst hmi; exact c1
        · exact hlt m (by omega) hl'
      · have c2 : lt2 (l[i].f0, l[i].f1) (p.f0, p.f1) := c1
        simp only [icehouseref09_Points.l2, if_pos f1, if_pos f0, r1, less_f, decide_eq_true c2, Option.bind_some, if_true, w_succ' i (by omega)]
        exact hk
    · have c2 : ¬ lt2 (l[i].f0, l[i].f1) (p.f0, p.f1) := c1
      rw [if_neg c1] at e
      by_cases c3 : l[i] = p
      · rw [if_pos c3, ← List.drop_eq_getElem_cons h1, List.take_append_drop] at e
        rw [e] at h
        refine Since.one h fun k hk => ?_
        have c4 := (same_iff l[i] p).2 c3
        simp only [icehouseref09_Points.l2, if_pos f1, if_pos f0, r1, less_f, decide_eq_false c2, Option.bind_some, hw]
        rw [if_neg (by decide), if_pos c4]
        exact hk
      · rw [if_neg c3, ← List.drop_eq_getElem_cons h1] at e
        refine Since.one h fun k hk => ?_
        rw [e] at hk
        have c4 : ¬ ((l[i].f0 == p.f0 && (l[i].f1 == p.f1)) = true) := fun h => c3 ((same_iff l[i] p).1 h)
        simp only [icehouseref09_Points.l2, if_pos f1, if_pos f0, r1, less_f, decide_eq_false c2, Option.bind_some, hw, if_pos (show (i : Int) ≤ (l.length : Int) by omega), Int.toNat_natCast, List.nil_append, List.length_append, List.length_nil, List.length_cons, Nat.zero_add, List.length_take, List.length_drop]
        rw [if_neg (by decide), if_neg c4, if_pos (by omega), if_pos (by omega), if_pos (by omega), List.append_assoc]
        exact hk
end
/-- one node's points from a place on -/
def restP (n : Int) (j m : Nat) : List S70 := (List.range' j m).map fun j : Nat => ⟨ptH n (j : Int), n⟩
theorem restP_zero (n : Int) (m : Nat) : restP n 0 m = rowP n m := by unfold restP rowP; rw [List.range_eq_range']
theorem restP_succ (n : Int) (j m : Nat) : restP n j (m + 1) = ⟨ptH n (j : Int), n⟩ :: restP n (j + 1) m := by unfold restP; rw [List.range'_succ, List.map_cons]
theorem foldS_cons (p : S70) (raw acc : List S70) : foldS acc (p :: raw) = foldS (insS p acc) raw := rfl
theorem rawP_cons (x : Int) (l : List Int) (each : Int) : rawP (x :: l) each = rowP x each.toNat ++ rawP l each := by unfold rawP; rw [List.flatMap_cons]
theorem foldS_len : ∀ (raw acc : List S70), (foldS acc raw).length ≤ acc.length + raw.length
  | [], acc => Nat.le_refl _
  | x :: raw, acc => by
    have h1 := foldS_len raw (insS x acc)
    have h2 := insS_len x acc
    show (foldS (insS x acc) raw).length ≤ _
    rw [List.length_cons]; omega
theorem l1_ev (nodes : List Int) (each keep : Int) (he : 0 ≤ each) (he2 : each ≤ 64) (i : Nat) (hi : i < nodes.length) (r : List S70) : ∀ (n j : Nat) (acc : List S70), each.toNat - j = n → (j : Int) ≤ each → acc.length + n ≤ 100000 →
    Since (fun k => icehouseref09_Points.l0 k (foldS acc (restP nodes[i] j n)) (wrap64 ((i : Int) + 1)) nodes each keep) r → Since (fun k => icehouseref09_Points.l1 k acc (i : Int) (j : Int) nodes each keep) r := by
  intro n
  induction n with
  | zero =>
    intro j acc hn hj hlen h
    have hf : ¬ ((j : Int) < each) := by omega
    refine Since.one h fun k hk => ?_
    simp only [icehouseref09_Points.l1, if_neg hf]
    exact hk
  | succ n ih =>
    intro j acc hn hj hlen h
    have f1 : (j : Int) < each := by omega
    have g0 : (0 : Int) ≤ (i : Int) := by omega
    have g1 : (i : Int) < (nodes.length : Int) := by omega
    have r1 : rd nodes (i : Int) = nodes[i] := by simp [rd, hi]
    have hw : wrap64 ((j : Int) + 1) = (j : Int) + 1 := by unfold wrap64; omega
    rw [restP_succ, foldS_cons] at h
    have h2 := ih (j + 1) (insS ⟨ptH nodes[i] (j : Int), nodes[i]⟩ acc) (by omega) (by omega) (by have := insS_len ⟨ptH nodes[i] (j : Int), nodes[i]⟩ acc; omega) h
    have h3 := l2_ev nodes each keep ⟨ptH nodes[i] (j : Int), nodes[i]⟩ (i : Int) (j : Int) r acc (by omega) hw h2 _ 0 rfl (Nat.zero_le _) (fun m hm _ => absurd hm (Nat.not_lt_zero m))
    refine Since.two h3 (rpoint_ev nodes[i] (j : Int)) fun k hk hp => ?_
    simp only [icehouseref09_Points.l1, if_pos f1, if_pos g0, if_pos g1, r1]
    rw [hp, Option.bind_some]
    exact hk
theorem l0_ev (nodes : List Int) (each keep : Int) (he : 0 ≤ each) (he2 : each ≤ 64) (hn64 : nodes.length ≤ 64) : ∀ (n i : Nat) (acc : List S70), nodes.length - i = n → i ≤ nodes.length → acc.length ≤ i * 64 →
    Since (fun k => icehouseref09_Points.l0 k acc (i : Int) nodes each keep) (foldS acc (rawP (nodes.drop i) each)) := by
  intro n
  induction n with
  | zero =>
    intro i acc hn hi hlen
    have hf : ¬ ((i : Int) < (nodes.length : Int)) := by omega
    rw [List.drop_eq_nil_of_le (by omega)]
    exact Since.none fun k => by simp only [icehouseref09_Points.l0, if_neg hf]; rfl
  | succ n ih =>
    intro i acc hn hi hlen
    have h1 : i < nodes.length := by omega
    have f1 : (i : Int) < (nodes.length : Int) := by omega
    have hl2 : (foldS acc (restP nodes[i] 0 each.toNat)).length ≤ (i + 1) * 64 := by
      have := foldS_len (restP nodes[i] 0 each.toNat) acc
      rw [restP_zero, rowP_len] at this
      rw [restP_zero]
      omega
    have h2 := ih (i + 1) _ (by omega) (by omega) hl2
    rw [← w_succ' i (by omega)] at h2
    have h3 := l1_ev nodes each keep he he2 i h1 _ each.toNat 0 acc (by omega) (by omega) (by omega) h2
    refine Since.one h3 fun k hk => ?_
    simp only [icehouseref09_Points.l0, if_pos f1]
    rw [show icehouseref09_Points.l1 k acc (i : Int) 0 nodes each keep = _ from hk, restP_zero, List.drop_eq_getElem_cons h1]
    rw [rawP_cons, foldS_app]
theorem rpoints_ev {l : List Int} {each keep : Int} (ho : okB l each keep = true) : Since (fun k => icehouseref09_Points.f k l each keep) (ptsP l each) := by
  obtain ⟨k0, k1, k2, k3, k4, k5, _⟩ := okB_len ho
  have h := l0_ev l each keep (by omega) k3 k1 _ 0 [] rfl (Nat.zero_le _) (by simp)
  rw [List.drop_zero, foldS_pts] at h
  exact h
end Go.Proofs.Yteocngcojijnkaa.Hs
namespace Go.Proofs.Yteocngcojijnkaa.Hs
open Go.RowKit Go.Proofs.Yteocngcojijnkaa.QH Go.Proofs.Yteocngcojijnkaa.Lex Go.Proofs.Yteocngcojijnkaa.Rg
open Go.Proofs.YteocngcojijnkaaW.PrintWords Go.Proofs.YteocngcojijnkaaW.PrintLast Go.Proofs.YteocngcojijnkaaW.PrintMore
set_option linter.unusedVariables false
set_option linter.unusedSimpArgs false
theorem has_l0 (l : List Int) (x : Int) (hl : l.length ≤ 9223372036854775807) : ∀ (n i : Nat), l.length - i = n → i ≤ l.length →
    Since (fun k => icehouseref09_Has.l0 k l x (i : Int)) (decide (x ∈ l.drop i)) := by
  intro n
  induction n with
  | zero =>
    intro i hn hi
    have hf : ¬ ((i : Int) < (l.length : Int)) := by omega
    rw [List.drop_eq_nil_of_le (by omega)]
    exact Since.none fun k => by simp only [icehouseref09_Has.l0, if_neg hf]; rfl
  | succ n ih =>
    intro i hn hi
    have h1 : i < l.length := by omega
    have f1 : (i : Int) < (l.length : Int) := by omega
    have f0 : (0 : Int) ≤ (i : Int) := by omega
    have r1 : rd l (i : Int) = l[i] := by simp [rd, h1]
    have d := List.drop_eq_getElem_cons h1
    by_cases he : l[i] = x
    · refine Since.none fun k => ?_
      simp only [icehouseref09_Has.l0, if_pos f1, if_pos f0, r1, if_pos he]
      congr 1
      exact (decide_eq_true (by rw [d, he]; exact List.mem_cons_self)).symm
    · refine Since.one (ih (i + 1) (by omega) (by omega)) fun k h => ?_
      simp only [icehouseref09_Has.l0, if_pos f1, if_pos f0, r1, if_neg he, w_succ' i (by omega)]
      rw [h]
      congr 1
      refine decide_eq_decide.2 ?_
      rw [d, List.mem_cons]
      exact ⟨.inr, fun h => h.resolve_left (fun e => he e.symm)⟩
theorem has_ev (l : List Int) (x : Int) (hl : l.length ≤ 9223372036854775807) : Since (fun k => icehouseref09_Has.f k l x) (decide (x ∈ l)) := by
  have := has_l0 l x hl _ 0 rfl (Nat.zero_le _)
  rw [List.drop_zero] at this
  exact this
end Go.Proofs.Yteocngcojijnkaa.Hs
namespace Go.Proofs.Yteocngcojijnkaa.Hs
open Go.RowKit Go.Proofs.Yteocngcojijnkaa.QH Go.Proofs.Yteocngcojijnkaa.Lex Go.Proofs.Yteocngcojijnkaa.Rg
open Go.Proofs.YteocngcojijnkaaW.PrintWords Go.Proofs.YteocngcojijnkaaW.PrintLast Go.Proofs.YteocngcojijnkaaW.PrintMore
set_option linter.unusedVariables false
set_option linter.unusedSimpArgs false
theorem rfirst_l0 (q : List S70) (h : Int) (hl : q.length ≤ 9223372036854775807) : ∀ (n i : Nat), q.length - i = n → i ≤ q.length →
    Since (fun k => icehouseref09_First.l0 k q h (i : Int)) ((if i + ((q.drop i).takeWhile fun p => decide (p.f0 < h)).length < q.length then i + ((q.drop i).takeWhile fun p => decide (p.f0 < h)).length else 0 : Nat) : Int) := by
  intro n
  induction n with
  | zero =>
    intro i hn hi
    have hf : ¬ ((i : Int) < (q.length : Int)) := by omega
    rw [List.drop_eq_nil_of_le (by omega)]
    refine Since.none fun k => ?_
    simp only [icehouseref09_First.l0, if_neg hf]
    rw [if_neg (by simp; omega)]
    rfl
  | succ n ih =>
    intro i hn hi
    have h1 : i < q.length := by omega
    have f1 : (i : Int) < (q.length : Int) := by omega
    have f0 : (0 : Int) ≤ (i : Int) := by omega
    have r1 : rd_T70 q (i : Int) = q[i] := by unfold rd_T70; rw [show (i : Int).toNat = i from rfl]; simp [h1]
    rw [List.drop_eq_getElem_cons h1]
    by_cases c1 : q[i].f0 ≥ h
    · refine Since.none fun k => ?_
      simp only [icehouseref09_First.l0, if_pos f1, if_pos f0, r1, if_pos c1]
      rw [List.takeWhile_cons_of_neg (by simpa using c1), List.length_nil, Nat.add_zero, if_pos h1]
    · refine Since.one (ih (i + 1) (by omega) (by omega)) fun k hk => ?_
      simp only [icehouseref09_First.l0, if_pos f1, if_pos f0, r1, if_neg c1, w_succ' i (by omega)]
      rw [hk, List.takeWhile_cons_of_pos (by simp; omega), List.length_cons]
      congr 2
      rw [show i + (((q.drop (i + 1)).takeWhile fun p => decide (p.f0 < h)).length + 1) = i + 1 + ((q.drop (i + 1)).takeWhile fun p => decide (p.f0 < h)).length by omega]
theorem tw_le {α : Type} (p : α → Bool) : ∀ l : List α, (l.takeWhile p).length ≤ l.length
  | [] => Nat.le_refl _
  | x :: l => by
    have := tw_le p l
    cases h : p x
    · rw [List.takeWhile_cons_of_neg (by rw [h]; decide)]; exact Nat.zero_le _
    · rw [List.takeWhile_cons_of_pos h, List.length_cons, List.length_cons]; omega
theorem rfirst_ev {l : List Int} {each keep : Int} (ho : okB l each keep = true) (h : Int) : Since (fun k => icehouseref09_First.f k (ptsP l each) h) ((firstL (ptsP l each) h : Nat) : Int) := by
  have hsm := rawP_small ho
  have hlt := firstL_lt ho h
  have h1 := rfirst_l0 (ptsP l each) h (by omega) _ 0 rfl (Nat.zero_le _)
  rw [List.drop_zero, Nat.zero_add] at h1
  have hle := tw_le (fun p : S70 => decide (p.f0 < h)) (ptsP l each)
  have e : (if ((ptsP l each).takeWhile fun p => decide (p.f0 < h)).length < (ptsP l each).length then ((ptsP l each).takeWhile fun p => decide (p.f0 < h)).length else 0) = firstL (ptsP l each) h := by
    unfold firstL
    split
    · rename_i h'; exact (Nat.mod_eq_of_lt h').symm
    · rename_i h'
      rw [show ((ptsP l each).takeWhile fun p => decide (p.f0 < h)).length = (ptsP l each).length by omega, Nat.mod_self]
  rw [e] at h1
  exact h1
theorem rat_l0 (l0 : List Int) (each : Int) (q : List S70) (i0 keep : Nat) (hi0 : i0 < q.length) (hq : q.length ≤ 4096) (R : List Int) (hR : R.length = keep) : ∀ (n t : Nat) (out : List Int), q.length - t = n → t ≤ q.length → out.length ≤ t → out.length < keep → Rg.meetS keep out ((rotL q i0).drop t) = R →
    Since (fun k => icehouseref09_At.l0 k q (((i0 + t) % q.length : Nat) : Int) out l0 each (keep : Int)) R := by
  intro n
  induction n with
  | zero =>
    intro t out hn ht hot hok hm
    rw [List.drop_eq_nil_of_le (by rw [rotL_len q i0 (by omega)]; omega)] at hm
    have : out = R := hm
    rw [this] at hok
    omega
  | succ n ih =>
    intro t out hn ht hot hok hm
    have h1 : t < q.length := by omega
    have hmod : (i0 + t) % q.length < q.length := Nat.mod_lt _ (by omega)
    have g1 : (out.length : Int) < (keep : Int) := by omega
    have g2 : (0 : Int) ≤ (((i0 + t) % q.length : Nat) : Int) := by omega
    have g3 : (((i0 + t) % q.length : Nat) : Int) < (q.length : Int) := by omega
    have g4 : ¬ ((q.length : Int) = 0) := by omega
    have r1 : rd_T70 q (((i0 + t) % q.length : Nat) : Int) = q[(i0 + t) % q.length] := by unfold rd_T70; rw [Int.toNat_natCast]; simp [hmod]
    have hw : Int.tmod (wrap64 ((((i0 + t) % q.length : Nat) : Int) + 1)) (q.length : Int) = (((i0 + (t + 1)) % q.length : Nat) : Int) := by
      rw [w_succ' _ (by omega), Int.tmod_eq_emod_of_nonneg (by omega)]
      have e : ((i0 + t) % q.length + 1) % q.length = (i0 + (t + 1)) % q.length := by
        rw [Nat.mod_add_mod, Nat.add_assoc]
      rw [← e]
      omega
    have hx := rotL_at q i0 t hi0 h1
    rw [List.drop_eq_getElem_cons (by rw [rotL_len q i0 (by omega)]; exact h1), hx] at hm
    unfold Rg.meetS at hm
    by_cases hin : (q[(i0 + t) % q.length]).f1 ∈ out
    · rw [if_pos hin] at hm
      refine Since.two (ih (t + 1) out (by omega) (by omega) (by omega) hok hm) (has_ev out (q[(i0 + t) % q.length]).f1 (by omega)) fun k hk hh => ?_
      simp only [icehouseref09_At.l0, if_pos g1, if_pos g2, if_pos g3, r1]
      rw [hh, Option.bind_some, decide_eq_true hin, if_pos rfl, if_neg g4, hw]
      exact hk
    · rw [if_neg hin] at hm
      have hlen : (out ++ [(q[(i0 + t) % q.length]).f1]).length = out.length + 1 := by rw [List.length_append]; rfl
      by_cases hk1 : out.length + 1 = keep
      · rw [if_pos hk1] at hm
        have hstop : Since (fun k => icehouseref09_At.l0 k q (((i0 + (t + 1)) % q.length : Nat) : Int) (out ++ [(q[(i0 + t) % q.length]).f1]) l0 each (keep : Int)) R := by
          refine Since.none fun k => ?_
          simp only [icehouseref09_At.l0]
          rw [if_neg (by rw [hlen]; omega), hm]
        refine Since.two hstop (has_ev out (q[(i0 + t) % q.length]).f1 (by omega)) fun k hk hh => ?_
        simp only [icehouseref09_At.l0, if_pos g1, if_pos g2, if_pos g3, r1]
        rw [hh, Option.bind_some, decide_eq_false hin, if_neg (by decide), if_pos (by omega), if_neg g4, hw]
        exact hk
      · rw [if_neg hk1] at hm
        refine Since.two (ih (t + 1) (out ++ [(q[(i0 + t) % q.length]).f1]) (by omega) (by omega) (by rw [hlen]; omega) (by rw [hlen]; omega) hm) (has_ev out (q[(i0 + t) % q.length]).f1 (by omega)) fun k hk hh => ?_
        simp only [icehouseref09_At.l0, if_pos g1, if_pos g2, if_pos g3, r1]
        rw [hh, Option.bind_some, decide_eq_false hin, if_neg (by decide), if_pos (by omega), if_neg g4, hw]
        exact hk
theorem rat_ev {l : List Int} {each keep : Int} (ho : okB l each keep = true) (h : Int) : Since (fun k => icehouseref09_At.f k l each keep h) (keepR l each h keep.toNat) := by
  obtain ⟨k0, k1, k2, k3, k4, k5, _⟩ := okB_len ho
  have hsm := rawP_small ho
  have hlt := firstL_lt ho h
  have hR := keepR_len ho h keep.toNat (by omega)
  have hm : Rg.meetS keep.toNat [] ((rotL (ptsP l each) (firstL (ptsP l each) h)).drop 0) = keepR l each h keep.toNat := by
    rw [List.drop_zero, rotL_eq, meetS_all (by omega)]
    rfl
  have h1 := rat_l0 l each (ptsP l each) (firstL (ptsP l each) h) keep.toNat hlt hsm _ hR _ 0 [] rfl (Nat.zero_le _) (Nat.le_refl _) (by show 0 < keep.toNat; omega) hm
  rw [Nat.add_zero, Nat.mod_eq_of_lt hlt, show ((keep.toNat : Nat) : Int) = keep by omega] at h1
  refine ((rpoints_ev ho).and (rfirst_ev ho h) (q := (ptsP l each, ((firstL (ptsP l each) h : Nat) : Int))) (F := fun k => (icehouseref09_Points.f k l each keep).bind fun p => (icehouseref09_First.f k p h).bind fun f => some (p, f)) (fun k a b => by simp only [a, Option.bind_some, b])).and h1 fun k a b => ?_
  obtain ⟨p, hp, hh⟩ := Option.bind_eq_some_iff.1 a
  obtain ⟨f, hf, hh⟩ := Option.bind_eq_some_iff.1 hh
  have hh := Option.some.inj hh
  injection hh with e1 e2
  subst e1; subst e2
  simp only [icehouseref09_At.f]
  rw [hp, Option.bind_some, hf, Option.bind_some]
  exact b
end Go.Proofs.Yteocngcojijnkaa.Hs
namespace Go.Proofs.Yteocngcojijnkaa.QR
open Go.Proofs.Yteocngcojijnkaa.QH
open Go.RowKit Go.Proofs.YteocngcojijnkaaW.PrintWords Go.Proofs.YteocngcojijnkaaW.PrintLast Go.Proofs.YteocngcojijnkaaW.PrintMore
attribute [local go_sem] max2_int min2_int max_two min_two max_three min_three max_four min_four   -- for this text's walks alone
set_option linter.unusedVariables false
set_option linter.unusedSimpArgs false



-- the values' own types
/-! #### struct type 70 -/
end Go.Proofs.Yteocngcojijnkaa.QR
namespace Go.Proofs.Yteocngcojijnkaa.QR
open Go.Proofs.Yteocngcojijnkaa.QH
open Go.RowKit Go.Proofs.YteocngcojijnkaaW.PrintWords Go.Proofs.YteocngcojijnkaaW.PrintLast Go.Proofs.YteocngcojijnkaaW.PrintMore
attribute [local go_sem] max2_int min2_int max_two min_two max_three min_three max_four min_four   -- for this text's walks alone
set_option linter.unusedVariables false
set_option linter.unusedSimpArgs false
/-! ### ring_Lists: function 37 -/
def ring_Lists.l0 : Nat → List (S70) → Int → List (List Int) → List (S70) → Int → Int → List Int → Int → Int → Option ((List (List Int)) × Int)
  | 0, _, _, _, _, _, _, _, _, _ => none
  | k + 1, x4, x5, x6, x14, x15, x16, x102000, x102001, x102002 => if x16 < x15 then (if 0 ≤ x16 then (if x16 < (x14.length : Int) then ((Hs.ring_first.f x4 ((rd_T70 x14 x16).f0)).bind fun t108 => ((Hs.ring_meet.f x4 t108 x102002).bind fun t109 => (if x6.length < 5864062014805 then (ring_Lists.l0 k x4 x5 (x6 ++ [t109]) x14 x15 (wrap64 (x16 + 1)) x102000 x102001 x102002) else (none)))) else (none)) else (none)) else (some (x6, x5))
def ring_Lists.f (k : Nat) (l0_0 : List Int) (a0_1 : Int) (a0_2 : Int) : Option ((List (List Int)) × Int) := (Hs.ring_Points.f l0_0 a0_1 a0_2).bind fun bt102 => (ring_Lists.l0 k bt102.1 bt102.2 ([] : List (List Int)) bt102.1 (bt102.1.length : Int) 0 l0_0 a0_1 a0_2)
theorem ring_Lists.mono_l : ∀ k, (∀ y0 y1 y2 y3 y4 y5 y6 y7 y8, LeO (ring_Lists.l0 k y0 y1 y2 y3 y4 y5 y6 y7 y8) (ring_Lists.l0 (k + 1) y0 y1 y2 y3 y4 y5 y6 y7 y8))
  | 0 => fun _ _ _ _ _ _ _ _ _ r h => by simp [ring_Lists.l0] at h
  | k + 1 => by
    have ih0 := ring_Lists.mono_l k
    · intro y0 y1 y2 y3 y4 y5 y6 y7 y8
      unfold ring_Lists.l0
      repeat' first
      | (with_reducible exact ih0 _ _ _ _ _ _ _ _ _)
      | (with_reducible exact LeO.refl _)
      | (with_reducible exact LeO.none _)
      | (with_reducible refine LeO.ite ?_ ?_)
      | (with_reducible refine LeO.bind ?_ (fun _ => ?_))
      | exact ih0 _ _ _ _ _ _ _ _ _
      | exact LeO.none _
      | refine LeO.ite ?_ ?_
      | refine LeO.bind ?_ (fun _ => ?_)
theorem ring_Lists.mono : ∀ a0 a1 a2 k, LeO (ring_Lists.f k a0 a1 a2) (ring_Lists.f (k + 1) a0 a1 a2) := by
  intro a0 a1 a2 k
  have ih0 := ring_Lists.mono_l k
  unfold ring_Lists.f
  repeat' first
      | (with_reducible exact ih0 _ _ _ _ _ _ _ _ _)
      | (with_reducible exact LeO.refl _)
      | (with_reducible exact LeO.none _)
      | (with_reducible refine LeO.ite ?_ ?_)
      | (with_reducible refine LeO.bind ?_ (fun _ => ?_))
      | exact ih0 _ _ _ _ _ _ _ _ _
      | exact LeO.none _
      | refine LeO.ite ?_ ?_
      | refine LeO.bind ?_ (fun _ => ?_)
def ring_Lists.T6 : Bool × List (List Nat × List Nat) := (true, [([], []), ([], []), ([], []), ([], []), ([3], [3]), ([2, 4], [2, 4]), ([], []), ([6], [6]), ([1, 5, 7, 5], [1, 5, 7]), ([8], [8]), ([0, 9, 8], [0, 9]), ([10, 10, 0, 1, 2, 3, 4, 5, 6, 7, 8, 9, 10], [0, 10])])
def ring_Lists.B6 : List Nat := [0, 0, 0, 0, 8, 28, 0, 64, 254, 510, 1023, 2047]
theorem ring_Lists.tab6 : rtab .any (opsOf Try.f37 6) = ring_Lists.T6 := by kernel_rfl
theorem ring_Lists.bits6 : waitsOk ring_Lists.T6.2 ring_Lists.B6 = true := by kernel_rfl
set_option maxHeartbeats 8000000 in
set_option maxRecDepth 100000 in
theorem ring_Lists.calls (k : Nat) (A0_0 : Option Addr) (c0_0 : Nat) (l0_0 : List Int) (a0_1 : Int) (a0_2 : Int) (r1 : List (List Int)) (r2 : Int) (w : World) (hr0_0 : Kd.C (Kd.int .i64) w A0_0 l0_0.length l0_0) (hc0_0 : l0_0.length ≤ c0_0) (h : ring_Lists.f k l0_0 a0_1 a0_2 = some (r1, r2)) :
    Calls Try.prog 37 #[.agg #[.slice A0_0 l0_0.length c0_0, .int .i64 a0_1, .int .i64 a0_2]] w fun e w' => ∃ v0_ : Value, e = .returned (.tuple #[v0_, .int .i64 r2]) ∧ Kd.S (Kd.slice 3 (Kd.int .i64)) 22 w' w.heap.size (fun _ => True) v0_ r1 ∧ Below w.heap.size w w' := by
  have hu42 := Try.underlying42
  have hu70 := Try.underlying70
  have HR0_0 := Aside0.mk hr0_0
  have HC0_0 := Aside0.mk hc0_0
  clear hr0_0 hc0_0
  have HB := Aside0.mk (Below.refl w.heap.size w)
  have H : ((Hs.ring_Points.f l0_0 a0_1 a0_2).bind fun bt102 => (ring_Lists.l0 k bt102.1 bt102.2 ([] : List (List Int)) bt102.1 (bt102.1.length : Int) 0 l0_0 a0_1 a0_2)) = some (r1, r2) := h
  clear h
  replace H := Option.bind_eq_some_iff.mp H
  obtain ⟨⟨t102, t105⟩, A20, H⟩ := H
  replace H : (ring_Lists.l0 k t102 t105 ([] : List (List Int)) t102 (t102.length : Int) 0 l0_0 a0_1 a0_2) = some (r1, r2) := H
  have A2 := Aside0.mk A20
  clear A20
  have H' := Aside0.mk H
  clear H
  go_enter Try.func37, Try.ntmps37
  go_wp2_with (first | ((with_reducible refine gate_dst (N := 1) rfl ?_); refine box_event ?hg (N := 1) ?hd (cs := #[.slice A0_0 l0_0.length c0_0, .int .i64 a0_1, .int .i64 a0_2]) (t := 42) ?hr ?_; (case hd => rfl); (case hg => rfl); (case hr => first | (go_simp; done) | (go_simp; rfl)); intro gb101 hg w3 hbox hb; have n0_ := Aside0.mk (below_step (by repeat (first | (with_reducible first | exact HB.out | apply below_alloc | apply pw_below_drewN | apply below_drew1) | exact HB.out)) hb); have n1_ := Aside0.mk (hbox); have n2_ := Aside0.mk ((by rw [hg]; exact (below_size (by repeat (first | (with_reducible first | exact HB.out | apply below_alloc | apply pw_below_drewN | apply below_drew1) | exact HB.out))) : w.heap.size ≤ gb101)); have n3_ := Aside0.mk ((by rw [hg]; exact (below_size (by repeat (first | (with_reducible first | exact HB.out | apply below_alloc | apply pw_below_drewN | apply below_drew1) | exact HB.out))) : w.heap.size ≤ gb101)); clear HB; have HB := n0_; have BK101 := n1_; have GW101 := n2_; have GE101 := n3_; clear n0_ n1_ n2_ n3_; clear hb hbox hg; have hcz4_0 : w3.cell? ⟨gb101, 0, none⟩ = some (.slice A0_0 l0_0.length c0_0) := (blk_cell BK101.out 0).trans rfl; have hcz4_1 : w3.cell? ⟨gb101, 1, none⟩ = some (.int .i64 a0_1) := (blk_cell BK101.out 1).trans rfl; have hcz4_2 : w3.cell? ⟨gb101, 2, none⟩ = some (.int .i64 a0_2) := (blk_cell BK101.out 2).trans rfl; have hfz4_0 := blk_frozen BK101.out 0; have hfz4_1 := blk_frozen BK101.out 1; have hfz4_2 := blk_frozen BK101.out 2) | ((with_reducible refine gate_callee (f := 43) rfl ?_); refine goesL_ (some 11) rfl rfl Try.func43 (by kernel_rfl) rfl #[.agg #[.slice A0_0 l0_0.length c0_0, .int .i64 a0_1, .int .i64 a0_2]] rfl (by (try simp only [List.map_toArray, List.map_cons, List.map_nil]); first | done | rfl | (simp only [List.length_drop, List.length_take]; rfl)) ?_; (with_reducible refine (Hs.ring_Points.calls _ _ l0_0 a0_1 a0_2 t102 t105 _ ?side1 ?side2 A2.out).mono ?_); (case side1 => repeat (first | exact (Kd.C_below HR0_0.out HB.out) | (with_reducible refine Kd.C_alloc ?_ _) | (with_reducible refine Kd.C_drewN ?_ _) | (with_reducible refine Kd.C_drew ?_))); (case side2 => exact HC0_0.out); rintro e w5 ⟨v103, rfl, ho0, hb⟩; refine ⟨_, rfl, ?_⟩; have n0_ := Aside0.mk (Kd.R_lower ho0 (below_size (by repeat (first | (with_reducible first | exact HB.out | apply below_alloc | apply pw_below_drewN | apply below_drew1 | refine below_set ?_ GE101.out) | exact HB.out)))); have n1_ := Aside0.mk (blk_below (g := gb101) (o := .cells #[.slice A0_0 l0_0.length c0_0, .int .i64 a0_1, .int .i64 a0_2] 42 (0, 0)) (by (with_reducible repeat (first | refine blk_drewN ?_ _ | refine blk_drew ?_ | refine blk_alloc ?_ _)); exact BK101.out) hb); have n2_ := Aside0.mk (below_step (by repeat (first | (with_reducible first | exact HB.out | apply below_alloc | apply pw_below_drewN | apply below_drew1 | refine below_set ?_ GE101.out) | exact HB.out)) hb); clear BK101; clear HB; have HO104 := n0_; have BK101 := n1_; have HB := n2_; clear n0_ n1_ n2_; (try clear hb); (try clear hb2); (try clear hk); (try clear hi); (try clear ho0); obtain ⟨Ao6, co6, eo6⟩ := Kd.R_slice HO104.out; subst eo6))
  go_loopg [6, 16] k (fun kq v6 v16 w' => ∃ (x6_1 : List (List Int)) (x16_1 : Int), v16 = .int .i64 x16_1 ∧ Aside0 (ring_Lists.l0 kq t102 t105 x6_1 t102 (t102.length : Int) x16_1 l0_0 a0_1 a0_2 = some (r1, r2)) ∧ Aside0 (kq ≤ k) ∧ Aside0 (Kd.R k70 70 w' w.heap.size (fun _ => True) (.slice Ao6 t102.length co6) t102) ∧ Aside0 (Kd.S (Kd.slice 3 (Kd.int .i64)) 22 w' w.heap.size (fun _ => True) v6 x6_1) ∧ Aside0 (Kd.R k70 70 w' w.heap.size (fun _ => True) (.slice Ao6 t102.length co6) t102) ∧ Aside0 (w'.heap[gb101]? = some (.cells #[(.slice A0_0 l0_0.length c0_0), .int .i64 a0_1, .int .i64 a0_2] 42 (0, 0))) ∧ Aside0 (Below w.heap.size w w'))
  case atStart => exact ⟨(([] : List (List Int))), (0), (by first | rfl | (simp; done) | (simp [*]; done)), H', ⟨Nat.le_refl _⟩, ⟨by (with_reducible repeat (first | apply Kd.R_alloc | apply Kd.R_drewN | apply Kd.R_drew)); exact HO104.out⟩, ⟨by first | exact Kd.S_nil _ _ _ _ _ | exact Kd.N_nil _ _ _ _ _ | exact Kd.V_nil _ _ _ _ _ | exact Kd.Q_nil _ _ _ _ _ | exact Kd.R_nil _ _ _ _ _⟩, ⟨by (with_reducible repeat (first | apply Kd.R_alloc | apply Kd.R_drewN | apply Kd.R_drew)); exact HO104.out⟩, ⟨by (with_reducible repeat (first | refine blk_drewN ?_ _ | refine blk_drew ?_ | refine blk_alloc ?_ _)); exact BK101.out⟩, ⟨by repeat (first | (with_reducible first | exact HB.out | apply below_alloc | apply pw_below_drewN | apply below_drew1 | refine below_set ?_ GE101.out) | exact HB.out)⟩⟩
  case round =>
    clear H'
    try clear p2
    try clear c3
    try clear c4
    try clear hcz4_0
    try clear hcz4_1
    try clear hcz4_2
    try clear hfz4_0
    try clear hfz4_1
    try clear hfz4_2
    obtain ⟨x6_1, x16_1, rfl, HA, HK1, HO_4, HO_6, HO_14, BK101, HB⟩ := hrel
    cases gk with
    | zero => exact absurd HA.out (by simp [ring_Lists.l0])
    | succ k1 =>
      have H := HA.out
      clear HA
      simp only [ring_Lists.l0] at H
      by_cases c7 : x16_1 < (t102.length : Int)
      · rw [if_pos c7] at H
        have c7b0 : decide (x16_1 < (t102.length : Int)) = true := decide_eq_true c7
        clear c7
        by_cases c8 : 0 ≤ x16_1
        · rw [if_pos c8] at H
          have c8b0 : decide (0 ≤ x16_1) = true := decide_eq_true c8
          clear c8
          by_cases c9 : x16_1 < (t102.length : Int)
          · rw [if_pos c9] at H
            have c9b0 : decide (x16_1 < (t102.length : Int)) = true := decide_eq_true c9
            clear c9
            replace H := Option.bind_eq_some_iff.mp H
            obtain ⟨t108, A100, H⟩ := H
            replace H : ((Hs.ring_meet.f t102 t108 a0_2).bind fun t109 => (if x6_1.length < 5864062014805 then (ring_Lists.l0 k1 t102 t105 (x6_1 ++ [t109]) t102 (t102.length : Int) (wrap64 (x16_1 + 1)) l0_0 a0_1 a0_2) else (none))) = some (r1, r2) := H
            have A10 := Aside0.mk A100
            clear A100
            replace H := Option.bind_eq_some_iff.mp H
            obtain ⟨t109, A110, H⟩ := H
            replace H : (if x6_1.length < 5864062014805 then (ring_Lists.l0 k1 t102 t105 (x6_1 ++ [t109]) t102 (t102.length : Int) (wrap64 (x16_1 + 1)) l0_0 a0_1 a0_2) else (none)) = some (r1, r2) := H
            have A11 := Aside0.mk A110
            clear A110
            by_cases c12 : x6_1.length < 5864062014805
            · rw [if_pos c12] at H
              have LMc12 := Aside0.mk c12
              clear c12
              obtain ⟨y112, hy112⟩ : ∃ y_ : List (List Int), y_ = (x6_1 ++ [t109]) := ⟨_, rfl⟩
              replace H : (ring_Lists.l0 k1 t102 t105 y112 t102 (t102.length : Int) (wrap64 (x16_1 + 1)) l0_0 a0_1 a0_2) = some (r1, r2) := by first | (rw [hy112]; with_reducible exact H) | (have H2_ := (Option.bind_some _ _).symm.trans H; rw [hy112]; with_reducible exact H2_) | (have H2_ := (Option.bind_some _ _).symm.trans H; with_reducible exact H2_) | with_reducible exact H | (rw [hy112]; exact H) | exact H
              have Ny112 := Aside0.mk hy112
              clear hy112
              have H' := Aside0.mk H
              clear H
              have p106 : 0 ≤ (x16_1 : Int) := of_decide_eq_true (by first | (with_reducible assumption) | assumption)
              have q106 : x16_1 < (t102.length : Int) := of_decide_eq_true (by first | (with_reducible assumption) | assumption)
              obtain ⟨ad106, e106, hx106_0, hx106_1⟩ := at_T70 (Kd.R_reads' HO_14.out).2.2 x16_1 p106 q106
              cases e106
              replace p106 := eq_true p106
              replace q106 := eq_true q106
              try go_wp2_with (first | ((with_reducible refine gate_dst (N := 8) rfl ?_); refine box_event ?hg (N := 8) ?hd (cs := #[.int .u64 0, .int .i64 0]) (t := 70) ?hr ?_; (case hd => rfl); (case hg => rfl); (case hr => first | (go_simp; done) | (go_simp; rfl)); intro gb107 hg w13 hbox hb; have n0_ := Aside0.mk (Kd.R_below (Kd.R_elderB (by (with_reducible repeat (first | apply Kd.R_alloc | apply Kd.R_drewN | apply Kd.R_drew)); exact HO_4.out) gb107 (Nat.le_of_eq hg.symm)) hb); have n1_ := Aside0.mk (Kd.S_below (by (with_reducible repeat (first | apply Kd.S_alloc | apply Kd.S_drewN | apply Kd.S_drew)); exact HO_6.out) hb); have n2_ := Aside0.mk (Kd.R_below (Kd.R_elderB (by (with_reducible repeat (first | apply Kd.R_alloc | apply Kd.R_drewN | apply Kd.R_drew)); exact HO_14.out) gb107 (Nat.le_of_eq hg.symm)) hb); have n3_ := Aside0.mk (blk_below (g := gb101) (o := .cells #[.slice A0_0 l0_0.length c0_0, .int .i64 a0_1, .int .i64 a0_2] 42 (0, 0)) (by (with_reducible repeat (first | refine blk_drewN ?_ _ | refine blk_drew ?_ | refine blk_alloc ?_ _)); exact BK101.out) hb); have n4_ := Aside0.mk (below_step (by repeat (first | (with_reducible first | exact HB.out | apply below_alloc | apply pw_below_drewN | apply below_drew1 | refine below_set ?_ GE101.out) | exact HB.out)) hb); have n5_ := Aside0.mk (hbox); have n6_ := Aside0.mk ((by rw [hg]; exact (below_size (by repeat (first | (with_reducible first | exact HB.out | apply below_alloc | apply pw_below_drewN | apply below_drew1 | refine below_set ?_ GE101.out) | exact HB.out))) : w.heap.size ≤ gb107)); have n7_ := Aside0.mk ((by rw [hg]; exact (below_size (by repeat (first | (with_reducible first | exact HB.out | apply below_alloc | apply pw_below_drewN | apply below_drew1 | refine below_set ?_ GE101.out) | exact HB.out))) : w.heap.size ≤ gb107)); have n8_ := Aside0.mk ((by rw [hg]; exact Nat.ne_of_lt (blk_lt (g := gb101) (o := .cells #[.slice A0_0 l0_0.length c0_0, .int .i64 a0_1, .int .i64 a0_2] 42 (0, 0)) (by (with_reducible repeat (first | refine blk_drewN ?_ _ | refine blk_drew ?_ | refine blk_alloc ?_ _)); exact BK101.out)) : gb101 ≠ gb107)); have n9_ := Aside0.mk ((by rw [hg]; exact Nat.ne_of_gt (blk_lt (g := gb101) (o := .cells #[.slice A0_0 l0_0.length c0_0, .int .i64 a0_1, .int .i64 a0_2] 42 (0, 0)) (by (with_reducible repeat (first | refine blk_drewN ?_ _ | refine blk_drew ?_ | refine blk_alloc ?_ _)); exact BK101.out)) : gb107 ≠ gb101)); clear HO_4; clear HO_6; clear HO_14; clear BK101; clear HB; have HO_4 := n0_; have HO_6 := n1_; have HO_14 := n2_; have BK101 := n3_; have HB := n4_; have BK107 := n5_; have GW107 := n6_; have GE107 := n7_; have NB101_107 := n8_; have NB107_101 := n9_; clear n0_ n1_ n2_ n3_ n4_ n5_ n6_ n7_ n8_ n9_; clear hb hbox hg; have hnb14 := NB107_101.out; have hnc14 := NB101_107.out; have hcz15_0 : w13.cell? ⟨gb107, 0, none⟩ = some (.int .u64 0) := (blk_cell BK107.out 0).trans rfl; have hcz15_1 : w13.cell? ⟨gb107, 1, none⟩ = some (.int .i64 0) := (blk_cell BK107.out 1).trans rfl; have hfz15_0 := blk_frozen BK107.out 0; have hfz15_1 := blk_frozen BK107.out 1))
              have n0_ : Aside0 (Kd.R k70 70 ((w13.setCell ⟨gb107, 0, none⟩ (.int .u64 ((rd_T70 t102 x16_1).f0))).setCell ⟨gb107, 1, none⟩ (.int .i64 ((rd_T70 t102 x16_1).f1))) w.heap.size (fun k_ => k_ ≠ gb107) (.slice (some ad106) t102.length co6) t102) := ⟨by (with_reducible repeat (first | apply Kd.R_alloc | apply Kd.R_drewN | apply Kd.R_drew)); exact Kd.R_mono (Kd.R_far (p := ⟨gb107, 1, none⟩) (Kd.R_far (p := ⟨gb107, 0, none⟩) (Kd.R_mono HO_4.out (fun k_ hk => (⟨hk, hk.2⟩ : _ ∧ k_ ≠ gb107))) (fun _ hk => hk.2) (.int .u64 ((rd_T70 t102 x16_1).f0))) (fun _ hk => hk.2) (.int .i64 ((rd_T70 t102 x16_1).f1))) (fun _ hk => hk.1.2)⟩
              have n1_ : Aside0 (Kd.S (Kd.slice 3 (Kd.int .i64)) 22 ((w13.setCell ⟨gb107, 0, none⟩ (.int .u64 ((rd_T70 t102 x16_1).f0))).setCell ⟨gb107, 1, none⟩ (.int .i64 ((rd_T70 t102 x16_1).f1))) w.heap.size (fun _ => True) u6 x6_1) := ⟨by (with_reducible repeat (first | apply Kd.S_alloc | apply Kd.S_drewN | apply Kd.S_drew)); exact Kd.S_mono (Kd.S_far (p := ⟨gb107, 1, none⟩) (Kd.S_far (p := ⟨gb107, 0, none⟩) (Kd.S_types HO_6.out BK107.out (by decide)) (fun _ hk => hk.2) (.int .u64 ((rd_T70 t102 x16_1).f0))) (fun _ hk => hk.2) (.int .i64 ((rd_T70 t102 x16_1).f1))) (fun _ hk => trivial)⟩
              have n2_ : Aside0 (Kd.R k70 70 ((w13.setCell ⟨gb107, 0, none⟩ (.int .u64 ((rd_T70 t102 x16_1).f0))).setCell ⟨gb107, 1, none⟩ (.int .i64 ((rd_T70 t102 x16_1).f1))) w.heap.size (fun k_ => k_ ≠ gb107) (.slice (some ad106) t102.length co6) t102) := ⟨by (with_reducible repeat (first | apply Kd.R_alloc | apply Kd.R_drewN | apply Kd.R_drew)); exact Kd.R_mono (Kd.R_far (p := ⟨gb107, 1, none⟩) (Kd.R_far (p := ⟨gb107, 0, none⟩) (Kd.R_mono HO_14.out (fun k_ hk => (⟨hk, hk.2⟩ : _ ∧ k_ ≠ gb107))) (fun _ hk => hk.2) (.int .u64 ((rd_T70 t102 x16_1).f0))) (fun _ hk => hk.2) (.int .i64 ((rd_T70 t102 x16_1).f1))) (fun _ hk => hk.1.2)⟩
              have n3_ : Aside0 (((w13.setCell ⟨gb107, 0, none⟩ (.int .u64 ((rd_T70 t102 x16_1).f0))).setCell ⟨gb107, 1, none⟩ (.int .i64 ((rd_T70 t102 x16_1).f1))).heap[gb101]? = some (.cells #[.slice A0_0 l0_0.length c0_0, .int .i64 a0_1, .int .i64 a0_2] 42 (0, 0))) := ⟨by (with_reducible repeat (first | refine blk_drewN ?_ _ | refine blk_drew ?_ | refine blk_alloc ?_ _)); refine blk_far ?_ NB101_107.out _; (with_reducible repeat (first | refine blk_drewN ?_ _ | refine blk_drew ?_ | refine blk_alloc ?_ _)); refine blk_far ?_ NB101_107.out _; (with_reducible repeat (first | refine blk_drewN ?_ _ | refine blk_drew ?_ | refine blk_alloc ?_ _)); exact BK101.out⟩
              have n4_ : Aside0 (((w13.setCell ⟨gb107, 0, none⟩ (.int .u64 ((rd_T70 t102 x16_1).f0))).setCell ⟨gb107, 1, none⟩ (.int .i64 ((rd_T70 t102 x16_1).f1))).heap[gb107]? = some (.cells #[.int .u64 ((rd_T70 t102 x16_1).f0), .int .i64 ((rd_T70 t102 x16_1).f1)] 70 (0, 0))) := ⟨by (with_reducible repeat (first | refine blk_drewN ?_ _ | refine blk_drew ?_ | refine blk_alloc ?_ _)); refine blk_put (cs := #[.int .u64 ((rd_T70 t102 x16_1).f0), .int .i64 0]) ?_ 1 _ rfl; (with_reducible repeat (first | refine blk_drewN ?_ _ | refine blk_drew ?_ | refine blk_alloc ?_ _)); refine blk_put (cs := #[.int .u64 0, .int .i64 0]) ?_ 0 _ rfl; (with_reducible repeat (first | refine blk_drewN ?_ _ | refine blk_drew ?_ | refine blk_alloc ?_ _)); exact BK107.out⟩
              have n5_ : Aside0 (Below w.heap.size w ((w13.setCell ⟨gb107, 0, none⟩ (.int .u64 ((rd_T70 t102 x16_1).f0))).setCell ⟨gb107, 1, none⟩ (.int .i64 ((rd_T70 t102 x16_1).f1)))) := ⟨by repeat (first | (with_reducible first | exact HB.out | apply below_alloc | apply pw_below_drewN | apply below_drew1 | refine below_set ?_ GE101.out | refine below_set ?_ GE107.out) | exact HB.out)⟩
              (try clear HO_4)
              (try clear HO_6)
              (try clear HO_14)
              (try clear BK101)
              (try clear BK107)
              (try clear HB)
              generalize ((w13.setCell ⟨gb107, 0, none⟩ (.int .u64 ((rd_T70 t102 x16_1).f0))).setCell ⟨gb107, 1, none⟩ (.int .i64 ((rd_T70 t102 x16_1).f1))) = w16 at n0_ n1_ n2_ n3_ n4_ n5_ ⊢
              have HO_4 := n0_
              have HO_6 := n1_
              have HO_14 := n2_
              have BK101 := n3_
              have BK107 := n4_
              have HB := n5_
              clear n0_ n1_ n2_ n3_ n4_ n5_
              have n0_ := Aside0.mk (Kd.R_drew HO_4.out)
              have n1_ := Aside0.mk (Kd.S_drew HO_6.out)
              have n2_ := Aside0.mk (Kd.R_drew HO_14.out)
              have n3_ := Aside0.mk (blk_drew BK101.out)
              have n4_ := Aside0.mk (blk_drew BK107.out)
              have n5_ := Aside0.mk (below_drew1 HB.out)
              clear HO_4
              clear HO_6
              clear HO_14
              clear BK101
              clear BK107
              clear HB
              have HO_4 := n0_
              have HO_6 := n1_
              have HO_14 := n2_
              have BK101 := n3_
              have BK107 := n4_
              have HB := n5_
              clear n0_ n1_ n2_ n3_ n4_ n5_
              refine start_ (n := 12) (S := fun w' => w'.cell? ⟨gb107, 0, none⟩ = some (.int .u64 ((rd_T70 t102 x16_1).f0)) ∧ w'.cell? ⟨gb107, 1, none⟩ = some (.int .i64 ((rd_T70 t102 x16_1).f1)) ∧ w'.cell? ⟨gb101, 0, none⟩ = some (.slice A0_0 l0_0.length c0_0) ∧ w'.cell? ⟨gb101, 1, none⟩ = some (.int .i64 a0_1) ∧ w'.cell? ⟨gb101, 2, none⟩ = some (.int .i64 a0_2)) (ds := []) #[false, false, false, false, false, false, false, false, false, false, false, false] (by kernel_rfl) rfl rfl ⟨(blk_cell BK107.out 0).trans rfl, (blk_cell BK107.out 1).trans rfl, (blk_cell BK101.out 0).trans rfl, (blk_cell BK101.out 1).trans rfl, (blk_cell BK101.out 2).trans rfl⟩ (fun hHeld => ?_); refine with_tabW ring_Lists.tab6 ring_Lists.bits6 (fun HT_ HW_ => ?_)
              generalize w16.drew = w17 at HO_4 HO_6 HO_14 BK101 BK107 HB hHeld ⊢
              refine pure_ (i := 0) (N := some 20) (v := ?_) (a' := ?_) #[true, false, false, false, false, false, false, false, false, false, false, false] rfl rfl (any_of HT_.out (by kernel_rfl)) (fun _ _ _ h => h) (Or.inl ⟨by rfl, ?_⟩) ?_ ?_
              rotate_left
              · intro w'
                go_simp
                with_reducible rfl
              rotate_left
              · simp only [Act.put, List.setIfInBounds_toArray, List.set_cons_zero, List.set_cons_succ, i64_w, i32_w]
                rfl
              refine pure_ (i := 1) (N := some 21) (v := ?_) (a' := ?_) #[true, true, false, false, false, false, false, false, false, false, false, false] rfl rfl (any_of HT_.out (by kernel_rfl)) (fun _ _ _ h => h) (Or.inl ⟨by rfl, ?_⟩) ?_ ?_
              rotate_left
              · intro w'
                go_simp
                with_reducible rfl
              rotate_left
              · simp only [Act.put, List.setIfInBounds_toArray, List.set_cons_zero, List.set_cons_succ, i64_w, i32_w]
                rfl
              refine pure_ (i := 2) (N := some 22) (v := ?_) (a' := ?_) #[true, true, true, false, false, false, false, false, false, false, false, false] rfl rfl (any_of HT_.out (by kernel_rfl)) (fun _ _ _ h => h) (Or.inl ⟨by rfl, ?_⟩) ?_ ?_
              rotate_left
              · intro w'
                go_simp
                with_reducible rfl
              rotate_left
              · simp only [Act.put, List.setIfInBounds_toArray, List.set_cons_zero, List.set_cons_succ, i64_w, i32_w]
                rfl
              refine pure_ (i := 3) (N := some 23) (v := ?_) (a' := ?_) #[true, true, true, true, false, false, false, false, false, false, false, false] rfl rfl (any_of HT_.out (by kernel_rfl)) (fun _ _ _ h => h) (Or.inl ⟨by rfl, ?_⟩) ?_ ?_
              rotate_left
              · intro w'
                go_simp
                with_reducible rfl
              rotate_left
              · simp only [Act.put, List.setIfInBounds_toArray, List.set_cons_zero, List.set_cons_succ, i64_w, i32_w]
                rfl
              refine pure_ (i := 6) (N := some 26) (v := ?_) (a' := ?_) #[true, true, true, true, false, false, true, false, false, false, false, false] rfl rfl (any_of HT_.out (by kernel_rfl)) (fun _ _ _ h => h) (Or.inl ⟨by rfl, ?_⟩) ?_ ?_
              rotate_left
              · intro w'
                go_simp
                with_reducible rfl
              rotate_left
              · simp only [Act.put, List.setIfInBounds_toArray, List.set_cons_zero, List.set_cons_succ, i64_w, i32_w]
                rfl
              refine take_ (i := 4) (N := some 24) (v := ?_) (a' := ?_) #[true, true, true, true, true, false, true, false, false, false, false, false] rfl rfl (take_ofW HT_.out HW_.out (by kernel_rfl)) (fun _ _ _ h => h) (Or.inl ⟨by rfl, ?_⟩) hHeld ?_ ?_
              rotate_left
              · rintro w' ⟨s0, s1, s2, s3, s4⟩
                go_simp
                with_reducible rfl
              rotate_left
              · simp only [Act.put, List.setIfInBounds_toArray, List.set_cons_zero, List.set_cons_succ, i64_w, i32_w]
                rfl
              refine take_ (i := 7) (N := some 27) (v := ?_) (a' := ?_) #[true, true, true, true, true, false, true, true, false, false, false, false] rfl rfl (take_ofW HT_.out HW_.out (by kernel_rfl)) (fun _ _ _ h => h) (Or.inl ⟨by rfl, ?_⟩) hHeld ?_ ?_
              rotate_left
              · rintro w' ⟨s0, s1, s2, s3, s4⟩
                go_simp
                with_reducible rfl
              rotate_left
              · simp only [Act.put, List.setIfInBounds_toArray, List.set_cons_zero, List.set_cons_succ, i64_w, i32_w]
                rfl
              refine one_ (i := 5) (N := some 25) #[true, true, true, true, true, true, true, true, false, false, false, false] rfl rfl (one_of HT_.out (by kernel_rfl)) (by decide) (fun K hK => ?_)
              refine goes_ Try.func45 (by kernel_rfl) rfl #[.slice (some ad106) t102.length co6, .int .u64 ((rd_T70 t102 x16_1).f0)] (by rfl) rfl rfl (by (try simp only [List.map_toArray, List.map_cons, List.map_nil]); first | done | rfl | (simp only [List.length_drop, List.length_take]; rfl)) ?_
              with_reducible refine (Hs.ring_first.calls _ _ t102 ((rd_T70 t102 x16_1).f0) t108 _ ?side1 ?side2 A10.out).mono ?_
              (case side1 => repeat (first | exact (Kd.R_reads' HO_4.out).2.2 | (with_reducible refine Kd.C_alloc ?_ _) | (with_reducible refine Kd.C_drewN ?_ _) | (with_reducible refine Kd.C_drew ?_)))
              (case side2 => exact (Kd.R_reads' HO_4.out).2.1)
              rintro e w18 ⟨rfl, hb⟩
              refine ⟨_, rfl, ?_⟩
              have n0_ := Aside0.mk (Kd.R_below (by (with_reducible repeat (first | apply Kd.R_alloc | apply Kd.R_drewN | apply Kd.R_drew)); exact HO_4.out) hb)
              have n1_ := Aside0.mk (Kd.S_below (by (with_reducible repeat (first | apply Kd.S_alloc | apply Kd.S_drewN | apply Kd.S_drew)); exact HO_6.out) hb)
              have n2_ := Aside0.mk (Kd.R_below (by (with_reducible repeat (first | apply Kd.R_alloc | apply Kd.R_drewN | apply Kd.R_drew)); exact HO_14.out) hb)
              have n3_ := Aside0.mk (blk_below (g := gb101) (o := .cells #[.slice A0_0 l0_0.length c0_0, .int .i64 a0_1, .int .i64 a0_2] 42 (0, 0)) (by (with_reducible repeat (first | refine blk_drewN ?_ _ | refine blk_drew ?_ | refine blk_alloc ?_ _)); exact BK101.out) hb)
              have n4_ := Aside0.mk (blk_below (g := gb107) (o := .cells #[.int .u64 ((rd_T70 t102 x16_1).f0), .int .i64 ((rd_T70 t102 x16_1).f1)] 70 (0, 0)) (by (with_reducible repeat (first | refine blk_drewN ?_ _ | refine blk_drew ?_ | refine blk_alloc ?_ _)); exact BK107.out) hb)
              have n5_ := Aside0.mk (below_step (by repeat (first | (with_reducible first | exact HB.out | apply below_alloc | apply pw_below_drewN | apply below_drew1 | refine below_set ?_ GE101.out | refine below_set ?_ GE107.out) | exact HB.out)) hb)
              clear HO_4
              clear HO_6
              clear HO_14
              clear BK101
              clear BK107
              clear HB
              have HO_4 := n0_
              have HO_6 := n1_
              have HO_14 := n2_
              have BK101 := n3_
              have BK107 := n4_
              have HB := n5_
              clear n0_ n1_ n2_ n3_ n4_ n5_
              (try clear hb)
              (try clear hb2)
              (try clear hk)
              (try clear hi)
              refine hK.out _ _ ⟨(blk_cell BK107.out 0).trans rfl, (blk_cell BK107.out 1).trans rfl, (blk_cell BK101.out 0).trans rfl, (blk_cell BK101.out 1).trans rfl, (blk_cell BK101.out 2).trans rfl⟩ (fun hHeld => ?_)
              clear hK K
              refine norm_ (a' := ?_) ?_ ?_
              rotate_left
              · show Act.put _ (some 25) _ = _
                simp only [Act.put, List.setIfInBounds_toArray, List.set_cons_zero, List.set_cons_succ, i64_w, i32_w]
                rfl
              refine one_ (i := 8) (N := some 28) #[true, true, true, true, true, true, true, true, true, false, false, false] rfl rfl (one_of HT_.out (by kernel_rfl)) (by decide) (fun K hK => ?_)
              refine goes_ Try.func44 (by kernel_rfl) rfl #[.slice (some ad106) t102.length co6, .int .i64 t108, .int .i64 a0_2] (by rfl) rfl rfl (by (try simp only [List.map_toArray, List.map_cons, List.map_nil]); first | done | rfl | (simp only [List.length_drop, List.length_take]; rfl)) ?_
              with_reducible refine (Hs.ring_meet.calls _ _ t102 t108 a0_2 t109 _ ?side1 ?side2 A11.out).mono ?_
              (case side1 => repeat (first | exact (Kd.R_reads' HO_4.out).2.2 | (with_reducible refine Kd.C_alloc ?_ _) | (with_reducible refine Kd.C_drewN ?_ _) | (with_reducible refine Kd.C_drew ?_)))
              (case side2 => exact (Kd.R_reads' HO_4.out).2.1)
              rintro e w19 ⟨v110, rfl, ho0, hb⟩
              refine ⟨_, rfl, ?_⟩
              have n0_ := Aside0.mk (Kd.R_below (by (with_reducible repeat (first | apply Kd.R_alloc | apply Kd.R_drewN | apply Kd.R_drew)); exact HO_4.out) hb)
              have n1_ := Aside0.mk (Kd.S_elder' (by (with_reducible repeat (first | apply Kd.S_alloc | apply Kd.S_drewN | apply Kd.S_drew)); exact HO_6.out) (Kd.R_base ho0) hb)
              have n2_ := Aside0.mk (Kd.R_below (by (with_reducible repeat (first | apply Kd.R_alloc | apply Kd.R_drewN | apply Kd.R_drew)); exact HO_14.out) hb)
              have n3_ := Aside0.mk (Kd.R_lower ho0 (below_size (by repeat (first | (with_reducible first | exact HB.out | apply below_alloc | apply pw_below_drewN | apply below_drew1 | refine below_set ?_ GE101.out | refine below_set ?_ GE107.out) | exact HB.out))))
              have n4_ := Aside0.mk (blk_below (g := gb101) (o := .cells #[.slice A0_0 l0_0.length c0_0, .int .i64 a0_1, .int .i64 a0_2] 42 (0, 0)) (by (with_reducible repeat (first | refine blk_drewN ?_ _ | refine blk_drew ?_ | refine blk_alloc ?_ _)); exact BK101.out) hb)
              have n5_ := Aside0.mk (blk_below (g := gb107) (o := .cells #[.int .u64 ((rd_T70 t102 x16_1).f0), .int .i64 ((rd_T70 t102 x16_1).f1)] 70 (0, 0)) (by (with_reducible repeat (first | refine blk_drewN ?_ _ | refine blk_drew ?_ | refine blk_alloc ?_ _)); exact BK107.out) hb)
              have n6_ := Aside0.mk (below_step (by repeat (first | (with_reducible first | exact HB.out | apply below_alloc | apply pw_below_drewN | apply below_drew1 | refine below_set ?_ GE101.out | refine below_set ?_ GE107.out) | exact HB.out)) hb)
              clear HO_4
              clear HO_6
              clear HO_14
              clear BK101
              clear BK107
              clear HB
              have HO_4 := n0_
              have HO_6 := n1_
              have HO_14 := n2_
              have HO111 := n3_
              have BK101 := n4_
              have BK107 := n5_
              have HB := n6_
              clear n0_ n1_ n2_ n3_ n4_ n5_ n6_
              (try clear hb)
              (try clear hb2)
              (try clear hk)
              (try clear hi)
              (try clear ho0)
              obtain ⟨Ao21, co21, eo21⟩ := Kd.R_slice HO111.out
              (first | subst eo21 | (injection eo21 with f1_ f2_ f3_; have f4_ := f1_.symm; have f5_ := f3_.symm; clear f1_ f2_ f3_; subst f4_; subst f5_))
              refine hK.out _ _ ⟨(blk_cell BK107.out 0).trans rfl, (blk_cell BK107.out 1).trans rfl, (blk_cell BK101.out 0).trans rfl, (blk_cell BK101.out 1).trans rfl, (blk_cell BK101.out 2).trans rfl⟩ (fun hHeld => ?_)
              clear hK K
              refine norm_ (a' := ?_) ?_ ?_
              rotate_left
              · show Act.put _ (some 28) _ = _
                simp only [Act.put, List.setIfInBounds_toArray, List.set_cons_zero, List.set_cons_succ, i64_w, i32_w]
                rfl
              refine one_ (i := 9) (N := some 29) #[true, true, true, true, true, true, true, true, true, true, false, false] rfl rfl (one_of HT_.out (by kernel_rfl)) (by decide) (fun K hK => ?_)
              refine value_ (w1 := ?_) (v := ?_) (by rfl) rfl ?_ ?_
              rotate_left 2
              · go_simp
                constructor
                · rfl
                · rfl
              refine hK.out _ _ ⟨(blk_cell (blk_alloc BK107.out _) 0).trans rfl, (blk_cell (blk_alloc BK107.out _) 1).trans rfl, (blk_cell (blk_alloc BK101.out _) 0).trans rfl, (blk_cell (blk_alloc BK101.out _) 1).trans rfl, (blk_cell (blk_alloc BK101.out _) 2).trans rfl⟩ (fun hHeld => ?_)
              clear hK K
              refine norm_ (a' := ?_) ?_ ?_
              rotate_left
              · show Act.put _ (some 29) _ = _
                simp only [Act.put, List.setIfInBounds_toArray, List.set_cons_zero, List.set_cons_succ, i64_w, i32_w]
                rfl
              refine one_ (i := 10) (N := some 30) #[true, true, true, true, true, true, true, true, true, true, true, false] rfl rfl (one_of HT_.out (by kernel_rfl)) (by decide) (fun K hK => ?_)
              refine Kd.S_append_step (Kd.slice 3 (Kd.int .i64)) (w0 := w) w.heap.size (by rfl) (.tmp 20) (.tmp 29) 58 22 (.slice none 0 0) 24 rfl Try.underlying58 info22 rfl (by decide) (by omega) u6 x6_1 t109 [.slice Ao21 t109.length co21] (fun _ => True) (fun k_ => some k_ = (.slice Ao21 t109.length co21 : Value).ownBlock) rfl rfl ?aP (fun k_ hk_ => ((Kd.R_mono (ok' := fun k_ => ((fun _ => True)) k_ ∧ some k_ ≠ (u6 : Value).ownBlock) (Kd.R_apart' (HO111.out) (Kd.S_typed HO_6.out) (by decide)) (fun k_ hk => ⟨trivial, hk.2⟩))).1 k_ hk_.symm) ?aF ?aO ?aB ?aS ?aL ?_
              (case aP => exact Kd.M_row (Kd.R_mono (Kd.R_tight rfl (Kd.R_mono (ok' := fun k_ => ((fun _ => True)) k_ ∧ some k_ ≠ (u6 : Value).ownBlock) (Kd.R_apart' (HO111.out) (Kd.S_typed HO_6.out) (by decide)) (fun k_ hk => ⟨trivial, hk.2⟩))) (fun _ h_ => h_)))
              (case aB => exact (by repeat (first | (with_reducible first | exact HB.out | apply below_alloc | apply pw_below_drewN | apply below_drew1 | refine below_set ?_ GE101.out | refine below_set ?_ GE107.out) | exact HB.out)))
              (case aF => exact (fun _ _ => trivial))
              (case aO => exact (by (with_reducible repeat (first | apply Kd.S_alloc | apply Kd.S_drewN | apply Kd.S_drew)); exact Kd.S_mono HO_6.out (fun k_ hk => ⟨trivial, fun e_ => hk.2 e_⟩)))
              (case aS => exact (below_size (by repeat (first | (with_reducible first | exact HB.out | apply below_alloc | apply pw_below_drewN | apply below_drew1 | refine below_set ?_ GE101.out | refine below_set ?_ GE107.out) | exact HB.out))))
              (case aL => have := LMc12.out; omega)
              intro v113 w20 ho hb hg hat
              rw [← Ny112.out] at ho
              have n0_ := Aside0.mk (Kd.R_over' (by (with_reducible repeat (first | apply Kd.R_alloc | apply Kd.R_drewN | apply Kd.R_drew)); exact HO_4.out) (Kd.S_typed (by (with_reducible repeat (first | apply Kd.S_alloc | apply Kd.S_drewN | apply Kd.S_drew)); exact HO_6.out)) (by decide) hg)
              have n1_ := Aside0.mk (Kd.R_over' (by (with_reducible repeat (first | apply Kd.R_alloc | apply Kd.R_drewN | apply Kd.R_drew)); exact HO_14.out) (Kd.S_typed (by (with_reducible repeat (first | apply Kd.S_alloc | apply Kd.S_drewN | apply Kd.S_drew)); exact HO_6.out)) (by decide) hg)
              have n2_ := Aside0.mk (blk_grown (g := gb101) (o := .cells #[.slice A0_0 l0_0.length c0_0, .int .i64 a0_1, .int .i64 a0_2] 42 (0, 0)) (by (with_reducible repeat (first | refine blk_drewN ?_ _ | refine blk_drew ?_ | refine blk_alloc ?_ _)); exact BK101.out) hg (Kd.S_ne HO_6.out BK101.out (by decide)))
              have n3_ := Aside0.mk (blk_grown (g := gb107) (o := .cells #[.int .u64 ((rd_T70 t102 x16_1).f0), .int .i64 ((rd_T70 t102 x16_1).f1)] 70 (0, 0)) (by (with_reducible repeat (first | refine blk_drewN ?_ _ | refine blk_drew ?_ | refine blk_alloc ?_ _)); exact BK107.out) hg (Kd.S_ne HO_6.out BK107.out (by decide)))
              have n4_ := Aside0.mk (hb)
              have n5_ := Aside0.mk (ho)
              clear HO_4
              clear HO_14
              clear BK101
              clear BK107
              clear HB
              clear HO_6
              clear HO111
              have HO_4 := n0_
              have HO_14 := n1_
              have BK101 := n2_
              have BK107 := n3_
              have HB := n4_
              have HO114 := n5_
              clear n0_ n1_ n2_ n3_ n4_ n5_
              clear ho hb hg hat
              refine hK.out _ _ ⟨(blk_cell BK107.out 0).trans rfl, (blk_cell BK107.out 1).trans rfl, (blk_cell BK101.out 0).trans rfl, (blk_cell BK101.out 1).trans rfl, (blk_cell BK101.out 2).trans rfl⟩ (fun hHeld => ?_)
              clear hK K
              refine norm_ (a' := ?_) ?_ ?_
              rotate_left
              · show Act.put _ (some 30) _ = _
                simp only [Act.put, List.setIfInBounds_toArray, List.set_cons_zero, List.set_cons_succ, i64_w, i32_w]
                rfl
              refine pure_ (i := 11) (N := some 6) (v := ?_) (a' := ?_) #[true, true, true, true, true, true, true, true, true, true, true, true] rfl rfl (any_of HT_.out (by kernel_rfl)) (fun _ _ _ h => h) (Or.inl ⟨by rfl, ?_⟩) ?_ ?_
              rotate_left
              · intro w'
                go_simp
                with_reducible rfl
              rotate_left
              · simp only [Act.put, List.setIfInBounds_toArray, List.set_cons_zero, List.set_cons_succ, i64_w, i32_w]
                rfl
              refine done_ (done_of HT_.out (by kernel_rfl)) ?_
              try go_wp2
              go_roundg k1
              case measure => have := HK1.out; omega
              case rel => exact ⟨(y112), (wrap64 (x16_1 + 1)), (by first | rfl | (simp; done) | (simp [*]; done)), H', ⟨by have := HK1.out; omega⟩, ⟨by (with_reducible repeat (first | apply Kd.R_alloc | apply Kd.R_drewN | apply Kd.R_drew)); exact Kd.R_mono HO_4.out (fun _ hk => trivial)⟩, ⟨by (with_reducible repeat (first | apply Kd.S_alloc | apply Kd.S_drewN | apply Kd.S_drew)); exact HO114.out⟩, ⟨by (with_reducible repeat (first | apply Kd.R_alloc | apply Kd.R_drewN | apply Kd.R_drew)); exact Kd.R_mono HO_14.out (fun _ hk => trivial)⟩, ⟨by (with_reducible repeat (first | refine blk_drewN ?_ _ | refine blk_drew ?_ | refine blk_alloc ?_ _)); exact BK101.out⟩, ⟨by repeat (first | (with_reducible first | exact HB.out | apply below_alloc | apply pw_below_drewN | apply below_drew1 | refine below_set ?_ GE101.out | refine below_set ?_ GE107.out) | exact HB.out)⟩⟩
            · rw [if_neg c12] at H
              exact absurd H (by simp)
          · rw [if_neg c9] at H
            exact absurd H (by simp)
        · rw [if_neg c8] at H
          exact absurd H (by simp)
      · rw [if_neg c7] at H
        have c7b0 : decide (x16_1 < (t102.length : Int)) = false := decide_eq_false c7
        clear c7
        simp only [Option.some.injEq, Prod.mk.injEq] at H
        obtain ⟨rfl, rfl⟩ := H
        go_wp2
        go_ret2
        exact ⟨_, by first | rfl | (simp [errW_none, errW_some] <;> rfl) | (simp [*, errW_none, errW_some] <;> rfl), by (with_reducible repeat (first | apply Kd.S_alloc | apply Kd.S_drewN | apply Kd.S_drew)); exact HO_6.out, by repeat (first | (with_reducible first | exact HB.out | apply below_alloc | apply pw_below_drewN | apply below_drew1 | refine below_set ?_ GE101.out) | exact HB.out)⟩
end Go.Proofs.Yteocngcojijnkaa.QR
namespace Go.Proofs.Yteocngcojijnkaa.QR
open Go.Proofs.Yteocngcojijnkaa.QH
open Go.RowKit Go.Proofs.YteocngcojijnkaaW.PrintWords Go.Proofs.YteocngcojijnkaaW.PrintLast Go.Proofs.YteocngcojijnkaaW.PrintMore
attribute [local go_sem] max2_int min2_int max_two min_two max_three min_three max_four min_four   -- for this text's walks alone
set_option linter.unusedVariables false
set_option linter.unusedSimpArgs false
end Go.Proofs.Yteocngcojijnkaa.QR
namespace Go.Proofs.Yteocngcojijnkaa.Hs
open Go.RowKit Go.Proofs.Yteocngcojijnkaa.QH Go.Proofs.Yteocngcojijnkaa.Lex Go.Proofs.Yteocngcojijnkaa.Rg
open Go.Proofs.YteocngcojijnkaaW.PrintWords Go.Proofs.YteocngcojijnkaaW.PrintLast Go.Proofs.YteocngcojijnkaaW.PrintMore
set_option linter.unusedVariables false
set_option linter.unusedSimpArgs false
def listsP (l : List Int) (each keep : Int) : List (List Int) := (ptsP l each).map fun p => keepR l each p.f0 keep.toNat
theorem lists_l0 {l : List Int} {each keep : Int} (ho : okB l each keep = true) : ∀ (n i : Nat) (acc : List (List Int)), (ptsP l each).length - i = n → i ≤ (ptsP l each).length → acc.length = i →
    Since (fun k => QR.ring_Lists.l0 k (ptsP l each) 0 acc (ptsP l each) ((ptsP l each).length : Int) (i : Int) l each keep) (acc ++ ((ptsP l each).drop i).map fun p => keepR l each p.f0 keep.toNat, 0) := by
  have hsm := rawP_small ho
  intro n
  induction n with
  | zero =>
    intro i acc hn hi ha
    have hf : ¬ ((i : Int) < ((ptsP l each).length : Int)) := by omega
    rw [List.drop_eq_nil_of_le (by omega)]
    exact Since.none fun k => by simp only [QR.ring_Lists.l0, if_neg hf, List.map_nil, List.append_nil]
  | succ n ih =>
    intro i acc hn hi ha
    have h1 : i < (ptsP l each).length := by omega
    have f1 : (i : Int) < ((ptsP l each).length : Int) := by omega
    have f0 : (0 : Int) ≤ (i : Int) := by omega
    have r1 : QH.rd_T70 (ptsP l each) (i : Int) = (ptsP l each)[i] := by unfold QH.rd_T70; rw [show (i : Int).toNat = i from rfl]; simp [h1]
    refine Since.one (ih (i + 1) (acc ++ [keepR l each (ptsP l each)[i].f0 keep.toNat]) (by omega) (by omega) (by rw [List.length_append, ha]; rfl)) fun k hk => ?_
    simp only [QR.ring_Lists.l0, if_pos f1, if_pos f0, r1, first_at ho, meet_at ho, Option.bind_some, w_succ' i (by omega)]
    rw [if_pos (by omega), hk, List.drop_eq_getElem_cons h1, List.map_cons, List.append_assoc]
    rfl
theorem lists_ok {l : List Int} {each keep : Int} (ho : okB l each keep = true) : Since (fun k => QR.ring_Lists.f k l each keep) (listsP l each keep, 0) := by
  have h := lists_l0 ho _ 0 [] rfl (Nat.zero_le _) rfl
  rw [List.drop_zero, List.nil_append] at h
  refine h.map fun k hk => ?_
  simp only [QR.ring_Lists.f, points_at ho, Option.bind_some]
  exact hk
theorem lists_out {l : List Int} {each keep : Int} (ho : okB l each keep = false) : Since (fun k => QR.ring_Lists.f k l each keep) ([], 2) := by
  refine Since.none fun k => ?_
  simp only [QR.ring_Lists.f, points_out ho, Option.bind_some, QR.ring_Lists.l0]
  rfl
theorem rlists_l0 {l : List Int} {each keep : Int} (ho : okB l each keep = true) : ∀ (n i : Nat) (acc : List (List Int)), (ptsP l each).length - i = n → i ≤ (ptsP l each).length → acc.length = i →
    Since (fun k => icehouseref09_Lists.l0 k (ptsP l each) acc (i : Int) l each keep) (acc ++ ((ptsP l each).drop i).map fun p => keepR l each p.f0 keep.toNat) := by
  have hsm := rawP_small ho
  intro n
  induction n with
  | zero =>
    intro i acc hn hi ha
    have hf : ¬ ((i : Int) < ((ptsP l each).length : Int)) := by omega
    rw [List.drop_eq_nil_of_le (by omega)]
    exact Since.none fun k => by simp only [icehouseref09_Lists.l0, if_neg hf, List.map_nil, List.append_nil]
  | succ n ih =>
    intro i acc hn hi ha
    have h1 : i < (ptsP l each).length := by omega
    have f1 : (i : Int) < ((ptsP l each).length : Int) := by omega
    have f0 : (0 : Int) ≤ (i : Int) := by omega
    have r1 : QH.rd_T70 (ptsP l each) (i : Int) = (ptsP l each)[i] := by unfold QH.rd_T70; rw [show (i : Int).toNat = i from rfl]; simp [h1]
    refine Since.two (ih (i + 1) (acc ++ [keepR l each (ptsP l each)[i].f0 keep.toNat]) (by omega) (by omega) (by rw [List.length_append, ha]; rfl)) (rat_ev ho (ptsP l each)[i].f0) fun k hk ha => ?_
    simp only [icehouseref09_Lists.l0, if_pos f1, if_pos f0, r1, w_succ' i (by omega)]
    rw [ha, Option.bind_some, if_pos (by omega), hk, List.drop_eq_getElem_cons h1, List.map_cons, List.append_assoc]
    rfl
theorem rlists_ev {l : List Int} {each keep : Int} (ho : okB l each keep = true) : Since (fun k => icehouseref09_Lists.f k l each keep) (listsP l each keep) := by
  have h := rlists_l0 ho _ 0 [] rfl (Nat.zero_le _) rfl
  rw [List.drop_zero, List.nil_append] at h
  refine (rpoints_ev ho).and h fun k hp hk => ?_
  simp only [icehouseref09_Lists.f]
  rw [hp, Option.bind_some]
  exact hk
end Go.Proofs.Yteocngcojijnkaa.Hs
namespace Go.Proofs.Yteocngcojijnkaa.QO
open Go.RowKit Go.Proofs.YteocngcojijnkaaW.PrintWords Go.Proofs.YteocngcojijnkaaW.PrintLast Go.Proofs.YteocngcojijnkaaW.PrintMore
attribute [local go_sem] max2_int min2_int max_two min_two max_three min_three max_four min_four   -- for this text's walks alone
set_option linter.unusedVariables false
set_option linter.unusedSimpArgs false
def errW : Option Int → Value
  | none => .nilIface
  | some c => .iface 0 (.int .i64 c)
theorem errW_none : errW none = .nilIface := rfl
theorem errW_some (c : Int) : errW (some c) = .iface 0 (.int .i64 c) := rfl
theorem info3 : (Try.prog.info? 3).map (fun i => (i.zero, i.size, i.bytes)) = some (some (.int .i64 0), 1, 8) := by kernel_rfl
-- the values' own types
end Go.Proofs.Yteocngcojijnkaa.QO
namespace Go.Proofs.Yteocngcojijnkaa.QO
open Go.RowKit Go.Proofs.YteocngcojijnkaaW.PrintWords Go.Proofs.YteocngcojijnkaaW.PrintLast Go.Proofs.YteocngcojijnkaaW.PrintMore
attribute [local go_sem] max2_int min2_int max_two min_two max_three min_three max_four min_four   -- for this text's walks alone
set_option linter.unusedVariables false
set_option linter.unusedSimpArgs false
/-! ### slices_Index_int_int: function 36 -/
def slices_Index_int_int.l0 : Nat → List Int → Int → Int → Int → Option (Int)
  | 0, _, _, _, _ => none
  | k + 1, x0, x1, x7, x8 => if x8 < x7 then (if 0 ≤ x8 then (if x8 < (x0.length : Int) then (if x1 = (rd x0 x8) then (some x8) else (slices_Index_int_int.l0 k x0 x1 x7 (wrap64 (x8 + 1)))) else (none)) else (none)) else (some (-1))
def slices_Index_int_int.f (k : Nat) (l0 : List Int) (a1 : Int) : Option (Int) := slices_Index_int_int.l0 k l0 a1 (l0.length : Int) 0
theorem slices_Index_int_int.mono_l : ∀ k, (∀ y0 y1 y2 y3, LeO (slices_Index_int_int.l0 k y0 y1 y2 y3) (slices_Index_int_int.l0 (k + 1) y0 y1 y2 y3))
  | 0 => fun _ _ _ _ r h => by simp [slices_Index_int_int.l0] at h
  | k + 1 => by
    have ih0 := slices_Index_int_int.mono_l k
    · intro y0 y1 y2 y3
      unfold slices_Index_int_int.l0
      repeat' first
      | (with_reducible exact ih0 _ _ _ _)
      | (with_reducible exact LeO.refl _)
      | (with_reducible exact LeO.none _)
      | (with_reducible refine LeO.ite ?_ ?_)
      | (with_reducible refine LeO.bind ?_ (fun _ => ?_))
      | exact ih0 _ _ _ _
      | exact LeO.none _
      | refine LeO.ite ?_ ?_
      | refine LeO.bind ?_ (fun _ => ?_)
theorem slices_Index_int_int.mono : ∀ a0 a1 k, LeO (slices_Index_int_int.f k a0 a1) (slices_Index_int_int.f (k + 1) a0 a1) := by
  intro a0 a1 k
  have ih0 := slices_Index_int_int.mono_l k
  unfold slices_Index_int_int.f
  repeat' first
      | (with_reducible exact ih0 _ _ _ _)
      | (with_reducible exact LeO.refl _)
      | (with_reducible exact LeO.none _)
      | (with_reducible refine LeO.ite ?_ ?_)
      | (with_reducible refine LeO.bind ?_ (fun _ => ?_))
      | exact ih0 _ _ _ _
      | exact LeO.none _
      | refine LeO.ite ?_ ?_
      | refine LeO.bind ?_ (fun _ => ?_)
set_option maxHeartbeats 8000000 in
set_option maxRecDepth 100000 in
theorem slices_Index_int_int.calls (k : Nat) (A0 : Option Addr) (c0 : Nat) (l0 : List Int) (a1 : Int) (r : Int) (w : World) (hr0 : Kd.C (Kd.int .i64) w A0 l0.length l0) (hc0 : l0.length ≤ c0) (h : slices_Index_int_int.f k l0 a1 = some r) :
    Calls Try.prog 36 #[.slice A0 l0.length c0, .int .i64 a1] w fun e w' => e = .returned (.int .i64 r) ∧ Drawn0 w w' := by
  have HR0 := Aside0.mk hr0
  have HC0 := Aside0.mk hc0
  clear hr0 hc0
  have H : (slices_Index_int_int.l0 k l0 a1 (l0.length : Int) 0) = some r := h
  clear h
  have H' := Aside0.mk H
  clear H
  go_enter Try.func36, Try.ntmps36
  go_wp2
  go_loopg [8] k (fun kq v8 w' => ∃ (x8_1 : Int), v8 = .int .i64 x8_1 ∧ Aside0 (slices_Index_int_int.l0 kq l0 a1 (l0.length : Int) x8_1 = some r) ∧ Aside0 (kq ≤ k) ∧ Drawn0 w w')
  case atStart => exact ⟨(0), (by first | rfl | (simp; done) | (simp [*]; done)), H', ⟨Nat.le_refl _⟩, by repeat (first | exact Drawn0.refl _ | apply Drawn0.step)⟩
  case round =>
    clear H'
    try clear p2
    obtain ⟨x8_1, rfl, HA, HK1, ⟨m1, rfl⟩⟩ := hrel
    cases gk with
    | zero => exact absurd HA.out (by simp [slices_Index_int_int.l0])
    | succ k1 =>
      have H := HA.out
      clear HA
      simp only [slices_Index_int_int.l0] at H
      by_cases c3 : x8_1 < (l0.length : Int)
      · rw [if_pos c3] at H
        have c3b0 : decide (x8_1 < (l0.length : Int)) = true := decide_eq_true c3
        clear c3
        by_cases c4 : 0 ≤ x8_1
        · rw [if_pos c4] at H
          have c4b0 : decide (0 ≤ x8_1) = true := decide_eq_true c4
          clear c4
          by_cases c5 : x8_1 < (l0.length : Int)
          · rw [if_pos c5] at H
            have c5b0 : decide (x8_1 < (l0.length : Int)) = true := decide_eq_true c5
            clear c5
            by_cases c6 : a1 = (rd l0 x8_1)
            · rw [if_pos c6] at H
              have c6b0 : (a1 == (rd l0 x8_1)) = true := beq_iff_eq.mpr c6
              have c6b1 : (a1 != (rd l0 x8_1)) = false := bne_eq_false_iff_eq.mpr c6
              clear c6
              obtain rfl := Option.some.inj H
              have p101 : 0 ≤ (x8_1 : Int) := of_decide_eq_true (by first | (with_reducible assumption) | assumption)
              have q101 : x8_1 < (l0.length : Int) := of_decide_eq_true (by first | (with_reducible assumption) | assumption)
              obtain ⟨ad101, e101, hx101_0⟩ := Kd.at_int HR0.out x8_1 p101 q101
              cases e101
              replace p101 := eq_true p101
              replace q101 := eq_true q101
              go_wp2
              go_ret
              exact ⟨by first | rfl | (simp; done) | (simp [*]; done), by repeat (first | exact Drawn0.refl _ | apply Drawn0.step)⟩
            · rw [if_neg c6] at H
              have c6b0 : (a1 == (rd l0 x8_1)) = false := beq_eq_false_iff_ne.mpr c6
              have c6b1 : (a1 != (rd l0 x8_1)) = true := bne_iff_ne.mpr c6
              have H' := Aside0.mk H
              clear H
              have p101 : 0 ≤ (x8_1 : Int) := of_decide_eq_true (by first | (with_reducible assumption) | assumption)
              have q101 : x8_1 < (l0.length : Int) := of_decide_eq_true (by first | (with_reducible assumption) | assumption)
              obtain ⟨ad101, e101, hx101_0⟩ := Kd.at_int HR0.out x8_1 p101 q101
              cases e101
              replace p101 := eq_true p101
              replace q101 := eq_true q101
              go_wp2
              go_roundg k1
              case measure => have := HK1.out; omega
              case rel => exact ⟨(wrap64 (x8_1 + 1)), (by first | rfl | (simp; done) | (simp [*]; done)), H', ⟨by have := HK1.out; omega⟩, by repeat (first | exact Drawn0.refl _ | apply Drawn0.step)⟩
          · rw [if_neg c5] at H
            exact absurd H (by simp)
        · rw [if_neg c4] at H
          exact absurd H (by simp)
      · rw [if_neg c3] at H
        have c3b0 : decide (x8_1 < (l0.length : Int)) = false := decide_eq_false c3
        clear c3
        obtain rfl := Option.some.inj H
        go_wp2
        go_ret
        exact ⟨by first | rfl | (simp; done) | (simp [*]; done), by repeat (first | exact Drawn0.refl _ | apply Drawn0.step)⟩
/-! ### slices_Contains_int_int: function 34 -/
def slices_Contains_int_int.f (k : Nat) (l0 : List Int) (a1 : Int) : Option (Bool) := (slices_Index_int_int.f k l0 a1).bind fun t102 => (some (decide (t102 ≥ 0)))
theorem slices_Contains_int_int.mono : ∀ a0 a1 k, LeO (slices_Contains_int_int.f k a0 a1) (slices_Contains_int_int.f (k + 1) a0 a1) := by
  intro a0 a1 k
  unfold slices_Contains_int_int.f
  repeat' first
      | (with_reducible exact slices_Index_int_int.mono _ _ _)
      | (with_reducible exact LeO.refl _)
      | (with_reducible exact LeO.none _)
      | (with_reducible refine LeO.ite ?_ ?_)
      | (with_reducible refine LeO.bind ?_ (fun _ => ?_))
      | exact slices_Index_int_int.mono _ _ _
      | exact LeO.none _
      | refine LeO.ite ?_ ?_
      | refine LeO.bind ?_ (fun _ => ?_)
set_option maxHeartbeats 8000000 in
set_option maxRecDepth 100000 in
theorem slices_Contains_int_int.calls (k : Nat) (A0 : Option Addr) (c0 : Nat) (l0 : List Int) (a1 : Int) (r : Bool) (w : World) (hr0 : Kd.C (Kd.int .i64) w A0 l0.length l0) (hc0 : l0.length ≤ c0) (h : slices_Contains_int_int.f k l0 a1 = some r) :
    Calls Try.prog 34 #[.slice A0 l0.length c0, .int .i64 a1] w fun e w' => e = .returned (.bool r) ∧ Drawn0 w w' := by
  have HR0 := Aside0.mk hr0
  have HC0 := Aside0.mk hc0
  clear hr0 hc0
  have H : ((slices_Index_int_int.f k l0 a1).bind fun t102 => (some (decide (t102 ≥ 0)))) = some r := h
  clear h
  replace H := Option.bind_eq_some_iff.mp H
  obtain ⟨t102, A30, H⟩ := H
  replace H : (some (decide (t102 ≥ 0))) = some r := H
  have A3 := Aside0.mk A30
  clear A30
  obtain rfl := Option.some.inj H
  go_enter Try.func34, Try.ntmps34
  go_wp2_with (first | ((with_reducible refine gate_callee (f := 36) rfl ?_); refine goesL_ (some 7) rfl rfl Try.func36 (by kernel_rfl) rfl #[.slice A0 l0.length c0, .int .i64 a1] rfl (by (try simp only [List.map_toArray, List.map_cons, List.map_nil]); first | done | rfl | (simp only [List.length_drop, List.length_take]; rfl)) ?_; (with_reducible refine (slices_Index_int_int.calls k _ _ l0 a1 t102 _ ?side1 ?side2 A3.out).mono ?_); (case side1 => repeat (first | exact HR0.out | (with_reducible refine Kd.C_alloc ?_ _) | (with_reducible refine Kd.C_drewN ?_ _) | (with_reducible refine Kd.C_drew ?_))); (case side2 => exact HC0.out); rintro e w' ⟨rfl, ⟨nd, rfl⟩⟩; refine ⟨_, rfl, ?_⟩))
  go_ret
  exact ⟨by first | rfl | (simp; done) | (simp [*]; done), by repeat (first | exact Drawn0.refl _ | apply Drawn0.step)⟩
/-- THE ONE PURE STATEMENT of slices_Contains_int_int: yours. -/
def slices_Contains_int_int.Pure : Prop := ∀ (l0 : List Int) (a1 : Int), l0.length ≤ maxLen → l0.length * 8 ≤ 140737488351232 → (∀ x ∈ l0, (Lit.int .i64 x).wf = true) → (Lit.int .i64 a1).wf = true → ∃ k, slices_Contains_int_int.f k l0 a1 = some true
/-! ### quorum_once: function 31 -/
def quorum_once.l0 : Nat → List Int → List Int → Int → Int → Option (List Int)
  | 0, _, _, _, _ => none
  | k + 1, x3, x6, x7, x8 => if x8 < x7 then (if 0 ≤ x8 then (if x8 < (x6.length : Int) then ((slices_Contains_int_int.f k x3 (rd x6 x8)).bind fun t104 => (if t104 = true then (quorum_once.l0 k x3 x6 x7 (wrap64 (x8 + 1))) else (if x3.length < 17592186044416 then (quorum_once.l0 k (x3 ++ [rd x6 x8]) x6 x7 (wrap64 (x8 + 1))) else (none)))) else (none)) else (none)) else (some x3)
def quorum_once.f (k : Nat) (l0 : List Int) : Option (List Int) := quorum_once.l0 k ([] : List Int) l0 (l0.length : Int) 0
theorem quorum_once.mono_l : ∀ k, (∀ y0 y1 y2 y3, LeO (quorum_once.l0 k y0 y1 y2 y3) (quorum_once.l0 (k + 1) y0 y1 y2 y3))
  | 0 => fun _ _ _ _ r h => by simp [quorum_once.l0] at h
  | k + 1 => by
    have ih0 := quorum_once.mono_l k
    · intro y0 y1 y2 y3
      unfold quorum_once.l0
      repeat' first
      | (with_reducible exact ih0 _ _ _ _)
      | (with_reducible exact slices_Contains_int_int.mono _ _ _)
      | (with_reducible exact LeO.refl _)
      | (with_reducible exact LeO.none _)
      | (with_reducible refine LeO.ite ?_ ?_)
      | (with_reducible refine LeO.bind ?_ (fun _ => ?_))
      | exact ih0 _ _ _ _
      | exact slices_Contains_int_int.mono _ _ _
      | exact LeO.none _
      | refine LeO.ite ?_ ?_
      | refine LeO.bind ?_ (fun _ => ?_)
theorem quorum_once.mono : ∀ a0 k, LeO (quorum_once.f k a0) (quorum_once.f (k + 1) a0) := by
  intro a0 k
  have ih0 := quorum_once.mono_l k
  unfold quorum_once.f
  repeat' first
      | (with_reducible exact ih0 _ _ _ _)
      | (with_reducible exact slices_Contains_int_int.mono _ _ _)
      | (with_reducible exact LeO.refl _)
      | (with_reducible exact LeO.none _)
      | (with_reducible refine LeO.ite ?_ ?_)
      | (with_reducible refine LeO.bind ?_ (fun _ => ?_))
      | exact ih0 _ _ _ _
      | exact slices_Contains_int_int.mono _ _ _
      | exact LeO.none _
      | refine LeO.ite ?_ ?_
      | refine LeO.bind ?_ (fun _ => ?_)
set_option maxHeartbeats 8000000 in
set_option maxRecDepth 100000 in
theorem quorum_once.calls (k : Nat) (A0 : Option Addr) (c0 : Nat) (l0 : List Int) (r : List Int) (w : World) (hr0 : Kd.C (Kd.int .i64) w A0 l0.length l0) (hc0 : l0.length ≤ c0) (h : quorum_once.f k l0 = some r) :
    Calls Try.prog 31 #[.slice A0 l0.length c0] w fun e w' => ∃ v0_ : Value, e = .returned (v0_) ∧ Kd.R (Kd.int .i64) 3 w' w.heap.size (fun _ => True) v0_ r ∧ Below w.heap.size w w' := by
  have HR0 := Aside0.mk hr0
  have HC0 := Aside0.mk hc0
  clear hr0 hc0
  have HB := Aside0.mk (Below.refl w.heap.size w)
  have H : (quorum_once.l0 k ([] : List Int) l0 (l0.length : Int) 0) = some r := h
  clear h
  have H' := Aside0.mk H
  clear H
  go_enter Try.func31, Try.ntmps31
  go_wp2
  go_loopg [3, 8] k (fun kq v3 v8 w' => ∃ (x3_1 : List Int) (x8_1 : Int), v8 = .int .i64 x8_1 ∧ Aside0 (quorum_once.l0 kq x3_1 l0 (l0.length : Int) x8_1 = some r) ∧ Aside0 (kq ≤ k) ∧ Aside0 (Kd.R (Kd.int .i64) 3 w' w.heap.size (fun _ => True) v3 x3_1) ∧ Aside0 (Below w.heap.size w w'))
  case atStart => exact ⟨(([] : List Int)), (0), (by first | rfl | (simp; done) | (simp [*]; done)), H', ⟨Nat.le_refl _⟩, ⟨by first | exact Kd.R_nil _ _ _ _ _ | exact Kd.N_nil _ _ _ _ _ | exact Kd.V_nil _ _ _ _ _ | exact Kd.Q_nil _ _ _ _ _ | exact Kd.S_nil _ _ _ _ _⟩, ⟨by repeat (first | (with_reducible first | exact HB.out | apply below_alloc | apply pw_below_drewN | apply below_drew1) | exact HB.out)⟩⟩
  case round =>
    clear H'
    obtain ⟨x3_1, x8_1, rfl, HA, HK1, HO_3, HB⟩ := hrel
    cases gk with
    | zero => exact absurd HA.out (by simp [quorum_once.l0])
    | succ k1 =>
      have H := HA.out
      clear HA
      simp only [quorum_once.l0] at H
      by_cases c2 : x8_1 < (l0.length : Int)
      · rw [if_pos c2] at H
        have c2b0 : decide (x8_1 < (l0.length : Int)) = true := decide_eq_true c2
        clear c2
        by_cases c3 : 0 ≤ x8_1
        · rw [if_pos c3] at H
          have c3b0 : decide (0 ≤ x8_1) = true := decide_eq_true c3
          clear c3
          by_cases c4 : x8_1 < (l0.length : Int)
          · rw [if_pos c4] at H
            have c4b0 : decide (x8_1 < (l0.length : Int)) = true := decide_eq_true c4
            clear c4
            replace H := Option.bind_eq_some_iff.mp H
            obtain ⟨t104, A50, H⟩ := H
            replace H : (if t104 = true then (quorum_once.l0 k1 x3_1 l0 (l0.length : Int) (wrap64 (x8_1 + 1))) else (if x3_1.length < 17592186044416 then (quorum_once.l0 k1 (x3_1 ++ [rd l0 x8_1]) l0 (l0.length : Int) (wrap64 (x8_1 + 1))) else (none))) = some r := H
            have A5 := Aside0.mk A50
            clear A50
            by_cases c6 : t104 = true
            · subst c6
              have H1 : (quorum_once.l0 k1 x3_1 l0 (l0.length : Int) (wrap64 (x8_1 + 1))) = some r := by rw [if_pos rfl] at H; exact H
              clear H
              have H := H1
              clear H1
              have H' := Aside0.mk H
              clear H
              have p103 : 0 ≤ (x8_1 : Int) := of_decide_eq_true (by first | (with_reducible assumption) | assumption)
              have q103 : x8_1 < (l0.length : Int) := of_decide_eq_true (by first | (with_reducible assumption) | assumption)
              obtain ⟨ad103, e103, hx103_0⟩ := Kd.at_int HR0.out x8_1 p103 q103
              cases e103
              replace hx103_0 := (HB.out.cell (World.block_lt_of_cell? w _ hx103_0)).trans hx103_0
              replace p103 := eq_true p103
              replace q103 := eq_true q103
              obtain ⟨Ao7, co7, eo7⟩ := Kd.R_slice HO_3.out
              subst eo7
              go_wp2_with (first | ((with_reducible refine gate_callee (f := 34) rfl ?_); refine goesL_ (some 14) rfl rfl Try.func34 (by kernel_rfl) rfl #[.slice Ao7 x3_1.length co7, .int .i64 (rd l0 x8_1)] rfl (by (try simp only [List.map_toArray, List.map_cons, List.map_nil]); first | done | rfl | (simp only [List.length_drop, List.length_take]; rfl)) ?_; (with_reducible refine (slices_Contains_int_int.calls k1 _ _ x3_1 (rd l0 x8_1) true _ ?side1 ?side2 A5.out).mono ?_); (case side1 => repeat (first | exact (Kd.R_reads' HO_3.out).2.2 | (with_reducible refine Kd.C_alloc ?_ _) | (with_reducible refine Kd.C_drewN ?_ _) | (with_reducible refine Kd.C_drew ?_))); (case side2 => exact (Kd.R_reads' HO_3.out).2.1); rintro e w' ⟨rfl, ⟨nd, rfl⟩⟩; refine ⟨_, rfl, ?_⟩))
              go_roundg k1
              case measure => have := HK1.out; omega
              case rel => exact ⟨(x3_1), (wrap64 (x8_1 + 1)), (by first | rfl | (simp; done) | (simp [*]; done)), H', ⟨by have := HK1.out; omega⟩, ⟨by (with_reducible repeat (first | apply Kd.R_alloc | apply Kd.R_drewN | apply Kd.R_drew)); exact HO_3.out⟩, ⟨by repeat (first | (with_reducible first | exact HB.out | apply below_alloc | apply pw_below_drewN | apply below_drew1) | exact HB.out)⟩⟩
            · replace c6 := Bool.eq_false_iff.mpr c6
              subst c6
              have H1 : (if x3_1.length < 17592186044416 then (quorum_once.l0 k1 (x3_1 ++ [rd l0 x8_1]) l0 (l0.length : Int) (wrap64 (x8_1 + 1))) else (none)) = some r := by rw [if_neg (show ¬ (false = true) by decide)] at H; exact H
              clear H
              have H := H1
              clear H1
              by_cases c8 : x3_1.length < 17592186044416
              · rw [if_pos c8] at H
                have LMc8 := Aside0.mk c8
                clear c8
                obtain ⟨y105, hy105⟩ : ∃ y_ : List Int, y_ = (x3_1 ++ [rd l0 x8_1]) := ⟨_, rfl⟩
                replace H : (quorum_once.l0 k1 y105 l0 (l0.length : Int) (wrap64 (x8_1 + 1))) = some r := by first | (rw [hy105]; with_reducible exact H) | (have H2_ := (Option.bind_some _ _).symm.trans H; rw [hy105]; with_reducible exact H2_) | (have H2_ := (Option.bind_some _ _).symm.trans H; with_reducible exact H2_) | with_reducible exact H | (rw [hy105]; exact H) | exact H
                have Ny105 := Aside0.mk hy105
                clear hy105
                have H' := Aside0.mk H
                clear H
                have p103 : 0 ≤ (x8_1 : Int) := of_decide_eq_true (by first | (with_reducible assumption) | assumption)
                have q103 : x8_1 < (l0.length : Int) := of_decide_eq_true (by first | (with_reducible assumption) | assumption)
                obtain ⟨ad103, e103, hx103_0⟩ := Kd.at_int HR0.out x8_1 p103 q103
                cases e103
                replace hx103_0 := (HB.out.cell (World.block_lt_of_cell? w _ hx103_0)).trans hx103_0
                replace p103 := eq_true p103
                replace q103 := eq_true q103
                obtain ⟨Ao9, co9, eo9⟩ := Kd.R_slice HO_3.out
                subst eo9
                go_wp2_with (first | ((with_reducible refine gate_callee (f := 34) rfl ?_); refine goesL_ (some 14) rfl rfl Try.func34 (by kernel_rfl) rfl #[.slice Ao9 x3_1.length co9, .int .i64 (rd l0 x8_1)] rfl (by (try simp only [List.map_toArray, List.map_cons, List.map_nil]); first | done | rfl | (simp only [List.length_drop, List.length_take]; rfl)) ?_; (with_reducible refine (slices_Contains_int_int.calls k1 _ _ x3_1 (rd l0 x8_1) false _ ?side1 ?side2 A5.out).mono ?_); (case side1 => repeat (first | exact (Kd.R_reads' HO_3.out).2.2 | (with_reducible refine Kd.C_alloc ?_ _) | (with_reducible refine Kd.C_drewN ?_ _) | (with_reducible refine Kd.C_drew ?_))); (case side2 => exact (Kd.R_reads' HO_3.out).2.1); rintro e w' ⟨rfl, ⟨nd, rfl⟩⟩; refine ⟨_, rfl, ?_⟩) | ((with_reducible refine gate_builtin (b := .append) (xs := #[.tmp 16, .tmp 18]) rfl ?_); at_builtin; refine Kd.R_append (Kd.int .i64) (w0 := w) w.heap.size rfl (.tmp 16) (.tmp 18) 22 3 (.int .i64 0) 8 rfl Try.underlying22 info3 rfl (by decide) (by omega) (.slice Ao9 x3_1.length co9) x3_1 (rd l0 x8_1) [.int .i64 (rd l0 x8_1)] (fun _ => True) (fun _ => False) rfl rfl ?aP (fun _ hk => hk.elim) ?aF ?aO ?aB ?aS ?aL ?_; (case aP => exact rfl); (case aB => exact (by repeat (first | (with_reducible first | exact HB.out | apply below_alloc | apply pw_below_drewN | apply below_drew1) | exact HB.out))); (case aF => exact (fun _ _ => trivial)); (case aO => exact (by (with_reducible repeat (first | apply Kd.R_alloc | apply Kd.R_drewN | apply Kd.R_drew)); exact HO_3.out)); (case aS => exact (below_size (by repeat (first | (with_reducible first | exact HB.out | apply below_alloc | apply pw_below_drewN | apply below_drew1) | exact HB.out)))); (case aL => have := LMc8.out; omega); intro v106 w10 ho hb hg hat; rw [← Ny105.out] at ho; have n0_ := Aside0.mk (hb); have n1_ := Aside0.mk (ho); clear HB; clear HO_3; have HB := n0_; have HO107 := n1_; clear n0_ n1_; clear ho hb hg hat))
                go_roundg k1
                case measure => have := HK1.out; omega
                case rel => exact ⟨(y105), (wrap64 (x8_1 + 1)), (by first | rfl | (simp; done) | (simp [*]; done)), H', ⟨by have := HK1.out; omega⟩, ⟨by (with_reducible repeat (first | apply Kd.R_alloc | apply Kd.R_drewN | apply Kd.R_drew)); exact HO107.out⟩, ⟨by repeat (first | (with_reducible first | exact HB.out | apply below_alloc | apply pw_below_drewN | apply below_drew1) | exact HB.out)⟩⟩
              · rw [if_neg c8] at H
                exact absurd H (by simp)
          · rw [if_neg c4] at H
            exact absurd H (by simp)
        · rw [if_neg c3] at H
          exact absurd H (by simp)
      · rw [if_neg c2] at H
        have c2b0 : decide (x8_1 < (l0.length : Int)) = false := decide_eq_false c2
        clear c2
        obtain rfl := Option.some.inj H
        go_wp2
        go_ret
        exact ⟨_, by first | rfl | (simp [errW_none, errW_some] <;> rfl) | (simp [*, errW_none, errW_some] <;> rfl), by (with_reducible repeat (first | apply Kd.R_alloc | apply Kd.R_drewN | apply Kd.R_drew)); exact HO_3.out, by repeat (first | (with_reducible first | exact HB.out | apply below_alloc | apply pw_below_drewN | apply below_drew1) | exact HB.out)⟩
/-! ### quorum_Need: function 12 -/
def quorum_Need.f (a0 : Int) : Option (Int) := if a0 < 1 then (some 0) else (some (wrap64 ((wrap64 (Int.tdiv a0 2)) + 1)))
set_option maxHeartbeats 8000000 in
set_option maxRecDepth 100000 in
theorem quorum_Need.calls (a0 : Int) (r : Int) (w : World) (h : quorum_Need.f a0 = some r) :
    Calls Try.prog 12 #[.int .i64 a0] w fun e w' => e = .returned (.int .i64 r) ∧ Drawn0 w w' := by
  have H : (if a0 < 1 then (some 0) else (some (wrap64 ((wrap64 (Int.tdiv a0 2)) + 1)))) = some r := h
  clear h
  by_cases c2 : a0 < 1
  · rw [if_pos c2] at H
    have c2b0 : decide (a0 < 1) = true := decide_eq_true c2
    clear c2
    obtain rfl := Option.some.inj H
    go_enter Try.func12, Try.ntmps12
    go_wp2
    go_ret
    exact ⟨by first | rfl | (simp; done) | (simp [*]; done), by repeat (first | exact Drawn0.refl _ | apply Drawn0.step)⟩
  · rw [if_neg c2] at H
    have c2b0 : decide (a0 < 1) = false := decide_eq_false c2
    clear c2
    obtain rfl := Option.some.inj H
    go_enter Try.func12, Try.ntmps12
    go_wp2
    go_ret
    exact ⟨by first | rfl | (simp; done) | (simp [*]; done), by repeat (first | exact Drawn0.refl _ | apply Drawn0.step)⟩
end Go.Proofs.Yteocngcojijnkaa.QO
namespace Go.Proofs.Yteocngcojijnkaa.QO
open Go.RowKit Go.Proofs.YteocngcojijnkaaW.PrintWords Go.Proofs.YteocngcojijnkaaW.PrintLast Go.Proofs.YteocngcojijnkaaW.PrintMore
attribute [local go_sem] max2_int min2_int max_two min_two max_three min_three max_four min_four   -- for this text's walks alone
set_option linter.unusedVariables false
set_option linter.unusedSimpArgs false
end Go.Proofs.Yteocngcojijnkaa.QO
namespace Go.Proofs.Yteocngcojijnkaa.Cm
open Go.ChangeShapes Go.WideShapes Go.RowKit Go.Proofs.Yteocngcojijnkaa.QO
open Go.Proofs.YteocngcojijnkaaW.PrintWords Go.Proofs.YteocngcojijnkaaW.PrintLast Go.Proofs.YteocngcojijnkaaW.PrintMore
set_option linter.unusedVariables false
set_option linter.unusedSimpArgs false
open Go.Proofs.Yteocngcojijnkaa.Lex
theorem w_succ (i : Nat) (h : i < 9223372036854775807) : wrap64 ((i : Int) + 1) = ((i + 1 : Nat) : Int) := by unfold wrap64; omega
theorem index_l0 (l : List Int) (x : Int) (hl : l.length ≤ 9223372036854775807) : ∀ (n i : Nat), l.length - i = n → i ≤ l.length →
    ∃ r, Since (fun k => slices_Index_int_int.l0 k l x (l.length : Int) (i : Int)) r ∧ (r ≥ 0 ↔ x ∈ l.drop i) := by
  intro n
  induction n with
  | zero =>
    intro i hn hi
    have hf : ¬ ((i : Int) < (l.length : Int)) := by omega
    exact ⟨-1, Since.none fun k => by simp only [slices_Index_int_int.l0, if_neg hf], by rw [List.drop_eq_nil_of_le (by omega)]; simp⟩
  | succ n ih =>
    intro i hn hi
    have h1 : i < l.length := by omega
    have f1 : (i : Int) < (l.length : Int) := by omega
    have f0 : (0 : Int) ≤ (i : Int) := by omega
    have r1 : rd l (i : Int) = l[i] := by simp [rd, h1]
    obtain ⟨r, hr, hm⟩ := ih (i + 1) (by omega) (by omega)
    have d := List.drop_eq_getElem_cons h1
    by_cases he : x = l[i]
    · exact ⟨i, Since.none fun k => by simp only [slices_Index_int_int.l0, if_pos f1, if_pos f0, r1, if_pos he], by rw [d, ← he]; simp⟩
    · refine ⟨r, Since.one hr fun k h => ?_, by rw [hm, d, List.mem_cons]; simp [he]⟩
      simp only [slices_Index_int_int.l0, if_pos f1, if_pos f0, r1, if_neg he, w_succ i (by omega)]
      exact h
theorem contains_ev (l : List Int) (x : Int) (hl : l.length ≤ 9223372036854775807) : Since (fun k => slices_Contains_int_int.f k l x) (decide (x ∈ l)) := by
  obtain ⟨r, hr, hm⟩ := index_l0 l x hl _ 0 rfl (Nat.zero_le _)
  rw [List.drop_zero] at hm
  refine hr.map fun k h => ?_
  simp only [slices_Contains_int_int.f, slices_Index_int_int.f]
  rw [show slices_Index_int_int.l0 k l x (l.length : Int) 0 = some r from h, Option.bind_some]
  congr 1
  exact decide_eq_decide.2 hm
theorem clo_ {w : World} {g : Nat} {A : Option Addr} {c : Nat} {l : List Int} (x : Int) (hg : w.heap[g]? = some (.cells #[.slice A l.length c] 22 (0, 0))) (hr : Kd.C (Kd.int .i64) w A l.length l) (hc : l.length ≤ c) :
    Calls Try.prog 33 #[.int .i64 x, .pointer (some ⟨g, 0, none⟩)] w fun e w' => e = .returned (.bool (!decide (x ∈ l))) ∧ Drawn0 w w' := by
  have h0 : w.cell? ⟨g, 0, none⟩ = some (.slice A l.length c) := (blk_cell hg 0).trans rfl
  have HR := Aside0.mk hr
  obtain ⟨K, hK⟩ := contains_ev l x hr.2.1
  have HK := Aside0.mk (hK K (Nat.le_refl K))
  have HC := Aside0.mk hc
  clear hr hg hK hc
  go_enter Try.func33, Try.ntmps33
  go_wp2_with fail
  (with_reducible refine (slices_Contains_int_int.calls K A c l x _ w HR.out HC.out HK.out).mono ?_)
  rintro e w1 ⟨rfl, hd⟩
  go_wp2_with fail
  go_ret
  exact ⟨rfl, hd⟩
end Go.Proofs.Yteocngcojijnkaa.Cm
namespace Go.Proofs.Yteocngcojijnkaa.Cm
open Go.ChangeShapes Go.WideShapes Go.ChangeAt Go.RowKit Go.Proofs.Yteocngcojijnkaa.QO Go.Proofs.Yteocngcojijnkaa.Lex
open Go.Proofs.YteocngcojijnkaaW.PrintWords Go.Proofs.YteocngcojijnkaaW.PrintLast Go.Proofs.YteocngcojijnkaaW.PrintMore
set_option linter.unusedVariables false
set_option linter.unusedSimpArgs false
theorem drawn_trans {w w1 w2 : World} (h : Drawn0 w w1) (k : Drawn0 w1 w2) : Drawn0 w w2 := by
  obtain ⟨n, rfl⟩ := k
  exact h.step n
/-- the first that is not in l, or -1 -/
def idxP (l m : List Int) (r : Int) : Prop := (r = -1 ∧ ∀ x ∈ m, x ∈ l) ∨ ∃ (i : Nat) (h : i < m.length), r = (i : Int) ∧ m[i] ∉ l ∧ ∀ x ∈ m.take i, x ∈ l
set_option maxHeartbeats 2000000 in
theorem index_ {w : World} {g : Nat} {A : Option Addr} {c : Nat} {l : List Int} {A1 : Option Addr} {c1 : Nat} {m : List Int} (hg : w.heap[g]? = some (.cells #[.slice A l.length c] 22 (0, 0))) (hr : Kd.C (Kd.int .i64) w A l.length l) (hc : l.length ≤ c)
    (hr1 : Kd.C (Kd.int .i64) w A1 m.length m) (hc1 : m.length ≤ c1) :
    Calls Try.prog 42 #[.slice A1 m.length c1, .func (.func 33) #[] #[.pointer (some ⟨g, 0, none⟩)]] w fun e w' => ∃ r, e = .returned (.int .i64 r) ∧ idxP l m r ∧ Drawn0 w w' := by
  have HG := Aside0.mk hg
  have HR := Aside0.mk hr
  have HC := Aside0.mk hc
  have HR1 := Aside0.mk hr1
  have hm := hr1.2.1
  clear hg hr hc hr1
  go_enter Try.func42, Try.ntmps42
  go_wp2_with fail
  go_loopg [8] m.length (fun n v w' => ∃ k : Nat, k ≤ m.length ∧ v = .int .i64 k ∧ n = m.length - k ∧ (∀ x ∈ m.take k, x ∈ l) ∧ Drawn0 w w')
  case atStart => exact ⟨0, Nat.zero_le _, rfl, by simp, by simp, Drawn0.refl w⟩
  case round =>
    obtain ⟨k, hk, rfl, rfl, hall, hd⟩ := hrel
    have HD := Aside0.mk hd
    have HAL := Aside0.mk hall
    by_cases hlt : k < m.length
    · obtain ⟨b, off, hA, hcl⟩ := Hlp.C_block HR1.out (by omega)
      have hcell := hcl k hlt
      subst hA
      have t7 : decide ((k : Int) < (m.length : Int)) = true := decide_eq_true (by omega)
      have hcellr := pw_cell_below HD.out.below hcell
      clear hcl hall hd hcell
      obtain ⟨x, hx⟩ : ∃ x, m[k] = x := ⟨_, rfl⟩
      have HX := Aside0.mk hx
      rw [hx] at hcellr
      clear hx
      have HGr := Aside0.mk (blk_below HG.out HD.out.below)
      have HRr := Aside0.mk (Kd.C_below HR.out HD.out.below)
      by_cases hin : x ∈ l
      · have HIN := Aside0.mk hin
        have hv : (!decide (x ∈ l)) = false := by simp [hin]
        have HV := Aside0.mk hv
        clear hin hv
        go_wp2_with fail
        (with_reducible refine (clo_ x HGr.out HRr.out HC.out).mono ?_)
        rw [HV.out]
        rintro e w1 ⟨rfl, hd1⟩
        have HD1 := Aside0.mk hd1
        clear hd1
        go_wp2_with fail
        go_roundg (m.length - (k + 1))
        case measure => omega
        case rel => exact ⟨k + 1, by omega, by go_num, rfl, by
          intro y hy
          rw [List.take_succ_eq_append_getElem hlt] at hy
          rcases List.mem_append.1 hy with h | h
          · exact HAL.out y h
          · rw [List.mem_singleton.1 h, HX.out]; exact HIN.out, drawn_trans HD.out HD1.out⟩
      · have HIN := Aside0.mk hin
        have hv : (!decide (x ∈ l)) = true := by simp [hin]
        have HV := Aside0.mk hv
        clear hin hv
        go_wp2_with fail
        (with_reducible refine (clo_ x HGr.out HRr.out HC.out).mono ?_)
        rw [HV.out]
        rintro e w1 ⟨rfl, hd1⟩
        have HD1 := Aside0.mk hd1
        clear hd1
        go_wp2_with fail
        go_ret
        exact ⟨_, rfl, .inr ⟨k, hlt, rfl, by rw [HX.out]; exact HIN.out, HAL.out⟩, drawn_trans HD.out HD1.out⟩
    · obtain rfl : k = m.length := by omega
      have t7 : decide ((m.length : Int) < (m.length : Int)) = false := decide_eq_false (by omega)
      rw [List.take_length] at HAL
      clear hall hd
      go_wp2_with fail
      go_ret
      exact ⟨_, rfl, .inl ⟨rfl, HAL.out⟩, HD.out⟩
end Go.Proofs.Yteocngcojijnkaa.Cm
namespace Go.Proofs.Yteocngcojijnkaa.Cm
open Go.ChangeShapes Go.WideShapes Go.ChangeAt Go.RowKit Go.Proofs.Yteocngcojijnkaa.QO Go.Proofs.Yteocngcojijnkaa.Lex
open Go.Proofs.YteocngcojijnkaaW.PrintWords Go.Proofs.YteocngcojijnkaaW.PrintLast Go.Proofs.YteocngcojijnkaaW.PrintMore
set_option linter.unusedVariables false
set_option linter.unusedSimpArgs false
def keep (l m : List Int) : List Int := m.filter (fun x => decide (x ∈ l))
theorem keep_all {l m : List Int} (h : ∀ x ∈ m, x ∈ l) : keep l m = m := by
  unfold keep
  rw [List.filter_eq_self]
  intro x hx
  exact decide_eq_true (h x hx)
theorem keep_app (l m n : List Int) : keep l (m ++ n) = keep l m ++ keep l n := List.filter_append ..
/-- one more is looked at, and kept -/
theorem keep_in {l m ys : List Int} {i j : Nat} (hj : j < m.length) (hij : i ≤ j) (hlen : ys.length = m.length) (h1 : ys.take i = keep l (m.take j)) (h2 : ys.drop j = m.drop j) (hin : m[j] ∈ l) :
    (ys.set i m[j]).take (i + 1) = keep l (m.take (j + 1)) ∧ (ys.set i m[j]).drop (j + 1) = m.drop (j + 1) := by
  constructor
  · rw [List.take_succ_eq_append_getElem hj, keep_app, ← h1]
    have hi : i < (ys.set i m[j]).length := by rw [List.length_set]; omega
    rw [List.take_succ_eq_append_getElem hi, List.getElem_set_self, List.take_set_of_le (Nat.le_refl i)]
    congr 1
    simp [keep, hin]
  · rw [List.drop_set_of_lt (by omega)]
    have := congrArg (List.drop 1) h2
    rwa [List.drop_drop, List.drop_drop] at this
theorem keep_out {l m ys : List Int} {i j : Nat} (hj : j < m.length) (h1 : ys.take i = keep l (m.take j)) (h2 : ys.drop j = m.drop j) (hin : m[j] ∉ l) :
    ys.take i = keep l (m.take (j + 1)) ∧ ys.drop (j + 1) = m.drop (j + 1) := by
  constructor
  · rw [List.take_succ_eq_append_getElem hj, keep_app, ← h1]
    simp [keep, hin]
  · have := congrArg (List.drop 1) h2
    rwa [List.drop_drop, List.drop_drop] at this
/-- the rest is cleared: what stands ahead of it stays -/
theorem clear_rest {e base : Nat} {ok : Nat → Prop} {g c n : Nat} {w0 : World} {B : Nat} (hg : B ≤ g) : ∀ (k o : Nat) (W : World) (xs : List Int),
    (Kd.int .i64).R e W base ok (.slice (some ⟨g, 0, none⟩) n c) xs → Below B w0 W → B ≤ W.heap.size →
    ∃ ys, (Kd.int .i64).R e (W.setCells g o (List.replicate k (.int .i64 0))) base ok (.slice (some ⟨g, 0, none⟩) n c) ys ∧ ys.length = xs.length ∧ ys.take o = xs.take o ∧ Below B w0 (W.setCells g o (List.replicate k (.int .i64 0))) := by
  intro k
  induction k with
  | zero => intro o W xs h hb _; exact ⟨xs, h, rfl, rfl, hb⟩
  | succ k ih =>
    intro o W xs h hb hs
    have hp := Kd.R_putg h (o : Int) 0
    rw [show (o : Int).toNat = o from rfl] at hp
    obtain ⟨ys, h1, h2, h3, h4⟩ := ih (o + 1) _ _ hp.1 (pw_below_grown hb _ hs hp.2 (by intro k hk; injection hk with hk; subst hk; exact hg)) (Nat.le_trans hs hp.2.size)
    refine ⟨ys, h1, by rw [h2, List.length_set], ?_, h4⟩
    have := congrArg (List.take o) h3
    rw [List.take_take, List.take_take, Nat.min_eq_left (Nat.le_succ o), List.take_set_of_le (Nat.le_refl o)] at this
    exact this
set_option maxHeartbeats 4000000 in
set_option maxRecDepth 100000 in
theorem delete_ {w0 w : World} {g : Nat} {A : Option Addr} {c : Nat} {l : List Int} {v : Value} {m : List Int} (hg : w0.heap[g]? = some (.cells #[.slice A l.length c] 22 (0, 0))) (hr : Kd.C (Kd.int .i64) w0 A l.length l) (hc : l.length ≤ c)
    (ho : Kd.R (Kd.int .i64) 3 w w0.heap.size (fun _ => True) v m) (hb : Below w0.heap.size w0 w) :
    Calls Try.prog 32 #[v, .func (.func 33) #[] #[.pointer (some ⟨g, 0, none⟩)]] w fun e w' => ∃ v', e = .returned v' ∧ Kd.R (Kd.int .i64) 3 w' w0.heap.size (fun _ => True) v' (keep l m) ∧ Below w0.heap.size w0 w' := by
  obtain ⟨A1, c1, rfl, hc1, hr1⟩ := Kd.R_reads ho
  have HG := Aside0.mk hg
  have HR := Aside0.mk hr
  have HC := Aside0.mk hc
  have HO := Aside0.mk ho
  have HB := Aside0.mk hb
  have HR1 := Aside0.mk hr1
  have HF := Aside0.mk (fun (h : 0 < m.length) => Kd.R_form ho h)
  have HC1 := Aside0.mk hc1
  have hm := hr1.2.1
  clear hg hr hc ho hb hr1 hc1
  go_enter Try.func32, Try.ntmps32
  go_wp2_with fail
  (with_reducible refine (index_ (blk_below HG.out HB.out) (Kd.C_below HR.out HB.out) HC.out HR1.out HC1.out).mono ?_)
  rintro e w1 ⟨r, rfl, hr, hd⟩
  have HO1 := Aside0.mk (Kd.R_below HO.out hd.below)
  have HB1 := Aside0.mk (below_then HB.out HB.out.size hd.below)
  clear hd
  rcases hr with ⟨rfl, hall⟩ | ⟨i, hi, rfl, hni, hpre⟩
  · have HK := Aside0.mk (keep_all hall)
    clear hall
    go_wp2_with fail
    go_ret
    exact ⟨_, rfl, by rw [HK.out]; exact HO1.out, HB1.out⟩
  · have HP := Aside0.mk hpre
    have HN := Aside0.mk hni
    have t1 : ((i : Int) == -1) = false := beq_eq_false_iff_ne.2 (by omega)
    clear hpre hni
    obtain ⟨g2, cap, hv, hg2, _, _⟩ := HF.out (by omega)
    injection hv with hv1 hv2 hv3
    subst hv1 hv3
    have HG2 := Aside0.mk hg2
    clear hg2
    go_wp2_with fail
    go_loopg [5, 6] (m.length - (i + 1)) (fun n vi vj w' => ∃ (ic jc : Nat) (ys : List Int), vi = .int .i64 ic ∧ vj = .int .i64 jc ∧ ic < jc ∧ jc ≤ m.length ∧ n = m.length - jc ∧ Aside0 (ys.length = m.length ∧ ys.take ic = keep l (m.take jc) ∧ ys.drop jc = m.drop jc) ∧ Aside0 (Kd.R (Kd.int .i64) 3 w' w0.heap.size (fun _ => True) (.slice (some ⟨g2, 0, none⟩) m.length c1) ys) ∧ Aside0 (Below w0.heap.size w0 w'))
    case atStart =>
      exact ⟨i, i + 1, m, rfl, by go_num, Nat.lt_succ_self _, hi, rfl, ⟨rfl, (keep_out hi (keep_all HP.out).symm rfl HN.out).1, rfl⟩, HO1, HB1⟩
    case round =>
      obtain ⟨ic, jc, ys, rfl, rfl, hij, hjm, rfl, HY, HOr, HBr⟩ := hrel
      clear HP HN HO1 HB1
      by_cases hlt : jc < m.length
      · have t2 : decide ((jc : Int) < (m.length : Int)) = true := decide_eq_true (by omega)
        have hly := HY.out.1
        have hjy : jc < ys.length := by omega
        have hyx : ys[jc] = m[jc] := by
          have h := HY.out.2.2
          rw [List.drop_eq_getElem_cons hjy, List.drop_eq_getElem_cons hlt] at h
          exact (List.cons.inj h).1
        obtain ⟨hcell0, _⟩ := Kd.R_cell (0 : Int) (by rw [hly]; exact HOr.out) (jc : Int) (by omega) (by omega)
        have hcell : wr.cell? ⟨g2, jc, none⟩ = some (.int .i64 m[jc]) := by
          rw [show (jc : Int).toNat = jc from rfl] at hcell0
          rw [hcell0, ← hyx]
          simp [rdOf, hjy]
        have HGr := Aside0.mk (blk_below HG.out HBr.out)
        have HRr := Aside0.mk (Kd.C_below HR.out HBr.out)
        clear hcell0 hyx hly hjy
        by_cases hin : m[jc] ∈ l
        · have HIN := Aside0.mk hin
          have HV := Aside0.mk (show (!decide (m[jc] ∈ l)) = false by simp [hin])
          obtain ⟨x, hx⟩ : ∃ x, m[jc] = x := ⟨_, rfl⟩
          have HX := Aside0.mk hx
          rw [hx] at hcell HV
          clear hin hx
          go_wp2_with fail
          (with_reducible refine (clo_ x HGr.out HRr.out HC.out).mono ?_)
          rw [HV.out]
          rintro e w1 ⟨rfl, hd1⟩
          have HO2 := Aside0.mk (Kd.R_below HOr.out hd1.below)
          have HB2 := Aside0.mk (below_then HBr.out HBr.out.size hd1.below)
          clear hd1
          obtain ⟨hci, hfi⟩ := Kd.R_cell (0 : Int) (by rw [HY.out.1]; exact HO2.out) (ic : Int) (by omega) (by have := HY.out.1; omega)
          rw [show (ic : Int).toNat = ic from rfl] at hci hfi
          have t3 : decide ((ic : Int) < (m.length : Int)) = true := decide_eq_true (by omega)
          go_wp2_with fail
          go_roundg (m.length - (jc + 1))
          case measure => omega
          case rel =>
            have hp := Kd.R_putg HO2.out (ic : Int) x
            have hk := keep_in hlt (Nat.le_of_lt hij) HY.out.1 HY.out.2.1 HY.out.2.2 (by rw [HX.out]; rw [HX.out] at HIN; exact HIN.out)
            rw [HX.out] at hk
            exact ⟨ic + 1, jc + 1, ys.set ic x, by go_num, by go_num, by omega, hlt, rfl, ⟨by rw [List.length_set]; exact HY.out.1, hk.1, hk.2⟩, ⟨hp.1⟩, ⟨pw_below_grown HB2.out _ HB2.out.size hp.2 (by intro k hk; injection hk with hk; subst hk; exact HG2.out)⟩⟩
        · have HIN := Aside0.mk hin
          have HV := Aside0.mk (show (!decide (m[jc] ∈ l)) = true by simp [hin])
          obtain ⟨x, hx⟩ : ∃ x, m[jc] = x := ⟨_, rfl⟩
          rw [hx] at hcell HV
          clear hin hx
          go_wp2_with fail
          (with_reducible refine (clo_ x HGr.out HRr.out HC.out).mono ?_)
          rw [HV.out]
          rintro e w1 ⟨rfl, hd1⟩
          have HO2 := Aside0.mk (Kd.R_below HOr.out hd1.below)
          have HB2 := Aside0.mk (below_then HBr.out HBr.out.size hd1.below)
          clear hd1
          go_wp2_with fail
          go_roundg (m.length - (jc + 1))
          case measure => omega
          case rel =>
            have hk := keep_out hlt HY.out.2.1 HY.out.2.2 HIN.out
            exact ⟨ic, jc + 1, ys, rfl, by go_num, by omega, hlt, rfl, ⟨HY.out.1, hk.1, hk.2⟩, HO2, HB2⟩
      · obtain rfl : jc = m.length := by omega
        have t2 : decide ((m.length : Int) < (m.length : Int)) = false := decide_eq_false (by omega)
        have hc9 := HC1.out
        have t4 : (c1 == ic) = false := beq_eq_false_iff_ne.2 (by omega)
        have t8 : ¬ (c1 = ic) := by omega
        have t9 : ic ≤ c1 := by omega
        have t10 : decide ((c1 : Int) < (ic : Int)) = false := decide_eq_false (by omega)
        have t5 : decide ((ic : Int) < 0) = false := decide_eq_false (by omega)
        have t6 : decide ((m.length : Int) < (ic : Int)) = false := decide_eq_false (by omega)
        have t7 : decide (m.length < ic) = false := decide_eq_false (by omega)
        have HIJ := Aside0.mk hij
        clear hc9
        have hz : ∀ w, (zeroValue 3).run Try.prog w = .ok (.int .i64 0) w := fun w => by first | rfl | (simp [zeroValue]; rfl)
        have hcl := Go.Lib.run_clear_slice wr 22 3 0 (.int .i64 0) Try.underlying22 hz rfl rfl g2 ic (m.length - ic) (c1 - ic) (by omega) (fun j hj => by
          obtain ⟨h, _⟩ := Kd.R_cell (0 : Int) (by rw [HY.out.1]; exact HOr.out) ((ic + j : Nat) : Int) (by omega) (by have := HY.out.1; omega)
          rw [show ((ic + j : Nat) : Int).toNat = ic + j from rfl] at h
          rw [h]; rfl) (fun j hj => by
          obtain ⟨_, h⟩ := Kd.R_cell (0 : Int) (by rw [HY.out.1]; exact HOr.out) ((ic + j : Nat) : Int) (by omega) (by have := HY.out.1; omega)
          exact h)
        go_wp2_with fail
        go_ret
        obtain ⟨zs, z1, z2, z3, z4⟩ := clear_rest HG2.out (m.length - ic) ic wr ys HOr.out HBr.out HBr.out.size
        have hk := HY.out.2.1
        rw [List.take_length] at hk
        rw [← hk, ← z3]
        exact ⟨_, rfl, Kd.R_take z1 (by rw [z2, HY.out.1]; omega), z4⟩
end Go.Proofs.Yteocngcojijnkaa.Cm
namespace Go.Proofs.Yteocngcojijnkaa.Cm
open Go.ChangeShapes Go.WideShapes Go.ChangeAt Go.RowKit Go.Proofs.Yteocngcojijnkaa.QO Go.Proofs.Yteocngcojijnkaa.Lex
open Go.Proofs.YteocngcojijnkaaW.PrintWords Go.Proofs.YteocngcojijnkaaW.PrintLast Go.Proofs.YteocngcojijnkaaW.PrintMore
set_option linter.unusedVariables false
set_option linter.unusedSimpArgs false
def common.f (k : Nat) (a b : List Int) : Option (List Int) := (quorum_once.f k a).bind fun o => some (keep b o)
theorem common.mono : ∀ a0 a1 k, LeO (common.f k a0 a1) (common.f (k + 1) a0 a1) := by
  intro a b k
  exact LeO.bind (quorum_once.mono a k) (fun _ => LeO.refl _)
set_option maxHeartbeats 4000000 in
set_option maxRecDepth 100000 in
theorem common.calls (k : Nat) (A0 : Option Addr) (c0 : Nat) (l0 : List Int) (A1 : Option Addr) (c1 : Nat) (l1 : List Int) (r : List Int) (w : World) (hr0 : Kd.C (Kd.int .i64) w A0 l0.length l0) (hc0 : l0.length ≤ c0) (hr1 : Kd.C (Kd.int .i64) w A1 l1.length l1) (hc1 : l1.length ≤ c1) (h : common.f k l0 l1 = some r) :
    Calls Try.prog 16 #[.slice A0 l0.length c0, .slice A1 l1.length c1] w fun e w' => ∃ v0_ : Value, e = .returned (v0_) ∧ Kd.R (Kd.int .i64) 3 w' w.heap.size (fun _ => True) v0_ r ∧ Below w.heap.size w w' := by
  obtain ⟨o, ho, hr⟩ := Option.bind_eq_some_iff.1 h
  obtain rfl := Option.some.inj hr
  have HR0 := Aside0.mk hr0
  have HC0 := Aside0.mk hc0
  have HR1 := Aside0.mk hr1
  have HC1 := Aside0.mk hc1
  have HO := Aside0.mk ho
  clear hr0 hc0 hr1 hc1 h ho hr
  have hmf : ∀ (fn : Fn) (first cap : Array Value) (w : World), (Instr.makeFunc fn first cap).run Try.prog w = .ok (.func fn first cap) w := fun _ _ _ _ => rfl
  go_enter Try.func16, Try.ntmps16
  go_wp2_with fail
  obtain ⟨W, hW⟩ : ∃ W, W = w.alloc (.cells #[.slice A1 l1.length c1] 22) := ⟨_, rfl⟩
  have HG : Aside0 (W.heap[w.heap.size]? = some (.cells #[.slice A1 l1.length c1] 22 (0, 0))) := ⟨by rw [hW]; exact Array.getElem?_push_size⟩
  have HRa := Aside0.mk (show Kd.C (Kd.int .i64) W A0 l0.length l0 by rw [hW]; exact Kd.C_alloc HR0.out _)
  have HRb := Aside0.mk (show Kd.C (Kd.int .i64) W A1 l1.length l1 by rw [hW]; exact Kd.C_alloc HR1.out _)
  have HBW : Aside0 (Below w.heap.size w W) := ⟨by rw [hW]; exact below_alloc (Below.refl _ _) _⟩
  rw [← hW]
  clear hW
  (with_reducible refine (quorum_once.calls k A0 c0 l0 _ W HRa.out HC0.out HO.out).mono ?_)
  rintro e w1 ⟨v, rfl, hv, hb⟩
  have HV := Aside0.mk hv
  have HB := Aside0.mk hb
  clear hv hb
  go_wp2_with fail
  (with_reducible refine (delete_ HG.out HRb.out HC1.out HV.out HB.out).mono ?_)
  rintro e w2 ⟨v', rfl, hv', hb'⟩
  have HV' := Aside0.mk hv'
  have HB' := Aside0.mk hb'
  clear hv' hb'
  go_wp2_with fail
  go_ret
  exact ⟨_, rfl, Kd.R_lower HV'.out HBW.out.size, below_then HBW.out HBW.out.size HB'.out⟩
end Go.Proofs.Yteocngcojijnkaa.Cm
namespace Go.Proofs.Yteocngcojijnkaa.QE
open Go.RowKit Go.Proofs.YteocngcojijnkaaW.PrintWords Go.Proofs.YteocngcojijnkaaW.PrintLast Go.Proofs.YteocngcojijnkaaW.PrintMore
attribute [local go_sem] max2_int min2_int max_two min_two max_three min_three max_four min_four   -- for this text's walks alone
set_option linter.unusedVariables false
set_option linter.unusedSimpArgs false
def errW : Option Int → Value
  | none => .nilIface
  | some c => .iface 0 (.int .i64 c)
theorem errW_none : errW none = .nilIface := rfl
theorem errW_some (c : Int) : errW (some c) = .iface 0 (.int .i64 c) := rfl

-- the values' own types
end Go.Proofs.Yteocngcojijnkaa.QE
namespace Go.Proofs.Yteocngcojijnkaa.QE
open Go.RowKit Go.Proofs.YteocngcojijnkaaW.PrintWords Go.Proofs.YteocngcojijnkaaW.PrintLast Go.Proofs.YteocngcojijnkaaW.PrintMore
attribute [local go_sem] max2_int min2_int max_two min_two max_three min_three max_four min_four   -- for this text's walks alone
set_option linter.unusedVariables false
set_option linter.unusedSimpArgs false
/-! ### quorum_Enough: function 13 -/
def quorum_Enough.f (k : Nat) (l0 : List Int) (l1 : List Int) : Option (Bool) := (QO.quorum_once.f k l0).bind fun t101 => (if (t101.length : Int) > 0 then ((Cm.common.f k l0 l1).bind fun t104 => ((QO.quorum_Need.f (t101.length : Int)).bind fun t107 => (some (decide ((t104.length : Int) ≥ t107))))) else (some false))
theorem quorum_Enough.mono : ∀ a0 a1 k, LeO (quorum_Enough.f k a0 a1) (quorum_Enough.f (k + 1) a0 a1) := by
  intro a0 a1 k
  unfold quorum_Enough.f
  repeat' first
      | (with_reducible exact Cm.common.mono _ _ _)
      | (with_reducible exact QO.quorum_once.mono _ _)
      | (with_reducible exact LeO.refl _)
      | (with_reducible exact LeO.none _)
      | (with_reducible refine LeO.ite ?_ ?_)
      | (with_reducible refine LeO.bind ?_ (fun _ => ?_))
      | exact Cm.common.mono _ _ _
      | exact QO.quorum_once.mono _ _
      | exact LeO.none _
      | refine LeO.ite ?_ ?_
      | refine LeO.bind ?_ (fun _ => ?_)
set_option maxHeartbeats 8000000 in
set_option maxRecDepth 100000 in
theorem quorum_Enough.calls (k : Nat) (A0 : Option Addr) (c0 : Nat) (l0 : List Int) (A1 : Option Addr) (c1 : Nat) (l1 : List Int) (r : Bool) (w : World) (hr0 : Kd.C (Kd.int .i64) w A0 l0.length l0) (hc0 : l0.length ≤ c0) (hr1 : Kd.C (Kd.int .i64) w A1 l1.length l1) (hc1 : l1.length ≤ c1) (h : quorum_Enough.f k l0 l1 = some r) :
    Calls Try.prog 13 #[.slice A0 l0.length c0, .slice A1 l1.length c1] w fun e w' => e = .returned (.bool r) ∧ Below w.heap.size w w' := by
  have HR0 := Aside0.mk hr0
  have HC0 := Aside0.mk hc0
  clear hr0 hc0
  have HR1 := Aside0.mk hr1
  have HC1 := Aside0.mk hc1
  clear hr1 hc1
  have HB := Aside0.mk (Below.refl w.heap.size w)
  have H : ((QO.quorum_once.f k l0).bind fun t101 => (if (t101.length : Int) > 0 then ((Cm.common.f k l0 l1).bind fun t104 => ((QO.quorum_Need.f (t101.length : Int)).bind fun t107 => (some (decide ((t104.length : Int) ≥ t107))))) else (some false))) = some r := h
  clear h
  replace H := Option.bind_eq_some_iff.mp H
  obtain ⟨t101, A30, H⟩ := H
  replace H : (if (t101.length : Int) > 0 then ((Cm.common.f k l0 l1).bind fun t104 => ((QO.quorum_Need.f (t101.length : Int)).bind fun t107 => (some (decide ((t104.length : Int) ≥ t107))))) else (some false)) = some r := H
  have A3 := Aside0.mk A30
  clear A30
  by_cases c4 : (t101.length : Int) > 0
  · rw [if_pos c4] at H
    have c4b0 : decide (0 < (t101.length : Int)) = true := decide_eq_true c4
    have c4b1 : decide (0 < t101.length) = true := decide_eq_true (by omega)
    clear c4
    replace H := Option.bind_eq_some_iff.mp H
    obtain ⟨t104, A50, H⟩ := H
    replace H : ((QO.quorum_Need.f (t101.length : Int)).bind fun t107 => (some (decide ((t104.length : Int) ≥ t107)))) = some r := H
    have A5 := Aside0.mk A50
    clear A50
    replace H := Option.bind_eq_some_iff.mp H
    obtain ⟨t107, A60, H⟩ := H
    replace H : (some (decide ((t104.length : Int) ≥ t107))) = some r := H
    have A6 := Aside0.mk A60
    clear A60
    obtain rfl := Option.some.inj H
    go_enter Try.func13, Try.ntmps13
    go_wp2_with (first | ((with_reducible refine gate_callee (f := 31) rfl ?_); refine goesL_ (some 7) rfl rfl Try.func31 (by kernel_rfl) rfl #[.slice A0 l0.length c0] rfl (by (try simp only [List.map_toArray, List.map_cons, List.map_nil]); first | done | rfl | (simp only [List.length_drop, List.length_take]; rfl)) ?_; (with_reducible refine (QO.quorum_once.calls k _ _ l0 t101 _ ?side1 ?side2 A3.out).mono ?_); (case side1 => repeat (first | exact HR0.out | (with_reducible refine Kd.C_alloc ?_ _) | (with_reducible refine Kd.C_drewN ?_ _) | (with_reducible refine Kd.C_drew ?_))); (case side2 => exact HC0.out); rintro e w7 ⟨v102, rfl, ho0, hb⟩; refine ⟨_, rfl, ?_⟩; have n0_ := Aside0.mk (Kd.R_lower ho0 (below_size (by repeat (first | (with_reducible first | exact HB.out | apply below_alloc | apply pw_below_drewN | apply below_drew1) | exact HB.out)))); have n1_ := Aside0.mk (below_step (by repeat (first | (with_reducible first | exact HB.out | apply below_alloc | apply pw_below_drewN | apply below_drew1) | exact HB.out)) hb); clear HB; have HO103 := n0_; have HB := n1_; clear n0_ n1_; (try clear hb); (try clear hb2); (try clear hk); (try clear hi); (try clear ho0); obtain ⟨Ao8, co8, eo8⟩ := Kd.R_slice HO103.out; subst eo8) | (go_at_call 16; (with_reducible refine (Cm.common.calls k _ _ l0 _ _ l1 t104 _ ?side1 ?side2 ?side3 ?side4 A5.out).mono ?_); (case side1 => repeat (first | exact (Kd.C_below HR0.out HB.out) | (with_reducible refine Kd.C_alloc ?_ _) | (with_reducible refine Kd.C_drewN ?_ _) | (with_reducible refine Kd.C_drew ?_))); (case side2 => exact HC0.out); (case side3 => repeat (first | exact (Kd.C_below HR1.out HB.out) | (with_reducible refine Kd.C_alloc ?_ _) | (with_reducible refine Kd.C_drewN ?_ _) | (with_reducible refine Kd.C_drew ?_))); (case side4 => exact HC1.out); rintro e w9 ⟨v105, rfl, ho0, hb⟩; have n0_ := Aside0.mk (Kd.R_elder' (by (with_reducible repeat (first | apply Kd.R_alloc | apply Kd.R_drewN | apply Kd.R_drew)); exact HO103.out) (Kd.R_base ho0) hb); have n1_ := Aside0.mk (Kd.R_lower (Kd.R_new' ho0 (Kd.R_lt (by (with_reducible repeat (first | apply Kd.R_alloc | apply Kd.R_drewN | apply Kd.R_drew)); exact HO103.out))) (below_size (by repeat (first | (with_reducible first | exact HB.out | apply below_alloc | apply pw_below_drewN | apply below_drew1) | exact HB.out)))); have n2_ := Aside0.mk (below_step (by repeat (first | (with_reducible first | exact HB.out | apply below_alloc | apply pw_below_drewN | apply below_drew1) | exact HB.out)) hb); clear HO103; clear HB; have HO103 := n0_; have HO106 := n1_; have HB := n2_; clear n0_ n1_ n2_; (try clear hb); (try clear hb2); (try clear hk); (try clear hi); (try clear ho0); obtain ⟨Ao10, co10, eo10⟩ := Kd.R_slice HO106.out; subst eo10) | (go_at_call 12; (with_reducible refine (QO.quorum_Need.calls (t101.length : Int) t107 _ A6.out).mono ?_); rintro e w' ⟨rfl, ⟨nd, rfl⟩⟩))
    go_ret
    exact ⟨by first | rfl | (simp [errW_none, errW_some] <;> rfl) | (simp [*, errW_none, errW_some] <;> rfl), by repeat (first | (with_reducible first | exact HB.out | apply below_alloc | apply pw_below_drewN | apply below_drew1) | exact HB.out)⟩
  · rw [if_neg c4] at H
    have c4b0 : decide (0 < (t101.length : Int)) = false := decide_eq_false c4
    have c4b1 : decide (0 < t101.length) = false := decide_eq_false (by omega)
    clear c4
    obtain rfl := Option.some.inj H
    go_enter Try.func13, Try.ntmps13
    go_wp2_with (first | ((with_reducible refine gate_callee (f := 31) rfl ?_); refine goesL_ (some 7) rfl rfl Try.func31 (by kernel_rfl) rfl #[.slice A0 l0.length c0] rfl (by (try simp only [List.map_toArray, List.map_cons, List.map_nil]); first | done | rfl | (simp only [List.length_drop, List.length_take]; rfl)) ?_; (with_reducible refine (QO.quorum_once.calls k _ _ l0 t101 _ ?side1 ?side2 A3.out).mono ?_); (case side1 => repeat (first | exact HR0.out | (with_reducible refine Kd.C_alloc ?_ _) | (with_reducible refine Kd.C_drewN ?_ _) | (with_reducible refine Kd.C_drew ?_))); (case side2 => exact HC0.out); rintro e w11 ⟨v102, rfl, ho0, hb⟩; refine ⟨_, rfl, ?_⟩; have n0_ := Aside0.mk (Kd.R_lower ho0 (below_size (by repeat (first | (with_reducible first | exact HB.out | apply below_alloc | apply pw_below_drewN | apply below_drew1) | exact HB.out)))); have n1_ := Aside0.mk (below_step (by repeat (first | (with_reducible first | exact HB.out | apply below_alloc | apply pw_below_drewN | apply below_drew1) | exact HB.out)) hb); clear HB; have HO103 := n0_; have HB := n1_; clear n0_ n1_; (try clear hb); (try clear hb2); (try clear hk); (try clear hi); (try clear ho0); obtain ⟨Ao12, co12, eo12⟩ := Kd.R_slice HO103.out; subst eo12))
    go_ret
    exact ⟨by first | rfl | (simp [errW_none, errW_some] <;> rfl) | (simp [*, errW_none, errW_some] <;> rfl), by repeat (first | (with_reducible first | exact HB.out | apply below_alloc | apply pw_below_drewN | apply below_drew1) | exact HB.out)⟩
/-- THE ONE PURE STATEMENT of quorum_Enough: yours. -/
def quorum_Enough.Pure : Prop := ∀ (l0 : List Int) (l1 : List Int), l0.length ≤ maxLen → l0.length * 8 ≤ 140737488351232 → (∀ x ∈ l0, (Lit.int .i64 x).wf = true) → l1.length ≤ maxLen → l1.length * 8 ≤ 140737488351232 → (∀ x ∈ l1, (Lit.int .i64 x).wf = true) → ∃ k, quorum_Enough.f k l0 l1 = some true
/-! ### quorum_Meet: function 18 -/
def quorum_Meet.f (a0 : Int) (a1 : Int) (a2 : Int) : Option (Bool) := if a1 ≥ 0 then (if a2 ≥ 0 then (if a1 ≤ a0 then (if a2 ≤ a0 then (some (decide (a1 > (wrap64 (a0 - a2))))) else (some false)) else (some false)) else (some false)) else (some false)
/-- THE ONE PURE STATEMENT of quorum_Meet: yours. -/
def quorum_Meet.Pure : Prop := ∀ (a0 : Int) (a1 : Int) (a2 : Int), (Lit.int .i64 a0).wf = true → (Lit.int .i64 a1).wf = true → (Lit.int .i64 a2).wf = true → quorum_Meet.f a0 a1 a2 = some true
end Go.Proofs.Yteocngcojijnkaa.QE
namespace Go.Proofs.Yteocngcojijnkaa.QE
open Go.RowKit Go.Proofs.YteocngcojijnkaaW.PrintWords Go.Proofs.YteocngcojijnkaaW.PrintLast Go.Proofs.YteocngcojijnkaaW.PrintMore
attribute [local go_sem] max2_int min2_int max_two min_two max_three min_three max_four min_four   -- for this text's walks alone
set_option linter.unusedVariables false
set_option linter.unusedSimpArgs false
end Go.Proofs.Yteocngcojijnkaa.QE
