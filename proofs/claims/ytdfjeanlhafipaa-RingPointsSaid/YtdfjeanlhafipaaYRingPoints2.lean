/- The library's Compact of points in a block of one's own. Conditions: none. · The contracts of hash.Key and of the reference's Key, of a text. Conditions: a text that fits in memory. · Written by a program of this session over the kit's print: functions and their contracts. · Written by a program of this session over the kit's print: functions and their contracts. · Written by a program of this session over the kit's print: functions and their contracts. · How tags stand, plain: by their numbers, one behind the other. And what holds from some count of rounds on. · Whether a ring may be, plain: both checks; the points' words. Conditions: none. · The contract of ring.Points. Conditions: none beyond memory. · The contract of ring.meet: the nodes in their order from a place on, each once. Conditions: points that are read, a place among them. · Written by a program of this session over the kit's print: functions and their contracts. -/
import Derived.Test.YtdfjeanlhafipaaYRingPoints1
import Derived.Lib.SliceRun
import Derived.Lib.ConvBytes
import Derived.Deep.RegionHeld3
import Derived.Test.YtdfjeanlhafipaaProg
import Derived.Below
import Derived.Deep.Draws
import Derived.Deep.AppendLies
import Derived.Maps.AppendAt
import Derived.OwnWalk
import Derived.Laws.BytesArg
import Derived.Laws.MakeOwn
import Derived.Laws.OwnMore
import Derived.Deep.OwnRows
import Derived.Tactics
import Derived.Laws.Slices
import Derived.WalkKit
import Derived.KernelRfl
import Derived.RowKit3
import Derived.Deep.LoopGhost
import Derived.Deep.QuietTactic
import Derived.BigQuiet
import Derived.WideLaws
import Derived.Deep.DeepCutAuto
import Derived.Deep.CutBlock
import Derived.Laws.Rows
import Derived.Lib.AppendStr
import Derived.ArgAppend
import Derived.Laws.IdiomCopy
import Derived.OrdersHeld
import Derived.Laws.BitsLemmas
import Derived.RowKit
import Derived.Test.YtdfjeanlhafipaaYRingPoints0

namespace Go.Proofs.Ytdfjeanlhafipaa.Hs
open Go.ChangeShapes Go.WideShapes Go.ChangeAt Go.RowKit Go.Proofs.Ytdfjeanlhafipaa.QH
open Go.Proofs.YtdfjeanlhafipaaW.PrintWords Go.Proofs.YtdfjeanlhafipaaW.PrintLast Go.Proofs.YtdfjeanlhafipaaW.PrintMore
attribute [local go_sem high] eqA51
set_option linter.unusedVariables false
set_option linter.unusedSimpArgs false
theorem same_iff (p q : S51) : (p.f0 == q.f0 && (p.f1 == q.f1)) = true ↔ p = q := by
  obtain ⟨a, b⟩ := p
  obtain ⟨c, d⟩ := q
  simp
instance decS51 (p q : S51) : Decidable (p = q) := decidable_of_iff _ (same_iff p q)
/-- neighbours that are one struck -/
def compP : List S51 → List S51
  | [] => []
  | [x] => [x]
  | x :: y :: l => if x = y then compP (y :: l) else x :: compP (y :: l)
theorem comp_snoc (x y : S51) : ∀ a : List S51, compP (a ++ [y, x]) = if y = x then compP (a ++ [y]) else compP (a ++ [y]) ++ [x]
  | [] => by
    show (if y = x then [x] else y :: [x]) = if y = x then [y] else [y] ++ [x]
    by_cases h : y = x
    · rw [if_pos h, if_pos h, h]
    · rw [if_neg h, if_neg h]; rfl
  | [b] => by
    have ih := comp_snoc x y []
    show (if b = y then compP ([] ++ [y, x]) else b :: compP ([] ++ [y, x])) = if y = x then (if b = y then compP ([] ++ [y]) else b :: compP ([] ++ [y])) else (if b = y then compP ([] ++ [y]) else b :: compP ([] ++ [y])) ++ [x]
    rw [ih]
    repeat' split
    all_goals rfl
  | b :: c :: a => by
    have ih := comp_snoc x y (c :: a)
    show (if b = c then compP (c :: a ++ [y, x]) else b :: compP (c :: a ++ [y, x])) = if y = x then (if b = c then compP (c :: a ++ [y]) else b :: compP (c :: a ++ [y])) else (if b = c then compP (c :: a ++ [y]) else b :: compP (c :: a ++ [y])) ++ [x]
    rw [ih]
    repeat' split
    all_goals rfl
theorem comp_step {l : List S51} {m : Nat} (h1 : 1 ≤ m) (hm : m < l.length) : compP (l.take (m + 1)) = if l[m - 1]'(by omega) = l[m] then compP (l.take m) else compP (l.take m) ++ [l[m]] := by
  have e1 : l.take m = l.take (m - 1) ++ [l[m - 1]'(by omega)] := by
    have := List.take_succ_eq_append_getElem (l := l) (i := m - 1) (by omega)
    rwa [show m - 1 + 1 = m from by omega] at this
  have e2 : l.take (m + 1) = l.take (m - 1) ++ [l[m - 1]'(by omega), l[m]] := by
    rw [List.take_succ_eq_append_getElem hm, e1, List.append_assoc]; rfl
  rw [e2, e1]
  exact comp_snoc _ _ _
/-- none is its neighbour: nothing is struck -/
theorem comp_none {l : List S51} : ∀ (m : Nat), m ≤ l.length → (∀ (j : Nat) (hj : j + 1 < m) (hj2 : j + 1 < l.length), l[j] ≠ l[j + 1]) → compP (l.take m) = l.take m
  | 0, _, _ => rfl
  | 1, _, _ => by
    cases l with
    | nil => rfl
    | cons x l => rfl
  | m + 2, hm, h => by
    rw [comp_step (m := m + 1) (by omega) (by omega), comp_none (m + 1) (by omega) (fun j hj hj2 => h j (by omega) hj2), List.take_succ_eq_append_getElem (i := m + 1) (by omega)]
    exact if_neg (h m (by omega) (by omega))
theorem PB.set {w : World} {g cap : Nat} {l : List S51} (h : PB w g cap l) (i : Nat) (hi : i < l.length) (p : S51) :
    PB ((w.setCell ⟨g, i * 2, none⟩ (.int .u64 p.f0)).setCell ⟨g, i * 2 + 1, none⟩ (.int .i64 p.f1)) g cap (l.set i p) ∧ w.grownBy ((w.setCell ⟨g, i * 2, none⟩ (.int .u64 p.f0)).setCell ⟨g, i * 2 + 1, none⟩ (.int .i64 p.f1)) (some g) := by
  obtain ⟨cur, h1, h2, h3⟩ := h.blk
  have hl := h.len
  refine ⟨⟨⟨_, blk_set (blk_set h1 _ _) _ _, by simp [h2], fun k hk => ?_⟩, by rw [List.length_set]; exact hl, h.max⟩, ?_⟩
  · rw [List.length_set] at hk
    obtain ⟨e1, e2⟩ := h3 k hk
    simp only [Array.getElem?_setIfInBounds, Array.size_setIfInBounds, List.getElem_set]
    by_cases he : i = k
    · subst he
      rw [if_neg (by omega), if_pos rfl, if_pos (by omega), if_pos rfl, if_pos (by omega)]
      simp
      omega
    · have n1 : ¬ (i * 2 + 1 = k * 2) := by omega
      have n2 : ¬ (i * 2 = k * 2) := by omega
      have n3 : ¬ (i * 2 + 1 = k * 2 + 1) := by omega
      have n4 : ¬ (i * 2 = k * 2 + 1) := by omega
      simp only [n1, n2, n3, n4, he, if_false]
      exact ⟨e1, e2⟩
  · refine ⟨rfl, rfl, rfl, by simp [World.setCell], fun k hk hne => ?_⟩
    have hkg : k ≠ g := fun e => hne (by rw [e])
    rw [Below.heap_setCell _ _ _ _ (by simpa using hkg), Below.heap_setCell _ _ _ _ (by simpa using hkg)]
/-- the rest cleared: what stands ahead of it stays -/
theorem PB.clear {w : World} {g cap : Nat} {l : List S51} (h : PB w g cap l) (i : Nat) (hi : i ≤ l.length) (cs : List Value) (hcs : i * 2 + cs.length ≤ cap * 2) : PB (w.setCells g (i * 2) cs) g cap (l.take i) ∧ w.grownBy (w.setCells g (i * 2) cs) (some g) := by
  obtain ⟨cur, h1, h2, h3⟩ := h.blk
  have hl := h.len
  have hs := setCells_same g cs (i * 2) w
  obtain ⟨cur', k1, k2, k3⟩ := setCells_row cs (i * 2) w cur h1 (by omega)
  have hat : ∀ j, j < i * 2 → cur'[j]? = cur[j]? := by
    intro j hj
    rw [← Array.getElem?_toList, k3, List.append_assoc, List.getElem?_append_left (by rw [List.length_take, Array.length_toList (xs := cur)]; omega), List.getElem?_take, if_pos hj, Array.getElem?_toList]
  refine ⟨⟨⟨cur', k1, by omega, fun k hk => ?_⟩, by rw [List.length_take]; omega, h.max⟩, hs.1, hs.2.1, hs.2.2.1, by rw [hs.2.2.2]; exact Nat.le_refl _, fun k hk hne => setCells_far _ _ k (fun e => hne (by rw [e]))⟩
  rw [List.length_take] at hk
  obtain ⟨e1, e2⟩ := h3 k (by omega)
  rw [hat _ (by omega), hat _ (by omega), List.getElem_take]
  exact ⟨e1, e2⟩
theorem grown_trans {w w1 w2 : World} {r : Option Nat} (h : w.grownBy w1 r) (k : w1.grownBy w2 r) : w.grownBy w2 r :=
  ⟨k.os.trans h.os, k.tape.trans h.tape, k.output.trans h.output, Nat.le_trans h.size k.size, fun j hj hne => (k.block j (Nat.lt_of_lt_of_le hj h.size) hne).trans (h.block j hj hne)⟩
theorem run_clear2 (w : World) (ty : TypeId) (b o n c : Nat) (hn : 0 < n) (hc : ∀ j, j < n * 2 → (w.cell? ⟨b, o + j, none⟩).isSome = true) (hf : ∀ j, j < n * 2 → w.frozen? ⟨b, o + j, none⟩ = false) :
    ∃ cs : List Value, cs.length = n * 2 ∧ (Builtin.clear_ #[42] ty #[.slice (some ⟨b, o, none⟩) n c]).run Try.prog w = .ok (.tuple #[]) (w.setCells b o cs) := by
  have hv : ∀ w, (zeroValue TP).run Try.prog w = .ok (.agg #[.int .u64 0, .int .i64 0]) w := fun w => by kernel_rfl
  obtain ⟨cs, hcs⟩ : ∃ cs, cs = (Builtin.zeroCells #[Value.int .u64 0, .int .i64 0] n).toList := ⟨_, rfl⟩
  have hlen : cs.length = n * 2 := by rw [hcs]; simp [Builtin.zeroCells]
  have hone : ∀ v ∈ cs, v.oneCell' = true := by
    intro v hv'
    rw [hcs] at hv'
    simp only [Builtin.zeroCells, Array.toList_map, List.mem_map] at hv'
    obtain ⟨i, _, rfl⟩ := hv'
    rcases (show i % 2 = 0 ∨ i % 2 = 1 by omega) with h | h <;> simp [h, Value.oneCell']
  have hst := run_storeCells_cells (P := Try.prog) b o cs 0 w (by rw [hlen]; simpa using hc) (by rw [hlen]; simpa using hf) hone
  simp only [Nat.add_zero] at hst
  refine ⟨cs, hlen, ?_⟩
  obtain ⟨m, rfl⟩ : ∃ m, n = m + 1 := ⟨n - 1, by omega⟩
  have hzc : (Builtin.zeroCells (Value.agg #[.int .u64 0, .int .i64 0]).cells (m + 1)).toList = cs := hcs.symm
  simp [Builtin.clear_, run_underlying Try.underlying42, hv, hzc, hst]
set_option maxHeartbeats 4000000 in
set_option maxRecDepth 100000 in
theorem compact_ {w : World} {g cap : Nat} {l : List S51} (h : PB w g cap l) (hm : l.length ≤ 17592186044000) :
    Calls Try.prog 43 #[.slice (some ⟨g, 0, none⟩) l.length cap] w fun e w' => ∃ l' : List S51, e = .returned (.slice (some ⟨g, 0, none⟩) l'.length cap) ∧ l' = compP l ∧ PB w' g cap l' ∧ w.grownBy w' (some g) := by
  have H := Aside0.mk h
  have hcap := h.len
  have hmax := h.max
  unfold maxLen at hmax
  clear h
  by_cases hs : l.length < 2
  · have t1 : decide ((l.length : Int) < 2) = true := decide_eq_true (by omega)
    have hc : compP l = l := by
      match l, hs with
      | [], _ => rfl
      | [x], _ => rfl
    have HC := Aside0.mk hc
    clear hc
    go_enter Try.func43, Try.ntmps43
    go_wp2
    go_ret
    exact ⟨l, rfl, HC.out.symm, H.out, ⟨rfl, rfl, rfl, Nat.le_refl _, fun _ _ _ => rfl⟩⟩
  · have t1 : decide ((l.length : Int) < 2) = false := decide_eq_false (by omega)
    go_enter Try.func43, Try.ntmps43
    go_wp2
    go_loopg [3] (l.length - 1) (fun q vk w' => ∃ k : Nat, vk = .int .i64 k ∧ 1 ≤ k ∧ k ≤ l.length ∧ q = l.length - k ∧ Aside0 (∀ (j : Nat) (hj : j + 1 < k) (hj2 : j + 1 < l.length), l[j] ≠ l[j + 1]) ∧ Aside0 (Drawn0 w w'))
    case atStart => exact ⟨1, by go_num, Nat.le_refl _, by omega, rfl, ⟨fun j hj => by omega⟩, ⟨Drawn0.refl w⟩⟩
    case round =>
      obtain ⟨k, rfl, hk1, hk, rfl, HN, HD⟩ := hrel
      by_cases hlt : k < l.length
      · have t2 : decide ((k : Int) < (l.length : Int)) = true := decide_eq_true (by omega)
        obtain ⟨c1, c2⟩ := H.out.cells k hlt
        obtain ⟨c3, c4⟩ := H.out.cells (k - 1) (by omega)
        have c1 := pw_cell_below HD.out.below c1
        have c2 := pw_cell_below HD.out.below c2
        have c3 := pw_cell_below HD.out.below c3
        have c4 := pw_cell_below HD.out.below c4
        obtain ⟨x0, hx0⟩ : ∃ x, l[k].f0 = x := ⟨_, rfl⟩
        obtain ⟨x1, hx1⟩ : ∃ x, l[k].f1 = x := ⟨_, rfl⟩
        obtain ⟨y0, hy0⟩ : ∃ x, (l[k - 1]'(by omega)).f0 = x := ⟨_, rfl⟩
        obtain ⟨y1, hy1⟩ : ∃ x, (l[k - 1]'(by omega)).f1 = x := ⟨_, rfl⟩
        rw [hx0] at c1
        rw [hx1] at c2
        rw [hy0] at c3
        rw [hy1] at c4
        have hsame := same_iff l[k] (l[k - 1]'(by omega))
        rw [hx0, hx1, hy0, hy1] at hsame
        have HS := Aside0.mk hsame
        clear hx0 hx1 hy0 hy1 hsame
        have i1 : (0 : Int) ≤ (k : Int) := by omega
        have i2 : (k : Int) < (l.length : Int) := by omega
        have i3 : (0 : Int) ≤ (k : Int) - 1 := by omega
        have i4 : (k : Int) - 1 < (l.length : Int) := by omega
        by_cases he : (x0 == y0 && (x1 == y1)) = true
        · have HP := Aside0.mk (H.out.step (w' := wr) (by obtain ⟨n, e⟩ := HD.out; rw [e]; rfl))
          have HE := Aside0.mk (HS.out.1 he)
          have HG : Aside0 (w.grownBy wr (some g)) := ⟨⟨HD.out.below.os, HD.out.below.tape, HD.out.below.output, HD.out.below.size, fun k hk _ => HD.out.below.block k hk⟩⟩
          have i5 : (k : Int) ≤ (l.length : Int) := by omega
          go_wp2_with fail
          go_quiet (fail)
          go_wp2_with fail
          have hl0 : compP (l.take (k + 1)) = l.take k := by
            have hc := comp_none k (by omega) HN.out
            rw [comp_step hk1 hlt, if_pos HE.out.symm, hc]
          have HL0 := Aside0.mk hl0
          have HH := HP.out
          have HG1 : Aside0 (∀ q, w.grownBy (wr.drewN q) (some g)) := ⟨fun q => ⟨HG.out.os, HG.out.tape, HG.out.output, HG.out.size, HG.out.block⟩⟩
          have HP1 : Aside0 (∀ q, PB (wr.drewN q) g cap l) := ⟨fun q => HP.out.step rfl⟩
          obtain ⟨n, hn⟩ : ∃ n, l.length - k = n := ⟨_, rfl⟩
          have hln : l.length = k + n := by omega
          have HLn := Aside0.mk hln
          rw [hn]
          clear hl0 HH HN HS HE HP HG HD he c1 c2 c3 c4 i1 i2 i3 i4 i5 hn hln
          go_loopg [3, 5] (n - 1) (fun q v3 v5 w' => ∃ (i j : Nat) (ys : List S51), v3 = .int .i64 i ∧ v5 = .int .i64 j ∧ 1 ≤ j ∧ j ≤ n ∧ 1 ≤ i ∧ i + 1 ≤ k + j ∧ q = n - j ∧ Aside0 (ys.length = l.length ∧ ys.take i = compP (l.take (k + j)) ∧ ys.drop (k + j - 1) = l.drop (k + j - 1)) ∧ Aside0 (PB w' g cap ys) ∧ Aside0 (w.grownBy w' (some g)))
          case atStart => exact ⟨k, 1, l, rfl, by go_num, Nat.le_refl _, by have := HLn.out; omega, hk1, Nat.le_refl _, rfl, ⟨rfl, HL0.out.symm, rfl⟩, ⟨HP1.out _⟩, ⟨HG1.out _⟩⟩
          case round =>
            obtain ⟨i, j, ys, rfl, rfl, hj1, hjn, hi1, hij, rfl, HY, HP, HG⟩ := hrel
            clear HL0 HG1 HP1
            have hyl : ys.length = k + n := by rw [HY.out.1, HLn.out]
            have hll := HLn.out
            by_cases hjl : j < n
            · have t3 : decide ((j : Int) < (n : Int)) = true := decide_eq_true (by omega)
              have hdr := HY.out.2.2
              have hkj : k + j < l.length := by omega
              have hkj1 : k + j - 1 < l.length := by omega
              have hp : ys[k + j]'(by omega) = l[k + j]'hkj := by
                have e := congrArg (fun z => z[1]?) hdr
                simp only [List.getElem?_drop] at e
                rw [show k + j - 1 + 1 = k + j by omega, List.getElem?_eq_getElem (by omega), List.getElem?_eq_getElem (by omega)] at e
                exact Option.some.inj e
              have hq : ys[k + j - 1]'(by omega) = l[k + j - 1]'hkj1 := by
                have e := congrArg (fun z => z[0]?) hdr
                simp only [List.getElem?_drop] at e
                rw [Nat.add_zero, List.getElem?_eq_getElem (by omega), List.getElem?_eq_getElem (by omega)] at e
                exact Option.some.inj e
              have hdr1 : ys.drop (k + j) = l.drop (k + j) := by
                have e := congrArg (List.drop 1) hdr
                rw [List.drop_drop, List.drop_drop, show k + j - 1 + 1 = k + j by omega] at e
                exact e
              obtain ⟨c1, c2⟩ := HP.out.cells (k + j) (by omega)
              obtain ⟨c3, c4⟩ := HP.out.cells (k + j - 1) (by omega)
              obtain ⟨d1, d2⟩ := HP.out.cells i (by omega)
              have f1 := HP.out.frozen (i * 2)
              have f2 := HP.out.frozen (i * 2 + 1)
              obtain ⟨p, hpp⟩ : ∃ x, ys[k + j]'(by omega) = x := ⟨_, rfl⟩
              obtain ⟨q, hqq⟩ : ∃ x, ys[k + j - 1]'(by omega) = x := ⟨_, rfl⟩
              rw [hpp] at c1 c2 hp
              rw [hqq] at c3 c4 hq
              rw [show (k + j) * 2 = k * 2 + j * 2 by omega] at c1 c2
              rw [show (k + j - 1) * 2 = k * 2 + (j - 1) * 2 by omega] at c3 c4
              have hsame := same_iff p q
              obtain ⟨p0, p1⟩ := p
              obtain ⟨q0, q1⟩ := q
              have HC := Aside0.mk (comp_step (l := l) (m := k + j) (Nat.le_trans hk1 (Nat.le_add_right k j)) hkj)
              have HPQ := Aside0.mk (And.intro hp hq)
              have HSm := Aside0.mk hsame
              have HDr := Aside0.mk hdr1
              obtain ⟨z0, hz0⟩ : ∃ z, (ys[i]'(by omega)).f0 = z := ⟨_, rfl⟩
              obtain ⟨z1, hz1⟩ : ∃ z, (ys[i]'(by omega)).f1 = z := ⟨_, rfl⟩
              rw [hz0] at d1
              rw [hz1] at d2
              clear hp hq hpp hqq hdr hdr1 hsame hz0 hz1
              have HHl := Aside0.mk hll
              have HHy := Aside0.mk hyl
              have i6 : (i : Int) < (l.length : Int) := by omega
              have i7 : (0 : Int) ≤ (j : Int) - 1 := by omega
              have i8 : (j : Int) - 1 < (n : Int) := by omega
              have i9 : (j : Int) < (n : Int) := by omega
              clear hll hyl
              by_cases he : (p0 == q0 && (p1 == q1)) = true
              · have HEq := Aside0.mk (HSm.out.1 he)
                go_wp2_with fail
                go_quiet (fail)
                go_wp2_with fail
                go_roundg (n - (j + 1))
                case measure => omega
                case rel => exact ⟨i, j + 1, ys, rfl, by go_num, by omega, hjl, hi1, by omega, rfl, ⟨HY.out.1, by rw [show k + (j + 1) = k + j + 1 by omega, HC.out, if_pos (by rw [← HPQ.out.1, ← HPQ.out.2]; exact HEq.out.symm)]; exact HY.out.2.1, by rw [show k + (j + 1) - 1 = k + j by omega]; exact HDr.out⟩, ⟨HP.out.step rfl⟩, ⟨⟨HG.out.os, HG.out.tape, HG.out.output, HG.out.size, HG.out.block⟩⟩⟩
              · have HEq := Aside0.mk (fun e => he (HSm.out.2 e))
                have he : (p0 == q0 && (p1 == q1)) = false := by simpa using he
                go_wp2_with fail
                go_quiet (fail)
                go_wp2_with fail
                go_roundg (n - (j + 1))
                case measure => omega
                case rel =>
                  have hset := (HP.out.step (w' := wr.drewN nq) rfl).set i (by rw [HHy.out]; omega) ⟨p0, p1⟩
                  refine ⟨i + 1, j + 1, ys.set i ⟨p0, p1⟩, by go_num, by go_num, by omega, hjl, by omega, by omega, rfl, ⟨by rw [List.length_set]; exact HY.out.1, ?_, ?_⟩, ⟨hset.1⟩, ⟨grown_trans (w1 := wr.drewN nq) ⟨HG.out.os, HG.out.tape, HG.out.output, HG.out.size, HG.out.block⟩ hset.2⟩⟩
                  · rw [show k + (j + 1) = k + j + 1 by omega, HC.out, if_neg (by rw [← HPQ.out.1, ← HPQ.out.2]; exact fun e => HEq.out e.symm), ← HY.out.2.1, ← HPQ.out.1]
                    have hi : i < (ys.set i ⟨p0, p1⟩).length := by rw [List.length_set, HHy.out]; omega
                    rw [List.take_succ_eq_append_getElem hi, List.getElem_set_self, List.take_set_of_le (Nat.le_refl i)]
                  · rw [show k + (j + 1) - 1 = k + j by omega, List.drop_set_of_lt (by omega)]
                    exact HDr.out
            · obtain rfl : j = n := by omega
              have t3 : decide ((j : Int) < (j : Int)) = false := decide_eq_false (by omega)
              have i6 : (i : Int) < (l.length : Int) := by omega
              have i7 : (i : Int) ≤ (l.length : Int) := by omega
              obtain ⟨cs, hcs, hcl⟩ := run_clear2 wr 0 g (i * 2) (l.length - i) (cap - i) (by omega) (fun x hx => by
                rcases (show x % 2 = 0 ∨ x % 2 = 1 by omega) with h' | h'
                · obtain ⟨e1, e2⟩ := HP.out.cells (i + x / 2) (by omega)
                  rw [show (i + x / 2) * 2 = i * 2 + x by omega] at e1
                  rw [e1]; rfl
                · obtain ⟨e1, e2⟩ := HP.out.cells (i + x / 2) (by omega)
                  rw [show (i + x / 2) * 2 + 1 = i * 2 + x by omega] at e2
                  rw [e2]; rfl) (fun x _ => HP.out.frozen _)
              have HCl := Aside0.mk (HP.out.clear i (by omega) cs (by have := HP.out.len; omega))
              have hti : ys.take i = compP l := by
                have := HY.out.2.1
                rwa [← hll, List.take_length] at this
              have HT := Aside0.mk hti
              have HTl : Aside0 ((ys.take i).length = i) := ⟨by rw [List.length_take]; omega⟩
              have HHl := Aside0.mk hll
              have HHy := Aside0.mk hyl
              clear hti hll hyl hcs
              go_wp2_with fail
              go_ret
              exact ⟨ys.take i, by rw [HTl.out]; rfl, HT.out, HCl.out.1, grown_trans HG.out HCl.out.2⟩
        · have HE := Aside0.mk (fun e => he (HS.out.2 e))
          have he : (x0 == y0 && (x1 == y1)) = false := by simpa using he
          go_wp2_with fail
          go_quiet (fail)
          go_wp2_with fail
          go_roundg (l.length - (k + 1))
          case measure => omega
          case rel => exact ⟨k + 1, by go_num, by omega, hlt, by omega, ⟨fun j hj hj2 => by
            by_cases hjk : j + 1 = k
            · subst hjk
              exact fun e => HE.out e.symm
            · exact HN.out j (by omega) hj2⟩, ⟨HD.out.step _⟩⟩
      · obtain rfl : k = l.length := by omega
        have t2 : decide ((l.length : Int) < (l.length : Int)) = false := decide_eq_false (by omega)
        have hc := comp_none l.length (Nat.le_refl _) (fun j hj hj2 => HN.out j hj hj2)
        rw [List.take_length] at hc
        have HC := Aside0.mk hc
        clear hc
        have HP := Aside0.mk (H.out.step (w' := wr) (by obtain ⟨n, e⟩ := HD.out; rw [e]; rfl))
        have HG : Aside0 (w.grownBy wr (some g)) := ⟨⟨HD.out.below.os, HD.out.below.tape, HD.out.below.output, HD.out.below.size, fun k hk _ => HD.out.below.block k hk⟩⟩
        go_wp2_with fail
        go_ret
        exact ⟨l, rfl, HC.out.symm, HP.out, HG.out⟩
end Go.Proofs.Ytdfjeanlhafipaa.Hs
namespace Go.Proofs.Ytdfjeanlhafipaa.Hs
open Go.ChangeShapes Go.WideShapes Go.ChangeAt Go.RowKit Go.Proofs.Ytdfjeanlhafipaa.QH
open Go.Proofs.YtdfjeanlhafipaaW.PrintWords Go.Proofs.YtdfjeanlhafipaaW.PrintLast Go.Proofs.YtdfjeanlhafipaaW.PrintMore
set_option linter.unusedVariables false
set_option linter.unusedSimpArgs false
/-- the bytes of a string -/
def bytesOf (s : ByteArray) : List Int := s.data.toList.map fun b : UInt8 => (b.toNat : Int)
theorem bytesOf_len (s : ByteArray) : (bytesOf s).length = s.size := by unfold bytesOf; rw [List.length_map, Array.length_toList]; rfl
theorem below_bytesWorld (w : World) (s : ByteArray) : Below w.heap.size w (Go.Lib.bytesWorld w 5 s) where
  os := rfl
  tape := rfl
  output := rfl
  size := by rw [Go.Lib.bytesWorld_size]; omega
  block := fun k hk => Go.Lib.bytesWorld_at_old w 5 s k hk
theorem conv_ex (w : World) (s : ByteArray) (hs : s.size ≤ 9223372036854775807) : ∃ c w', (Go.convert 9 81 (.string s)).run Try.prog w = .ok (.slice (some ⟨w.heap.size, 0, none⟩) s.size c) w' ∧ s.size ≤ c ∧ Below w.heap.size w w' ∧ Kd.C (Kd.int .u8) w' (some ⟨w.heap.size, 0, none⟩) s.size (bytesOf s) ∧ w'.heap.size = w.heap.size + 1 := by
  refine ⟨_, _, Go.Lib.run_convert_string_bytes w 9 81 5 s Try.underlying9 Try.underlying81 Try.underlying5, grownCap_ge _ _ _ _, below_bytesWorld w s, ?_, Go.Lib.bytesWorld_size _ _ _⟩
  have h := Hlp.C_mk (enc := Value.int .u8) (h1 := fun _ => rfl) (w := Go.Lib.bytesWorld w 5 s) (b := w.heap.size) (off := 0) (xs := bytesOf s) (by rw [bytesOf_len]; exact hs) (fun k hk => by
    rw [bytesOf_len] at hk
    rw [Nat.zero_add, Go.Lib.bytesWorld_cell w 5 s k hk]
    congr 2
    have hk2 : k < s.data.toList.length := by rw [Array.length_toList]; exact hk
    simp only [bytesOf, List.getElem_map, List.getD, List.getElem?_eq_getElem hk2, Option.getD_some])
  rw [bytesOf_len] at h
  exact h
/-- one row in a new block -/
theorem C_one {w : World} {A : Option Addr} {c : Nat} {row : List Int} (h : Kd.C (Kd.int .u8) w A row.length row) (hc : row.length ≤ c) (e : TypeId) :
    Kd.C (Kd.slice 5 (Kd.int .u8)) (w.alloc (.cells #[.slice A row.length c] e)) (some ⟨w.heap.size, 0, none⟩) [row].length [row] := by
  refine ⟨rfl, by simp, fun _ => ⟨_, rfl, fun j p hj => ?_⟩⟩
  have hj0 : j = 0 := by
    have := (List.getElem?_eq_some_iff.1 hj).1
    simp at this; exact this
  subst hj0
  obtain rfl : row = p := by simpa using hj
  refine ⟨[.slice A row.length c], rfl, ⟨A, c, rfl, hc, Kd.C_alloc h _⟩, fun i u hu => ?_⟩
  have hi : i = 0 := by
    have := (List.getElem?_eq_some_iff.1 hu).1
    simp at this; exact this
  subst hi
  have e1 : (⟨w.heap.size, 0, none⟩ : Addr).add (0 * (Kd.slice 5 (Kd.int .u8)).sz + 0) = ⟨w.heap.size, 0, none⟩ := by simp [Addr.add]
  rw [e1]
  have := blk_cell (blk_new w (.cells #[.slice A row.length c] e)) 0
  rw [this]
  simpa using hu
/-- what is stirred -/
def stirH (h : Int) : Int := (hash_Stir.f h).getD 0
theorem stir_f (h : Int) : hash_Stir.f h = some (stirH h) := rfl
theorem sum_one {A : Option Addr} {c : Nat} {row : List Int} {w : World} (hr : Kd.C (Kd.slice 5 (Kd.int .u8)) w A [row].length [row]) (hc : 1 ≤ c) :
    Calls Try.prog 55 #[.slice A 1 c] w fun e w' => e = .returned (.int .u64 (sumH [row])) ∧ Drawn0 w w' := hash_Sum.calls A c [row] _ w hr hc rfl
def keyH (s : ByteArray) : Int := stirH (sumH [bytesOf s])
set_option maxHeartbeats 4000000 in
set_option maxRecDepth 100000 in
theorem key_ (s : ByteArray) (w : World) (hs : s.size ≤ 140737488351232) :
    Calls Try.prog 35 #[.string s] w fun e w' => e = .returned (.int .u64 (keyH s)) ∧ Below w.heap.size w w' := by
  obtain ⟨c, w2, hcv, hck, hb, hC, hsz⟩ := conv_ex w s (by omega)
  have hl := bytesOf_len s
  rw [← hl] at hcv hck hC
  have HB := Aside0.mk (below_alloc hb (.cells #[.slice (some ⟨w.heap.size, 0, none⟩) (bytesOf s).length c] 81))
  have HC := Aside0.mk (C_one hC hck 81)
  clear hb hC hl hsz
  go_enter Try.func35, Try.ntmps35
  go_wp2_with fail
  clear hcv
  (with_reducible refine (sum_one HC.out (Nat.le_refl _)).mono ?_)
  rintro e w3 ⟨rfl, hd⟩
  have HD := Aside0.mk hd
  clear hd
  go_wp2_with fail
  (with_reducible refine (hash_Stir.calls _ _ _ (stir_f _)).mono ?_)
  rintro e w4 ⟨rfl, hd⟩
  have HD2 := Aside0.mk hd
  clear hd
  go_wp2_with fail
  go_ret
  exact ⟨rfl, below_then (below_then HB.out HB.out.size HD.out.below) (below_then HB.out HB.out.size HD.out.below).size HD2.out.below⟩
def hash_Key.f (s : ByteArray) : Option Int := if s.size ≤ 140737488351232 then some (keyH s) else none
theorem hash_Key.calls (s : ByteArray) (r : Int) (w : World) (h : hash_Key.f s = some r) :
    Calls Try.prog 35 #[.string s] w fun e w' => e = .returned (.int .u64 r) ∧ Below w.heap.size w w' := by
  unfold hash_Key.f at h
  split at h
  · rename_i hs
    rw [← Option.some.inj h]
    exact key_ s w hs
  · cases h
end Go.Proofs.Ytdfjeanlhafipaa.Hs
namespace Go.Proofs.Ytdfjeanlhafipaa.QP
open Go.RowKit Go.Proofs.YtdfjeanlhafipaaW.PrintWords Go.Proofs.YtdfjeanlhafipaaW.PrintLast Go.Proofs.YtdfjeanlhafipaaW.PrintMore
attribute [local go_sem] max2_int min2_int max_two min_two max_three min_three max_four min_four   -- for this text's walks alone
set_option linter.unusedVariables false
set_option linter.unusedSimpArgs false
def errW : Option Int → Value
  | none => .nilIface
  | some c => .iface 0 (.int .i64 c)
theorem errW_none : errW none = .nilIface := rfl
theorem errW_some (c : Int) : errW (some c) = .iface 0 (.int .i64 c) := rfl
end Go.Proofs.Ytdfjeanlhafipaa.QP
namespace Go.Proofs.Ytdfjeanlhafipaa.QP
open Go.RowKit Go.Proofs.YtdfjeanlhafipaaW.PrintWords Go.Proofs.YtdfjeanlhafipaaW.PrintLast Go.Proofs.YtdfjeanlhafipaaW.PrintMore
attribute [local go_sem] max2_int min2_int max_two min_two max_three min_three max_four min_four   -- for this text's walks alone
set_option linter.unusedVariables false
set_option linter.unusedSimpArgs false
/-! ### hash_Point: function 40 -/
def hash_Point.f (k : Nat) (a0 : Int) (a1 : Int) : Option (Int) := (QH.hash_word.f k a0).bind fun t101 => ((QH.hash_word.f k a1).bind fun t104 => ((Hs.hash_Sum.f (([t101, t104] : List (List Int)))).bind fun t110 => ((QH.hash_Stir.f t110).bind fun t111 => (some t111))))
set_option maxHeartbeats 8000000 in
set_option maxRecDepth 100000 in
theorem hash_Point.calls (k : Nat) (a0 : Int) (a1 : Int) (r : Int) (w : World) (h : hash_Point.f k a0 a1 = some r) :
    Calls Try.prog 40 #[.int .i64 a0, .int .i64 a1] w fun e w' => e = .returned (.int .u64 r) ∧ Below w.heap.size w w' := by
  have HB := Aside0.mk (Below.refl w.heap.size w)
  have H : ((QH.hash_word.f k a0).bind fun t101 => ((QH.hash_word.f k a1).bind fun t104 => ((Hs.hash_Sum.f (([t101, t104] : List (List Int)))).bind fun t110 => ((QH.hash_Stir.f t110).bind fun t111 => (some t111))))) = some r := h
  clear h
  replace H := Option.bind_eq_some_iff.mp H
  obtain ⟨t101, A30, H⟩ := H
  replace H : ((QH.hash_word.f k a1).bind fun t104 => ((Hs.hash_Sum.f (([t101, t104] : List (List Int)))).bind fun t110 => ((QH.hash_Stir.f t110).bind fun t111 => (some t111)))) = some r := H
  have A3 := Aside0.mk A30
  clear A30
  replace H := Option.bind_eq_some_iff.mp H
  obtain ⟨t104, A40, H⟩ := H
  replace H : ((Hs.hash_Sum.f (([t101, t104] : List (List Int)))).bind fun t110 => ((QH.hash_Stir.f t110).bind fun t111 => (some t111))) = some r := H
  have A4 := Aside0.mk A40
  clear A40
  obtain ⟨y107, hy107⟩ : ∃ y_ : List (List Int), y_ = (([t101, t104] : List (List Int))) := ⟨_, rfl⟩
  replace H : ((Hs.hash_Sum.f y107).bind fun t110 => ((QH.hash_Stir.f t110).bind fun t111 => (some t111))) = some r := by first | (rw [hy107]; with_reducible exact H) | (have H2_ := (Option.bind_some _ _).symm.trans H; rw [hy107]; with_reducible exact H2_) | (have H2_ := (Option.bind_some _ _).symm.trans H; with_reducible exact H2_) | with_reducible exact H | (rw [hy107]; exact H) | exact H
  have Ny107 := Aside0.mk hy107
  clear hy107
  replace H := Option.bind_eq_some_iff.mp H
  obtain ⟨t110, A50, H⟩ := H
  replace H : ((QH.hash_Stir.f t110).bind fun t111 => (some t111)) = some r := H
  have A5 := Aside0.mk A50
  clear A50
  replace H := Option.bind_eq_some_iff.mp H
  obtain ⟨t111, A60, H⟩ := H
  replace H : (some t111) = some r := H
  have A6 := Aside0.mk A60
  clear A60
  obtain rfl := Option.some.inj H
  go_enter Try.func40, Try.ntmps40
  go_wp2_with (first | ((with_reducible refine gate_callee (f := 59) rfl ?_); refine goesL_ (some 6) rfl rfl Try.func59 (by kernel_rfl) rfl #[.int .i64 a0] rfl (by (try simp only [List.map_toArray, List.map_cons, List.map_nil]); first | done | rfl | (simp only [List.length_drop, List.length_take]; rfl)) ?_; (with_reducible refine (QH.hash_word.calls k a0 t101 _ A3.out).mono ?_); rintro e w7 ⟨v102, rfl, ho0, hb⟩; refine ⟨_, rfl, ?_⟩; have n0_ := Aside0.mk (Kd.R_lower ho0 (below_size (by repeat (first | (with_reducible first | exact HB.out | apply below_alloc | apply pw_below_drewN | apply below_drew1) | exact HB.out)))); have n1_ := Aside0.mk (below_step (by repeat (first | (with_reducible first | exact HB.out | apply below_alloc | apply pw_below_drewN | apply below_drew1) | exact HB.out)) hb); clear HB; have HO103 := n0_; have HB := n1_; clear n0_ n1_; (try clear hb); (try clear hb2); (try clear hk); (try clear hi); (try clear ho0)) | ((with_reducible refine gate_callee (f := 59) rfl ?_); refine goesL_ (some 8) rfl rfl Try.func59 (by kernel_rfl) rfl #[.int .i64 a1] rfl (by (try simp only [List.map_toArray, List.map_cons, List.map_nil]); first | done | rfl | (simp only [List.length_drop, List.length_take]; rfl)) ?_; (with_reducible refine (QH.hash_word.calls k a1 t104 _ A4.out).mono ?_); rintro e w8 ⟨v105, rfl, ho0, hb⟩; refine ⟨_, rfl, ?_⟩; have n0_ := Aside0.mk (Kd.R_elder' (by (with_reducible repeat (first | apply Kd.R_alloc | apply Kd.R_drewN | apply Kd.R_drew)); exact HO103.out) (Kd.R_base ho0) hb); have n1_ := Aside0.mk (Kd.R_lower (Kd.R_new' ho0 (Kd.R_lt (by (with_reducible repeat (first | apply Kd.R_alloc | apply Kd.R_drewN | apply Kd.R_drew)); exact HO103.out))) (below_size (by repeat (first | (with_reducible first | exact HB.out | apply below_alloc | apply pw_below_drewN | apply below_drew1) | exact HB.out)))); have n2_ := Aside0.mk (below_step (by repeat (first | (with_reducible first | exact HB.out | apply below_alloc | apply pw_below_drewN | apply below_drew1) | exact HB.out)) hb); clear HO103; clear HB; have HO103 := n0_; have HO106 := n1_; have HB := n2_; clear n0_ n1_ n2_; (try clear hb); (try clear hb2); (try clear hk); (try clear hi); (try clear ho0); obtain ⟨Ao9, co9, eo9⟩ := Kd.R_slice HO103.out; subst eo9; obtain ⟨Ao10, co10, eo10⟩ := Kd.R_slice HO106.out; subst eo10) | ((with_reducible refine gate_dst (N := 9) rfl ?_); refine Kd.N_lit (Kd.slice 5 (Kd.int .u8)) _ 81 ?hg (N' := 9) ?hd (xs := ([t101, t104] : List (List Int))) (inner := [.slice Ao9 t101.length co9, .slice Ao10 t104.length co10]) (ok := (fun _ => True)) (okp := (fun _ => True)) ?hr ?hp (fun _ hk => hk) ((show ∀ k_, w8.heap.size ≤ k_ → (fun _ => True) k_ from fun k_ hk => trivial) _ (Nat.le_refl _)) (Below.refl _ _) (Nat.le_refl _) (by simp) ?_; (case hd => rfl); (case hg => rfl); (case hr => first | (go_simp; done) | (go_simp; rfl)); (case hp => exact (Reps.one (show Kd.FK (Kd.slice 5 (Kd.int .u8)) _ _ t101 [.slice Ao9 t101.length co9] from (Kd.FK_slice_mk (Kd.R_reads' (Kd.R_mono (ok' := (fun _ => True)) (HO103.out) (fun k_ hk => trivial))).2.1 (Kd.R_F (Kd.R_mono (ok' := (fun _ => True)) (HO103.out) (fun k_ hk => trivial))))) (Reps.one (show Kd.FK (Kd.slice 5 (Kd.int .u8)) _ _ t104 [.slice Ao10 t104.length co10] from (Kd.FK_slice_mk (Kd.R_reads' (Kd.R_mono (ok' := (fun _ => True)) (HO106.out) (fun k_ hk => trivial))).2.1 (Kd.R_F (Kd.R_mono (ok' := (fun _ => True)) (HO106.out) (fun k_ hk => trivial))))) (Reps.none _ _)))); intro v108 w11 ho12 hb hg_ hnew_; clear hg_ hnew_; (first | rw [← Ny107.out] at ho12 | (simp only [Int.reduceToNat] at ho12; rw [← Ny107.out] at ho12)); have n0_ := Aside0.mk (Kd.N_lower ho12 (below_size (by repeat (first | (with_reducible first | exact HB.out | apply below_alloc | apply pw_below_drewN | apply below_drew1) | exact HB.out)))); have n1_ := Aside0.mk (below_step (by repeat (first | (with_reducible first | exact HB.out | apply below_alloc | apply pw_below_drewN | apply below_drew1) | exact HB.out)) hb); clear HB; clear HO103; clear HO106; have HO109 := n0_; have HB := n1_; clear n0_ n1_; clear hb ho12; obtain ⟨Ao13, co13, eo13⟩ := Kd.N_slice HO109.out; subst eo13) | ((with_reducible refine gate_callee (f := 55) rfl ?_); refine goesL_ (some 10) rfl rfl Try.func55 (by kernel_rfl) rfl #[.slice Ao13 y107.length co13] rfl (by (try simp only [List.map_toArray, List.map_cons, List.map_nil]); first | done | rfl | (simp only [List.length_drop, List.length_take]; rfl)) ?_; (with_reducible refine (Hs.hash_Sum.calls _ _ y107 t110 _ ?side1 ?side2 A5.out).mono ?_); (case side1 => repeat (first | exact (Kd.N_reads' HO109.out).2.2 | (with_reducible refine Kd.C_alloc ?_ _) | (with_reducible refine Kd.C_drewN ?_ _) | (with_reducible refine Kd.C_drew ?_))); (case side2 => exact (Kd.N_reads' HO109.out).2.1); rintro e w' ⟨rfl, ⟨nd, rfl⟩⟩; refine ⟨_, rfl, ?_⟩) | ((with_reducible refine gate_callee (f := 54) rfl ?_); refine goesL_ (some 11) rfl rfl Try.func54 (by kernel_rfl) rfl #[.int .u64 t110] rfl (by (try simp only [List.map_toArray, List.map_cons, List.map_nil]); first | done | rfl | (simp only [List.length_drop, List.length_take]; rfl)) ?_; (with_reducible refine (QH.hash_Stir.calls t110 t111 _ A6.out).mono ?_); rintro e w' ⟨rfl, ⟨nd, rfl⟩⟩; refine ⟨_, rfl, ?_⟩))
  go_ret
  exact ⟨by first | rfl | (simp [errW_none, errW_some] <;> rfl) | (simp [*, errW_none, errW_some] <;> rfl), by repeat (first | (with_reducible first | exact HB.out | apply below_alloc | apply pw_below_drewN | apply below_drew1) | exact HB.out)⟩

-- NOT PRINTED: function 52 (ring_first_1)
end Go.Proofs.Ytdfjeanlhafipaa.QP
namespace Go.Proofs.Ytdfjeanlhafipaa.QP
open Go.RowKit Go.Proofs.YtdfjeanlhafipaaW.PrintWords Go.Proofs.YtdfjeanlhafipaaW.PrintLast Go.Proofs.YtdfjeanlhafipaaW.PrintMore
attribute [local go_sem] max2_int min2_int max_two min_two max_three min_three max_four min_four   -- for this text's walks alone
set_option linter.unusedVariables false
set_option linter.unusedSimpArgs false
end Go.Proofs.Ytdfjeanlhafipaa.QP
namespace Go.Proofs.Ytdfjeanlhafipaa.Lex
/-- from some count of rounds on -/
def Since {α : Type} (f : Nat → Option α) (r : α) : Prop := ∃ K, ∀ k, K ≤ k → f k = some r
theorem Since.one {α β : Type} {f : Nat → Option α} {r : α} {F : Nat → Option β} {q : β} (h : Since f r) (hF : ∀ k, f k = some r → F (k + 1) = some q) : Since F q := by
  obtain ⟨K, h⟩ := h
  refine ⟨K + 1, fun k hk => ?_⟩
  obtain ⟨k, rfl⟩ : ∃ j, k = j + 1 := ⟨k - 1, by omega⟩
  exact hF k (h k (by omega))
theorem Since.two {α α' β : Type} {f : Nat → Option α} {r : α} {g : Nat → Option α'} {r' : α'} {F : Nat → Option β} {q : β} (h : Since f r) (h' : Since g r') (hF : ∀ k, f k = some r → g k = some r' → F (k + 1) = some q) : Since F q := by
  obtain ⟨K, h⟩ := h
  obtain ⟨K', h'⟩ := h'
  refine ⟨K + K' + 1, fun k hk => ?_⟩
  obtain ⟨k, rfl⟩ : ∃ j, k = j + 1 := ⟨k - 1, by omega⟩
  exact hF k (h k (by omega)) (h' k (by omega))
theorem Since.none {β : Type} {F : Nat → Option β} {q : β} (hF : ∀ k, F (k + 1) = some q) : Since F q := by
  refine ⟨1, fun k hk => ?_⟩
  obtain ⟨k, rfl⟩ : ∃ j, k = j + 1 := ⟨k - 1, by omega⟩
  exact hF k
theorem Since.map {α β : Type} {f : Nat → Option α} {r : α} {F : Nat → Option β} {q : β} (h : Since f r) (hF : ∀ k, f k = some r → F k = some q) : Since F q := by
  obtain ⟨K, h⟩ := h
  exact ⟨K, fun k hk => hF k (h k hk)⟩
theorem Since.and {α α' β : Type} {f : Nat → Option α} {r : α} {g : Nat → Option α'} {r' : α'} {F : Nat → Option β} {q : β} (h : Since f r) (h' : Since g r') (hF : ∀ k, f k = some r → g k = some r' → F k = some q) : Since F q := by
  obtain ⟨K, h⟩ := h
  obtain ⟨K', h'⟩ := h'
  exact ⟨K + K', fun k hk => hF k (h k (by omega)) (h' k (by omega))⟩
end Go.Proofs.Ytdfjeanlhafipaa.Lex
namespace Go.Proofs.Ytdfjeanlhafipaa.Hs
open Go.RowKit Go.Proofs.Ytdfjeanlhafipaa.QH Go.Proofs.Ytdfjeanlhafipaa.Lex
open Go.Proofs.YtdfjeanlhafipaaW.PrintWords Go.Proofs.YtdfjeanlhafipaaW.PrintLast Go.Proofs.YtdfjeanlhafipaaW.PrintMore
set_option linter.unusedVariables false
set_option linter.unusedSimpArgs false
theorem w_succ' (i : Nat) (h : i < 9223372036854775807) : wrap64 ((i : Int) + 1) = ((i + 1 : Nat) : Int) := by unfold wrap64; omega
/-- rising from a number on, and none too great -/
def risesB : Int → List Int → Bool
  | _, [] => true
  | last, n :: l => !decide (n ≤ last) && (!decide (n > 1048575) && risesB n l)
def okB (l : List Int) (each keep : Int) : Bool := decide (0 < l.length) && (decide (l.length ≤ 64) && (risesB (-1) l && (decide (1 ≤ each) && (decide (each ≤ 64) && (decide (1 ≤ keep) && decide (keep ≤ (l.length : Int)))))))
def chk (l : List Int) (each keep : Int) : Int := if okB l each keep = true then 0 else 2
theorem rises_l0 (l : List Int) (hl : l.length ≤ 9223372036854775807) : ∀ (n i : Nat) (last : Int), l.length - i = n → i ≤ l.length →
    Since (fun k => ring_rises.l0 k last l (l.length : Int) (i : Int)) (risesB last (l.drop i)) := by
  intro n
  induction n with
  | zero =>
    intro i last hn hi
    have hf : ¬ ((i : Int) < (l.length : Int)) := by omega
    rw [List.drop_eq_nil_of_le (by omega)]
    exact Since.none fun k => by simp only [ring_rises.l0, if_neg hf]; rfl
  | succ n ih =>
    intro i last hn hi
    have h1 : i < l.length := by omega
    have f1 : (i : Int) < (l.length : Int) := by omega
    have f0 : (0 : Int) ≤ (i : Int) := by omega
    have r1 : rd l (i : Int) = l[i] := by simp [rd, h1]
    rw [List.drop_eq_getElem_cons h1]
    unfold risesB
    by_cases c1 : l[i] ≤ last
    · refine Since.none fun k => ?_
      simp only [ring_rises.l0, if_pos f1, if_pos f0, r1, if_pos c1]
      simp [c1]
    · by_cases c2 : l[i] > 1048575
      · refine Since.none fun k => ?_
        simp only [ring_rises.l0, if_pos f1, if_pos f0, r1, if_neg c1, if_pos c2]
        simp [c2]
      · refine Since.one (ih (i + 1) l[i] (by omega) (by omega)) fun k h => ?_
        simp only [ring_rises.l0, if_pos f1, if_pos f0, r1, if_neg c1, if_neg c2, w_succ' i (by omega)]
        rw [h]
        simp [c1, c2]
theorem check_ev (l : List Int) (each keep : Int) (hl : l.length ≤ 9223372036854775807) : Since (fun k => ring_Check.f k l each keep) (chk l each keep) := by
  have hr := rises_l0 l hl _ 0 (-1) rfl (Nat.zero_le _)
  rw [List.drop_zero] at hr
  refine hr.map fun k h => ?_
  unfold ring_Check.f ring_rises.f chk okB
  rw [show ring_rises.l0 k (-1) l (l.length : Int) 0 = some (risesB (-1) l) from h]
  by_cases c1 : (l.length : Int) = 0
  · have : l = [] := List.length_eq_zero_iff.1 (by omega)
    subst this
    simp
  · by_cases c2 : (l.length : Int) > 64
    · have c3 : ¬ (l.length ≤ 64) := by omega
      simp only [if_neg c1, if_pos c2]
      simp [c3]
    · have c3 : l.length ≤ 64 := by omega
      have c4 : 0 < l.length := by omega
      simp only [if_neg c1, if_neg c2, Option.bind_some]
      cases hb : risesB (-1) l
      · simp
      · by_cases d1 : each < 1
        · have : ¬ (1 ≤ each) := by omega
          simp [d1, this]
        · by_cases d2 : each > 64
          · have : ¬ (each ≤ 64) := by omega
            simp [d1, d2, this]
          · by_cases d3 : keep < 1
            · have : ¬ (1 ≤ keep) := by omega
              simp [d1, d2, d3, this]
            · by_cases d4 : keep > (l.length : Int)
              · have : ¬ (keep ≤ (l.length : Int)) := by omega
                simp [d1, d2, d3, d4, this]
              · have e1 : 1 ≤ each := by omega
                have e2 : each ≤ 64 := by omega
                have e3 : 1 ≤ keep := by omega
                have e4 : keep ≤ (l.length : Int) := by omega
                simp [d1, d2, d3, d4, e1, e2, e3, e4, c3, c4]
/-! the reference's -/
theorem rchk_l0 (l : List Int) (each keep : Int) (hl : l.length ≤ 9223372036854775807) : ∀ (n i : Nat), l.length - i = n → i ≤ l.length → ∀ last : Int, (i = 0 → last = -1) → (∀ h : 0 < i, ∀ h2 : i - 1 < l.length, last = l[i - 1] ∧ 0 ≤ last) →
    Since (fun k => icehouseref09_Check.l0 k (l.length : Int) (i : Int) l each keep) (if risesB last (l.drop i) = true then 0 else 2) := by
  intro n
  induction n with
  | zero =>
    intro i hn hi last _ _
    have hf : ¬ ((i : Int) < (l.length : Int)) := by omega
    rw [List.drop_eq_nil_of_le (by omega)]
    exact Since.none fun k => by simp only [icehouseref09_Check.l0, if_neg hf]; rfl
  | succ n ih =>
    intro i hn hi last h0 hs
    have h1 : i < l.length := by omega
    have f1 : (i : Int) < (l.length : Int) := by omega
    have f0 : (0 : Int) ≤ (i : Int) := by omega
    have r1 : rd l (i : Int) = l[i] := by simp [rd, h1]
    rw [List.drop_eq_getElem_cons h1]
    unfold risesB
    by_cases c1 : l[i] < 0
    · have : l[i] ≤ last := by
        rcases Nat.eq_zero_or_pos i with h | h
        · have := h0 h; omega
        · have := (hs h (by omega)).2; omega
      refine Since.none fun k => ?_
      simp only [icehouseref09_Check.l0, if_pos f1, if_pos f0, r1, if_pos c1]
      simp [this]
    · by_cases c2 : l[i] > 1048575
      · refine Since.none fun k => ?_
        simp only [icehouseref09_Check.l0, if_pos f1, if_pos f0, r1, if_neg c1, if_pos c2]
        simp [c2]
      · have hn1 := ih (i + 1) (by omega) (by omega) l[i] (by omega) (fun _ _ => ⟨by simp, by omega⟩)
        rcases Nat.eq_zero_or_pos i with h | h
        · subst h
          have hl0 := h0 rfl
          have c3 : ¬ (l[0] ≤ last) := by omega
          refine Since.one hn1 fun k h => ?_
          simp only [icehouseref09_Check.l0, if_pos f1, if_pos f0, r1, if_neg c1, if_neg c2, w_succ' 0 (by omega)]
          rw [if_neg (by omega), h]
          simp [c3, c2]
        · obtain ⟨hl1, hl2⟩ := hs h (by omega)
          have g1 : wrap64 ((i : Int) - 1) = ((i - 1 : Nat) : Int) := by unfold wrap64; omega
          have r2 : rd l ((i - 1 : Nat) : Int) = l[i - 1] := by simp [rd, show i - 1 < l.length by omega]
          have g2 : (0 : Int) ≤ ((i - 1 : Nat) : Int) := by omega
          have g3 : ((i - 1 : Nat) : Int) < (l.length : Int) := by omega
          have g4 : (i : Int) > 0 := by omega
          by_cases c3 : l[i] ≤ l[i - 1]
          · refine Since.none fun k => ?_
            simp only [icehouseref09_Check.l0, if_pos f1, if_pos f0, r1, if_neg c1, if_neg c2, if_pos g4, g1, if_pos g2, if_pos g3, r2, if_pos c3]
            rw [hl1]
            simp [c3]
          · refine Since.one hn1 fun k h => ?_
            simp only [icehouseref09_Check.l0, if_pos f1, if_pos f0, r1, if_neg c1, if_neg c2, if_pos g4, g1, if_pos g2, if_pos g3, r2, if_neg c3, w_succ' i (by omega)]
            rw [h, hl1]
            simp [c3, c2]
theorem rcheck_ev (l : List Int) (each keep : Int) (hl : l.length ≤ 9223372036854775807) : Since (fun k => icehouseref09_Check.f k l each keep) (chk l each keep) := by
  have hr := rchk_l0 l each keep hl _ 0 rfl (Nat.zero_le _) (-1) (fun _ => rfl) (fun h => absurd h (Nat.lt_irrefl 0))
  rw [List.drop_zero] at hr
  refine Since.one hr fun k h => ?_
  unfold icehouseref09_Check.f chk okB
  by_cases c1 : (l.length : Int) < 1
  · have : ¬ (0 < l.length) := by omega
    simp [c1, this, icehouseref09_Check.j0]
  · by_cases c2 : (l.length : Int) > 64
    · have c3 : ¬ (l.length ≤ 64) := by omega
      simp only [if_neg c1, if_pos c2]
      simp [c3, icehouseref09_Check.j0]
    · have c3 : l.length ≤ 64 := by omega
      have c4 : 0 < l.length := by omega
      by_cases d1 : each < 1
      · have : ¬ (1 ≤ each) := by omega
        simp [c1, c2, d1, this, icehouseref09_Check.j0]
      · by_cases d2 : each > 64
        · have : ¬ (each ≤ 64) := by omega
          simp [c1, c2, d1, d2, this, icehouseref09_Check.j0]
        · by_cases d3 : keep < 1
          · have : ¬ (1 ≤ keep) := by omega
            simp [c1, c2, d1, d2, d3, this, icehouseref09_Check.j0]
          · by_cases d4 : keep > (l.length : Int)
            · have : ¬ (keep ≤ (l.length : Int)) := by omega
              simp [c1, c2, d1, d2, d3, d4, this, icehouseref09_Check.j0]
            · have e1 : 1 ≤ each := by omega
              have e2 : each ≤ 64 := by omega
              have e3 : 1 ≤ keep := by omega
              have e4 : keep ≤ (l.length : Int) := by omega
              simp only [if_neg c1, if_neg c2, if_neg d1, if_neg d2, if_neg d3, decide_eq_false d4, icehouseref09_Check.j0]
              rw [if_neg (by decide), show icehouseref09_Check.l0 k (l.length : Int) 0 l each keep = _ from h]
              simp [e1, e2, e3, e4, c3, c4]
/-! a point's word -/
def ptH (n j : Int) : Int := (QP.hash_Point.f 9 n j).getD 0
theorem word_some (n : Int) : ∃ l, hash_word.f 9 n = some l := by
  unfold hash_word.f
  simp [hash_word.l0, wrap64]
theorem pt_f (n j : Int) : QP.hash_Point.f 9 n j = some (ptH n j) := by
  have h : ∃ r, QP.hash_Point.f 9 n j = some r := by
    obtain ⟨a, ha⟩ := word_some n
    obtain ⟨b, hb⟩ := word_some j
    unfold QP.hash_Point.f
    rw [ha, hb]
    exact ⟨_, rfl⟩
  obtain ⟨r, hr⟩ := h
  unfold ptH
  rw [hr]; rfl
/-- all points, as they are laid -/
def rowP (n : Int) (each : Nat) : List S51 := (List.range each).map fun j : Nat => ⟨ptH n (j : Int), n⟩
def rawP (l : List Int) (each : Int) : List S51 := l.flatMap fun n => rowP n each.toNat
theorem rowP_succ (n : Int) (k : Nat) : rowP n (k + 1) = rowP n k ++ [⟨ptH n (k : Int), n⟩] := by unfold rowP; rw [List.range_succ, List.map_append]; rfl
theorem rawP_snoc (l : List Int) (x each : Int) : rawP (l ++ [x]) each = rawP l each ++ rowP x each.toNat := by unfold rawP; rw [List.flatMap_append]; simp
theorem rowP_len (n : Int) (k : Nat) : (rowP n k).length = k := by unfold rowP; simp
theorem rawP_len (l : List Int) (each : Int) : (rawP l each).length = l.length * each.toNat := by
  induction l with
  | nil => simp [rawP]
  | cons x l ih =>
    have e : rawP (x :: l) each = rowP x each.toNat ++ rawP l each := by unfold rawP; simp
    rw [e, List.length_append, ih, rowP_len, List.length_cons, Nat.add_mul]
    omega
end Go.Proofs.Ytdfjeanlhafipaa.Hs
namespace Go.Proofs.Ytdfjeanlhafipaa.Hs
open Go.ChangeShapes Go.WideShapes Go.ChangeAt Go.RowKit Go.Proofs.Ytdfjeanlhafipaa.QH Go.Proofs.Ytdfjeanlhafipaa.Lex
open Go.Proofs.YtdfjeanlhafipaaW.PrintWords Go.Proofs.YtdfjeanlhafipaaW.PrintLast Go.Proofs.YtdfjeanlhafipaaW.PrintMore
set_option linter.unusedVariables false
set_option linter.unusedSimpArgs false
abbrev TR : TypeId := 24
/-- the points of a ring -/
def ptsP (l : List Int) (each : Int) : List S51 := compP (sortP (rawP l each))
def ring_Points.f (l : List Int) (each keep : Int) : Option (List S51 × Int) := some (if okB l each keep = true then (ptsP l each, 0) else ([], 2))
theorem grown_below {w w1 w2 : World} {B g : Nat} (h : Below B w w1) (hB : B ≤ w1.heap.size) (hg : w1.grownBy w2 (some g)) (hb : B ≤ g) : Below B w w2 :=
  pw_below_grown h (some g) hB hg (by intro k hk; injection hk with hk; omega)
theorem okB_len {l : List Int} {each keep : Int} (h : okB l each keep = true) : 0 < l.length ∧ l.length ≤ 64 ∧ 1 ≤ each ∧ each ≤ 64 ∧ 1 ≤ keep ∧ keep ≤ (l.length : Int) ∧ risesB (-1) l = true := by
  unfold okB at h
  simp only [Bool.and_eq_true, decide_eq_true_eq] at h
  exact ⟨h.1, h.2.1, h.2.2.2.1, h.2.2.2.2.1, h.2.2.2.2.2.1, h.2.2.2.2.2.2, h.2.2.1⟩
set_option maxHeartbeats 4000000 in
set_option maxRecDepth 100000 in
theorem points_no (A : Option Addr) (c : Nat) (l : List Int) (each keep : Int) (w : World) (hr : Kd.C (Kd.int .i64) w A l.length l) (hc : l.length ≤ c) (ho : okB l each keep = false) :
    Calls Try.prog 23 #[.agg #[.slice A l.length c, .int .i64 each, .int .i64 keep]] w fun e w' => ∃ v0_ : Value, e = .returned (.tuple #[v0_, .int .i64 2]) ∧ Kd.R k51 TP w' w.heap.size (fun _ => True) v0_ [] ∧ Below w.heap.size w w' := by
  have hu := Try.underlying24
  have HR := Aside0.mk (Kd.C_alloc hr (.cells #[.slice A l.length c, .int .i64 each, .int .i64 keep] TR))
  have HB := Aside0.mk (below_alloc (Below.refl w.heap.size w) (.cells #[.slice A l.length c, .int .i64 each, .int .i64 keep] TR))
  obtain ⟨K, hK⟩ := check_ev l each keep hr.2.1
  have hk := hK K (Nat.le_refl K)
  unfold chk at hk
  rw [ho, if_neg (by decide)] at hk
  have HK := Aside0.mk hk
  clear hr hK hk ho
  go_enter Try.func23, Try.ntmps23
  go_wp2_with fail
  (with_reducible refine (ring_Check.calls K A c l each keep 2 _ HR.out hc HK.out).mono ?_)
  rintro e w1 ⟨rfl, hb⟩
  have HB1 := Aside0.mk (below_then HB.out HB.out.size hb)
  clear hb
  go_wp2_with fail
  go_ret2
  exact ⟨_, rfl, Kd.R_nil _ _ _ _ _, HB1.out⟩
set_option maxHeartbeats 4000000 in
set_option maxRecDepth 100000 in
theorem points_yes (A : Option Addr) (c : Nat) (l : List Int) (each keep : Int) (w : World) (hr : Kd.C (Kd.int .i64) w A l.length l) (hc : l.length ≤ c) (ho : okB l each keep = true) :
    Calls Try.prog 23 #[.agg #[.slice A l.length c, .int .i64 each, .int .i64 keep]] w fun e w' => ∃ v0_ : Value, e = .returned (.tuple #[v0_, .int .i64 0]) ∧ Kd.R k51 TP w' w.heap.size (fun _ => True) v0_ (ptsP l each) ∧ Below w.heap.size w w' := by
  have hu := Try.underlying24
  obtain ⟨k0, k1, k2, k3, k4, k5, _⟩ := okB_len ho
  obtain ⟨K, hK⟩ := check_ev l each keep hr.2.1
  have hk := hK K (Nat.le_refl K)
  unfold chk at hk
  rw [ho, if_pos rfl] at hk
  have HK := Aside0.mk hk
  clear hK hk ho
  have HR := Aside0.mk hr
  have HRa := Aside0.mk (Kd.C_alloc hr (.cells #[.slice A l.length c, .int .i64 each, .int .i64 keep] TR))
  have HB := Aside0.mk (below_alloc (Below.refl w.heap.size w) (.cells #[.slice A l.length c, .int .i64 each, .int .i64 keep] TR))
  have BK := Aside0.mk (blk_new w (.cells #[.slice A l.length c, .int .i64 each, .int .i64 keep] TR))
  clear hr
  go_enter Try.func23, Try.ntmps23
  go_wp2_with fail
  (with_reducible refine (ring_Check.calls K A c l each keep 0 _ HRa.out hc HK.out).mono ?_)
  rintro e w1 ⟨rfl, hb⟩
  have HB1 := Aside0.mk (below_then HB.out HB.out.size hb)
  have BK1 := Aside0.mk (blk_below BK.out hb)
  have b0 : w1.cell? ⟨w.heap.size, 0, none⟩ = some (.slice A l.length c) := (blk_cell BK1.out 0).trans rfl
  clear hb
  go_wp2_with fail
  clear b0
  go_loopg [5, 17] l.length (fun q vo vk w' => ∃ (k d : Nat) (B : Option Addr) (acc : List S51), vo = .slice B acc.length d ∧ vk = .int .i64 k ∧ k ≤ l.length ∧ q = l.length - k ∧ Aside0 (acc = rawP (l.take k) each) ∧ Aside0 (Kd.R k51 TP w' w.heap.size (fun _ => True) (.slice B acc.length d) acc) ∧ Aside0 (Below w.heap.size w w') ∧ Aside0 (w'.heap[w.heap.size]? = some (.cells #[.slice A l.length c, .int .i64 each, .int .i64 keep] TR (0, 0))))
  case atStart => exact ⟨0, 0, none, [], rfl, rfl, Nat.zero_le _, rfl, ⟨rfl⟩, ⟨Kd.R_nil _ _ _ _ _⟩, HB1, BK1⟩
  case round =>
    obtain ⟨k, d, B, acc, rfl, rfl, hk, rfl, HA, HO, HB2, BK2⟩ := hrel
    clear HB HB1 BK BK1
    have hal : acc.length = k * each.toNat := by rw [HA.out, rawP_len, List.length_take, Nat.min_eq_left hk]
    have hb64 : k * each.toNat ≤ 64 * 64 := Nat.mul_le_mul (by omega) (by omega)
    by_cases hlt : k < l.length
    · have t1 : decide ((k : Int) < (l.length : Int)) = true := decide_eq_true (by omega)
      obtain ⟨b, off, hA, hcl⟩ := Hlp.C_block (Kd.C_below HR.out HB2.out) (by omega)
      have hcell := hcl k hlt
      subst hA
      obtain ⟨x, hx⟩ : ∃ x, l[k] = x := ⟨_, rfl⟩
      rw [hx] at hcell
      have HX := Aside0.mk hx
      have b1 : wr.cell? ⟨w.heap.size, 1, none⟩ = some (.int .i64 each) := (blk_cell BK2.out 1).trans rfl
      have i1 : (k : Int) < (l.length : Int) := by omega
      have HAL := Aside0.mk (And.intro hal hb64)
      clear hx hcl hal hb64
      go_wp2_with fail
      clear hcell b1
      go_loopg [5, 23] each.toNat (fun q vo vk w' => ∃ (j d : Nat) (B : Option Addr) (acc2 : List S51), vo = .slice B acc2.length d ∧ vk = .int .i64 j ∧ (j : Int) ≤ each ∧ q = each.toNat - j ∧ Aside0 (acc2 = acc ++ rowP x j) ∧ Aside0 (Kd.R k51 TP w' w.heap.size (fun _ => True) (.slice B acc2.length d) acc2) ∧ Aside0 (Below w.heap.size w w') ∧ Aside0 (w'.heap[w.heap.size]? = some (.cells #[.slice (some ⟨b, off, none⟩) l.length c, .int .i64 each, .int .i64 keep] TR (0, 0))))
      case atStart => exact ⟨0, d, B, acc, rfl, rfl, by omega, rfl, ⟨by simp [rowP]⟩, HO, HB2, BK2⟩
      case round =>
        obtain ⟨j, d2, B2, acc2, rfl, rfl, hj, rfl, HA2, HO2, HB3, BK3⟩ := hrel
        clear HO HB2 BK2
        have hal2 : acc2.length = acc.length + j := by rw [HA2.out, List.length_append, rowP_len]
        have hle : (acc2.length + 1) * 16 ≤ 140737488355328 := by have := HAL.out; omega
        by_cases hjl : (j : Int) < each
        · have t2 : decide ((j : Int) < each) = true := decide_eq_true hjl
          obtain ⟨acc3, hacc3⟩ : ∃ a, a = acc2 ++ [(⟨ptH x (j : Int), x⟩ : S51)] := ⟨_, rfl⟩
          have HA3 := Aside0.mk hacc3
          obtain ⟨p, hp⟩ : ∃ p, ptH x (j : Int) = p := ⟨_, rfl⟩
          have HPt : Aside0 (∀ W, Calls Try.prog 40 #[.int .i64 x, .int .i64 j] W fun e w' => e = .returned (.int .u64 p) ∧ Below W.heap.size W w') := ⟨fun W => QP.hash_Point.calls 9 x (j : Int) p W (by rw [pt_f, hp])⟩
          have HPe := Aside0.mk hp
          rw [hp] at HA3
          clear hacc3 hp hal2
          go_wp2_with fail
          (with_reducible refine (HPt.out _).mono ?_)
          rintro e w2 ⟨rfl, hb⟩
          have HB4 := Aside0.mk (below_then HB3.out HB3.out.size hb)
          have BK4 := Aside0.mk (blk_below BK3.out hb)
          have HO4 := Aside0.mk (Kd.R_below HO2.out hb)
          clear hb
          go_wp2_with ((with_reducible refine gate_builtin (b := .append) (xs := #[.tmp 26, .tmp 32]) rfl ?_); at_builtin; refine Kd.R_append k51 (w0 := w) w.heap.size rfl (.tmp 26) (.tmp 32) 42 TP (.agg #[(.int .u64 0), (.int .i64 0)]) 16 rfl Try.underlying42 info51 rfl (by decide) (by omega) (.slice B2 acc2.length d2) acc2 (⟨p, x⟩ : S51) [.int .u64 p, .int .i64 x] (fun _ => True) (fun _ => False) rfl rfl (k51_mkM _ _ _ (⟨p, x⟩ : S51)) (fun _ hk => hk.elim) (fun _ _ => trivial) HO4.out HB4.out HB4.out.size hle ?_; intro v3 w3 ho hb hg hat; rw [← HA3.out] at ho; have BK5 := Aside0.mk (blk_grown BK4.out hg (Kd.R_ne HO4.out BK4.out (by decide))); obtain ⟨B5, d5, hv5, hd5, _⟩ := Kd.R_reads ho; subst hv5; have HO5 := Aside0.mk ho; have HB5 := Aside0.mk hb; clear ho hb hg hat)
          go_roundg (each.toNat - (j + 1))
          case measure => omega
          case rel => exact ⟨j + 1, d5, B5, acc3, rfl, by go_num, by omega, rfl, ⟨by rw [HA3.out, HA2.out, rowP_succ, List.append_assoc, HPe.out]⟩, HO5, HB5, BK5⟩
        · obtain rfl : j = each.toNat := by omega
          have t2 : decide (((each.toNat : Nat) : Int) < each) = false := decide_eq_false (by omega)
          have HA4 : Aside0 (acc2 = rawP (l.take (k + 1)) each) := ⟨by rw [HA2.out, HA.out, List.take_succ_eq_append_getElem hlt, rawP_snoc, HX.out]⟩
          clear hal2 hle
          go_wp2_with fail
          go_roundg (l.length - (k + 1))
          case measure => omega
          case rel => exact ⟨k + 1, d2, B2, acc2, rfl, by go_num, hlt, rfl, HA4, HO2, HB3, BK3⟩
    · obtain rfl : k = l.length := by omega
      have t1 : decide ((l.length : Int) < (l.length : Int)) = false := decide_eq_false (by omega)
      rw [List.take_length] at HA
      have hpos : 0 < acc.length := by
        rw [hal]
        exact Nat.mul_pos k0 (by omega)
      obtain ⟨g, cap, hv, hg, _, hPB⟩ := PB.of_R HO.out hpos
      injection hv with hv1 _ hv3
      subst hv1
      subst hv3
      have HPB := Aside0.mk hPB
      have HG := Aside0.mk hg
      have hal2 : acc.length ≤ 4096 := by omega
      clear hPB hg hal hb64 hpos
      go_wp2_with fail
      (with_reducible refine (sort_ HPB.out (by omega)).mono ?_)
      rintro e w3 ⟨rfl, hp3, hg3⟩
      have HP3 := Aside0.mk hp3
      have HB3 := Aside0.mk (grown_below HB2.out HB2.out.size hg3 HG.out)
      have HL3 := Aside0.mk (sortP_len acc)
      have HS3 : Aside0 (∀ W, PB W g d (sortP acc) → Calls Try.prog 43 #[.slice (some ⟨g, 0, none⟩) acc.length d] W fun e w' => ∃ l' : List S51, e = .returned (.slice (some ⟨g, 0, none⟩) l'.length d) ∧ l' = compP (sortP acc) ∧ PB w' g d l' ∧ W.grownBy w' (some g)) := ⟨fun W hW => by
        have := compact_ hW (by rw [sortP_len]; omega)
        rwa [sortP_len] at this⟩
      clear hp3 hg3
      go_wp2_with fail
      (with_reducible refine (HS3.out _ HP3.out).mono ?_)
      rintro e w4 ⟨l', rfl, hl', hp4, hg4⟩
      have HP4 := Aside0.mk hp4
      have HL4 := Aside0.mk hl'
      have HB4 := Aside0.mk (grown_below HB3.out HB3.out.size hg4 HG.out)
      clear hl' hp4 hg4
      go_wp2_with fail
      go_ret2
      have he : l' = ptsP l each := by rw [HL4.out, HA.out]; rfl
      refine ⟨_, rfl, ?_, HB4.out⟩
      rw [← he]
      exact HP4.out.R HG.out trivial
theorem ring_Points.calls (A : Option Addr) (c : Nat) (l : List Int) (each keep : Int) (r1 : List S51) (r2 : Int) (w : World) (hr : Kd.C (Kd.int .i64) w A l.length l) (hc : l.length ≤ c) (hf : ring_Points.f l each keep = some (r1, r2)) :
    Calls Try.prog 23 #[.agg #[.slice A l.length c, .int .i64 each, .int .i64 keep]] w fun e w' => ∃ v0_ : Value, e = .returned (.tuple #[v0_, .int .i64 r2]) ∧ Kd.R k51 TP w' w.heap.size (fun _ => True) v0_ r1 ∧ Below w.heap.size w w' := by
  unfold ring_Points.f at hf
  have hf := Option.some.inj hf
  cases ho : okB l each keep
  · rw [ho, if_neg (by decide)] at hf
    injection hf with h1 h2
    subst h1; subst h2
    exact points_no A c l each keep w hr hc ho
  · rw [ho, if_pos rfl] at hf
    injection hf with h1 h2
    subst h1; subst h2
    exact points_yes A c l each keep w hr hc ho
end Go.Proofs.Ytdfjeanlhafipaa.Hs
namespace Go.Proofs.Ytdfjeanlhafipaa.Hs
open Go.ChangeShapes Go.WideShapes Go.ChangeAt Go.RowKit Go.Proofs.Ytdfjeanlhafipaa.QH Go.Proofs.Ytdfjeanlhafipaa.Lex
open Go.Proofs.YtdfjeanlhafipaaW.PrintWords Go.Proofs.YtdfjeanlhafipaaW.PrintLast Go.Proofs.YtdfjeanlhafipaaW.PrintMore
set_option linter.unusedVariables false
set_option linter.unusedSimpArgs false
theorem w_succ (i : Nat) (h : i < 9223372036854775807) : wrap64 ((i : Int) + 1) = ((i + 1 : Nat) : Int) := by unfold wrap64; omega
theorem index_l0 (l : List Int) (x : Int) (hl : l.length ≤ 9223372036854775807) : ∀ (n i : Nat), l.length - i = n → i ≤ l.length →
    ∃ r, Since (fun k => slices_Index_int_int.l0 k l x (l.length : Int) (i : Int)) r ∧ (r ≥ 0 ↔ x ∈ l.drop i) := by
  intro n
  induction n with
  | zero =>
    intro i hn hi
    have hf : ¬ ((i : Int) < (l.length : Int)) := by omega
    exact ⟨-1, Since.none fun k => by simp only [slices_Index_int_int.l0, if_neg hf], by rw [List.drop_eq_nil_of_le (by omega)]; simp⟩
  | succ n ih =>
    intro i hn hi
    have h1 : i < l.length := by omega
    have f1 : (i : Int) < (l.length : Int) := by omega
    have f0 : (0 : Int) ≤ (i : Int) := by omega
    have r1 : rd l (i : Int) = l[i] := by simp [rd, h1]
    obtain ⟨r, hr, hm⟩ := ih (i + 1) (by omega) (by omega)
    have d := List.drop_eq_getElem_cons h1
    by_cases he : x = l[i]
    · exact ⟨i, Since.none fun k => by simp only [slices_Index_int_int.l0, if_pos f1, if_pos f0, r1, if_pos he], by rw [d, ← he]; simp⟩
    · refine ⟨r, Since.one hr fun k h => ?_, by rw [hm, d, List.mem_cons]; simp [he]⟩
      simp only [slices_Index_int_int.l0, if_pos f1, if_pos f0, r1, if_neg he, w_succ i (by omega)]
      exact h
theorem contains_ev (l : List Int) (x : Int) (hl : l.length ≤ 9223372036854775807) : Since (fun k => slices_Contains_int_int.f k l x) (decide (x ∈ l)) := by
  obtain ⟨r, hr, hm⟩ := index_l0 l x hl _ 0 rfl (Nat.zero_le _)
  rw [List.drop_zero] at hm
  refine hr.map fun k h => ?_
  simp only [slices_Contains_int_int.f, slices_Index_int_int.f]
  rw [show slices_Index_int_int.l0 k l x (l.length : Int) 0 = some r from h, Option.bind_some]
  congr 1
  exact decide_eq_decide.2 hm
/-- the walk of meet: those found, those to come -/
def meetS (keep : Int) : List Int → List Int → List Int
  | acc, [] => acc
  | acc, x :: l => if x ∈ acc then meetS keep acc l else if (acc.length : Int) + 1 = keep then acc ++ [x] else meetS keep (acc ++ [x]) l
def rotL (l : List S51) (i : Nat) : List Int := (l.drop i ++ l.take i).map S51.f1
theorem rotL_len (l : List S51) (i : Nat) (hi : i ≤ l.length) : (rotL l i).length = l.length := by unfold rotL; rw [List.length_map, List.length_append, List.length_drop, List.length_take]; omega
theorem rotL_at (l : List S51) (i k : Nat) (hi : i < l.length) (hk : k < l.length) : (rotL l i)[k]'(by rw [rotL_len l i (by omega)]; exact hk) = (l[(i + k) % l.length]'(Nat.mod_lt _ (by omega))).f1 := by
  unfold rotL
  rw [List.getElem_map]
  congr 1
  by_cases h : k < l.length - i
  · rw [List.getElem_append_left (by rw [List.length_drop]; exact h), List.getElem_drop]
    congr 1
    exact (Nat.mod_eq_of_lt (by omega)).symm
  · rw [List.getElem_append_right (by rw [List.length_drop]; omega), List.getElem_take]
    congr 1
    rw [List.length_drop, show i + k = (k - (l.length - i)) + l.length from by omega, Nat.add_mod_right, Nat.mod_eq_of_lt (by omega)]
def ring_meet.f (l : List S51) (at_ keep : Int) : Option (List Int) := if 0 ≤ at_ ∧ at_ < (l.length : Int) ∧ l.length ≤ 17592186044000 then some (meetS keep [] (rotL l at_.toNat)) else none
set_option maxHeartbeats 4000000 in
set_option maxRecDepth 100000 in
theorem meet_ (A : Option Addr) (c : Nat) (l : List S51) (i : Nat) (keep : Int) (w : World) (hr : Kd.C k51 w A l.length l) (hc : l.length ≤ c) (hi : i < l.length) (hm : l.length ≤ 17592186044000) :
    Calls Try.prog 33 #[.slice A l.length c, .int .i64 i, .int .i64 keep] w fun e w' => ∃ v, e = .returned v ∧ Kd.R (Kd.int .i64) 3 w' w.heap.size (fun _ => True) v (meetS keep [] (rotL l i)) ∧ Below w.heap.size w w' := by
  have HR := Aside0.mk hr
  have HC := Aside0.mk hc
  have HL := Aside0.mk (rotL_len l i (by omega))
  clear hr hc
  go_enter Try.func33, Try.ntmps33
  go_wp2
  go_step3
  go_wp2
  go_step3
  go_wp2
  go_loopg [7, 12] l.length (fun q vo vk w' => ∃ (acc : List Int) (k d : Nat) (B : Option Addr), vo = .slice B acc.length d ∧ vk = .int .i64 k ∧ k ≤ l.length ∧ q = l.length - k ∧ acc.length ≤ k ∧ acc.length ≤ d ∧ Aside0 (meetS keep [] (rotL l i) = meetS keep acc ((rotL l i).drop k)) ∧ Aside0 (Kd.R (Kd.int .i64) 3 w' w.heap.size (fun _ => True) (.slice B acc.length d) acc) ∧ Aside0 (Below w.heap.size w w'))
  case atStart => exact ⟨[], 0, 0, none, rfl, rfl, Nat.zero_le _, rfl, Nat.le_refl _, Nat.le_refl _, ⟨rfl⟩, ⟨Kd.R_nil _ _ _ _ _⟩, ⟨Below.refl _ _⟩⟩
  case round =>
    obtain ⟨acc, k, d, B, rfl, rfl, hk, rfl, hak, hd, HS, HO, HB⟩ := hrel
    by_cases hlt : k < l.length
    · have t1 : decide ((k : Int) < (l.length : Int)) = true := decide_eq_true (by omega)
      have t2 : (0 : Int) < (l.length : Int) := by omega
      have t3 : 0 ≤ ((i : Int) + (k : Int)) % (l.length : Int) := Int.emod_nonneg _ (by omega)
      have t4 : ((i : Int) + (k : Int)) % (l.length : Int) < (l.length : Int) := Int.emod_lt_of_pos _ (by omega)
      obtain ⟨b, off, hA, hc1, hc2⟩ := C_pt (Kd.C_below HR.out HB.out) ((i + k) % l.length) (Nat.mod_lt _ (by omega))
      subst hA
      have hx0 := rotL_at l i k hi hlt
      have hdr : (rotL l i).drop k = (l[(i + k) % l.length]'(Nat.mod_lt _ (by omega))).f1 :: (rotL l i).drop (k + 1) := by
        rw [List.drop_eq_getElem_cons (by rw [HL.out]; exact hlt), hx0]
      obtain ⟨x, hx⟩ : ∃ x, (l[(i + k) % l.length]'(Nat.mod_lt _ (by omega))).f1 = x := ⟨_, rfl⟩
      rw [hx] at hc2 hdr
      have HDr := Aside0.mk hdr
      obtain ⟨K, hK⟩ := contains_ev acc x (by omega)
      have HK := Aside0.mk (hK K (Nat.le_refl K))
      clear hx hx0 hdr hc1 hK
      go_wp2_with fail
      (with_reducible refine (slices_Contains_int_int.calls K B d acc x _ _ (Kd.R_reads' HO.out).2.2 hd HK.out).mono ?_)
      rintro e w1 ⟨rfl, hdw⟩
      have HO := Aside0.mk (Kd.R_below HO.out hdw.below)
      have HB := Aside0.mk (below_then HB.out HB.out.size hdw.below)
      clear hdw hc2
      by_cases hin : x ∈ acc
      · have hdec : decide (x ∈ acc) = true := decide_eq_true hin
        have HS1 : Aside0 (meetS keep [] (rotL l i) = meetS keep acc ((rotL l i).drop (k + 1))) := ⟨by rw [HS.out, HDr.out]; unfold meetS; rw [if_pos hin]; cases (rotL l i).drop (k + 1) <;> rfl⟩
        rw [hdec]
        clear hdec hin
        go_wp2_with fail
        go_roundg (l.length - (k + 1))
        case measure => omega
        case rel => exact ⟨acc, k + 1, d, B, rfl, by go_num, hlt, rfl, by omega, hd, HS1, HO, HB⟩
      · have hdec : decide (x ∈ acc) = false := decide_eq_false hin
        rw [hdec]
        have hle : (acc.length + 1) * 8 ≤ 140737488355328 := by omega
        obtain ⟨acc1, hacc1⟩ : ∃ a, a = acc ++ [x] := ⟨_, rfl⟩
        have HA := Aside0.mk hacc1
        have hl1 : acc1.length = acc.length + 1 := by rw [hacc1, List.length_append]; rfl
        have HL1 := Aside0.mk hl1
        have HIN := Aside0.mk hin
        clear hdec hin hacc1 hl1
        go_wp2_with ((with_reducible refine gate_builtin (b := .append) (xs := #[.tmp 28, .tmp 30]) rfl ?_); at_builtin; refine Kd.R_append (Kd.int .i64) (w0 := w) w.heap.size rfl (.tmp 28) (.tmp 30) 22 3 (.int .i64 0) 8 rfl Try.underlying22 info3 rfl (by decide) (by omega) (.slice B acc.length d) acc x [.int .i64 x] (fun _ => True) (fun _ => False) rfl rfl rfl (fun _ hk => hk.elim) (fun _ _ => trivial) HO.out HB.out HB.out.size hle ?_; intro v2 w2 ho hb hg hat; rw [← HA.out] at ho; obtain ⟨B2, d2, hv2, hd2, _⟩ := Kd.R_reads ho; subst hv2; have HO2 := Aside0.mk ho; have HB2 := Aside0.mk hb; clear ho hb hg hat)
        · have hkp : ((acc1.length : Int) == keep) = true := by assumption
          have hkq : (acc.length : Int) + 1 = keep := by have := eq_of_beq hkp; have := HL1.out; omega
          have hS : meetS keep [] (rotL l i) = acc1 := by rw [HS.out, HDr.out]; unfold meetS; rw [if_neg HIN.out, if_pos hkq, HA.out]
          have HSS := Aside0.mk hS
          clear hkp hkq hS
          rw [Exit.noGoto_ret]
          go_ret
          exact ⟨_, rfl, by rw [HSS.out]; exact HO2.out, HB2.out⟩
        · have hkp : ((acc1.length : Int) == keep) = false := by assumption
          have hkq : ¬ ((acc.length : Int) + 1 = keep) := by have := ne_of_beq_false hkp; have := HL1.out; omega
          have hS : meetS keep [] (rotL l i) = meetS keep acc1 ((rotL l i).drop (k + 1)) := by rw [HS.out, HDr.out]; unfold meetS; rw [if_neg HIN.out, if_neg hkq, HA.out]; cases (rotL l i).drop (k + 1) <;> rfl
          have HSS := Aside0.mk hS
          have hl1 := HL1.out
          clear hkp hkq hS
          go_roundg (l.length - (k + 1))
          case measure => omega
          case rel => exact ⟨acc1, k + 1, d2, B2, rfl, by go_num, hlt, rfl, by omega, hd2, HSS, HO2, HB2⟩
    · obtain rfl : k = l.length := by omega
      have t1 : decide ((l.length : Int) < (l.length : Int)) = false := decide_eq_false (by omega)
      rw [List.drop_eq_nil_of_le (by rw [HL.out]; exact Nat.le_refl _)] at HS
      go_wp2_with fail
      rw [Exit.noGoto_ret]
      go_ret
      exact ⟨_, rfl, by rw [HS.out]; exact HO.out, HB.out⟩
theorem ring_meet.calls (A : Option Addr) (c : Nat) (l : List S51) (at_ keep : Int) (r : List Int) (w : World) (hr : Kd.C k51 w A l.length l) (hc : l.length ≤ c) (hf : ring_meet.f l at_ keep = some r) :
    Calls Try.prog 33 #[.slice A l.length c, .int .i64 at_, .int .i64 keep] w fun e w' => ∃ v0_ : Value, e = .returned (v0_) ∧ Kd.R (Kd.int .i64) 3 w' w.heap.size (fun _ => True) v0_ r ∧ Below w.heap.size w w' := by
  unfold ring_meet.f at hf
  split at hf
  · rename_i hh
    obtain ⟨h0, h1, hm⟩ := hh
    obtain ⟨i, rfl⟩ := Int.eq_ofNat_of_zero_le h0
    rw [← Option.some.inj hf]
    exact meet_ A c l i keep w hr hc (by omega) hm
  · cases hf
end Go.Proofs.Ytdfjeanlhafipaa.Hs
namespace Go.Proofs.Ytdfjeanlhafipaa.QH
open Go.RowKit Go.Proofs.YtdfjeanlhafipaaW.PrintWords Go.Proofs.YtdfjeanlhafipaaW.PrintLast Go.Proofs.YtdfjeanlhafipaaW.PrintMore
attribute [local go_sem] max2_int min2_int max_two min_two max_three min_three max_four min_four   -- for this text's walks alone
set_option linter.unusedVariables false
set_option linter.unusedSimpArgs false
attribute [local go_sem high] eqA51
/-! ### icehouseref09_Points: function 22 -/
mutual
def icehouseref09_Points.l0 : Nat → List (S51) → Int → List Int → Int → Int → Option ((List (S51)))
  | 0, _, _, _, _, _ => none
  | k + 1, x3, x4, x158000, x158001, x158002 => if x4 < (x158000.length : Int) then (icehouseref09_Points.l1 k x3 x4 0 x158000 x158001 x158002) else (some x3)
def icehouseref09_Points.l1 : Nat → List (S51) → Int → Int → List Int → Int → Int → Option ((List (S51)))
  | 0, _, _, _, _, _, _ => none
  | k + 1, x3, x4, x5, x158000, x158001, x158002 => if x5 < x158001 then (if 0 ≤ x4 then (if x4 < (x158000.length : Int) then ((icehouseref04_Point.f k (rd x158000 x4) x5).bind fun t159 => (icehouseref09_Points.l2 k x3 x4 x5 0 x158000 x158001 x158002 t159 (rd x158000 x4))) else (none)) else (none)) else (icehouseref09_Points.l0 k x3 (wrap64 (x4 + 1)) x158000 x158001 x158002)
def icehouseref09_Points.l2 : Nat → List (S51) → Int → Int → Int → List Int → Int → Int → Int → Int → Option ((List (S51)))
  | 0, _, _, _, _, _, _, _, _, _ => none
  | k + 1, x3, x4, x5, x7, x158000, x158001, x158002, x162000, x162001 => if x7 < (x3.length : Int) then (if 0 ≤ x7 then ((icehouseref09_less.f ((rd_T51 x3 x7).f0) ((rd_T51 x3 x7).f1) x162000 x162001).bind fun t163 => (if t163 = true then (icehouseref09_Points.l2 k x3 x4 x5 (wrap64 (x7 + 1)) x158000 x158001 x158002 x162000 x162001) else (if (((rd_T51 x3 x7).f0) == x162000 && (((rd_T51 x3 x7).f1) == x162001)) = true then (icehouseref09_Points.l1 k x3 x4 (wrap64 (x5 + 1)) x158000 x158001 x158002) else (if x7 ≤ (x3.length : Int) then ((some (x3.take (x7 : Int).toNat : List (S51))).bind fun y165 => (if ([] : List (S51)).length + y165.length < 8796093022208 then ((some (([] : List (S51)) ++ y165 : List (S51))).bind fun y169 => (if y169.length < 8796093022208 then ((some (y169 ++ [(⟨x162000, x162001⟩ : S51)] : List (S51))).bind fun y172 => ((some (x3.drop (x7 : Int).toNat : List (S51))).bind fun y175 => (if y172.length + y175.length < 8796093022208 then (icehouseref09_Points.l1 k (y172 ++ y175) x4 (wrap64 (x5 + 1)) x158000 x158001 x158002) else (none)))) else (none))) else (none))) else (none))))) else (none)) else (if 0 ≤ x7 then (if x7 ≤ (x3.length : Int) then ((some (x3.take (x7 : Int).toNat : List (S51))).bind fun y182 => (if ([] : List (S51)).length + y182.length < 8796093022208 then ((some (([] : List (S51)) ++ y182 : List (S51))).bind fun y186 => (if y186.length < 8796093022208 then ((some (y186 ++ [(⟨x162000, x162001⟩ : S51)] : List (S51))).bind fun y189 => ((some (x3.drop (x7 : Int).toNat : List (S51))).bind fun y192 => (if y189.length + y192.length < 8796093022208 then (icehouseref09_Points.l1 k (y189 ++ y192) x4 (wrap64 (x5 + 1)) x158000 x158001 x158002) else (none)))) else (none))) else (none))) else (none)) else (none))
end
def icehouseref09_Points.f (k : Nat) (l0_0 : List Int) (a0_1 : Int) (a0_2 : Int) : Option ((List (S51))) := icehouseref09_Points.l0 k ([] : List (S51)) 0 l0_0 a0_1 a0_2
theorem icehouseref09_Points.mono_l : ∀ k, (∀ y0 y1 y2 y3 y4, LeO (icehouseref09_Points.l0 k y0 y1 y2 y3 y4) (icehouseref09_Points.l0 (k + 1) y0 y1 y2 y3 y4)) ∧ (∀ y0 y1 y2 y3 y4 y5, LeO (icehouseref09_Points.l1 k y0 y1 y2 y3 y4 y5) (icehouseref09_Points.l1 (k + 1) y0 y1 y2 y3 y4 y5)) ∧ (∀ y0 y1 y2 y3 y4 y5 y6 y7 y8, LeO (icehouseref09_Points.l2 k y0 y1 y2 y3 y4 y5 y6 y7 y8) (icehouseref09_Points.l2 (k + 1) y0 y1 y2 y3 y4 y5 y6 y7 y8))
  | 0 => ⟨fun _ _ _ _ _ r h => by simp [icehouseref09_Points.l0] at h, fun _ _ _ _ _ _ r h => by simp [icehouseref09_Points.l1] at h, fun _ _ _ _ _ _ _ _ _ r h => by simp [icehouseref09_Points.l2] at h⟩
  | k + 1 => by
    obtain ⟨ih0, ih1, ih2⟩ := icehouseref09_Points.mono_l k
    refine ⟨?_, ?_, ?_⟩
    · intro y0 y1 y2 y3 y4
      unfold icehouseref09_Points.l0
      repeat' first
      | (with_reducible exact ih0 _ _ _ _ _)
      | (with_reducible exact ih1 _ _ _ _ _ _)
      | (with_reducible exact ih2 _ _ _ _ _ _ _ _ _)
      | (with_reducible exact icehouseref04_Point.mono _ _ _)
      | (with_reducible exact LeO.refl _)
      | (with_reducible exact LeO.none _)
      | (with_reducible refine LeO.ite ?_ ?_)
      | (with_reducible refine LeO.bind ?_ (fun _ => ?_))
      | exact ih0 _ _ _ _ _
      | exact ih1 _ _ _ _ _ _
      | exact ih2 _ _ _ _ _ _ _ _ _
      | exact icehouseref04_Point.mono _ _ _
      | exact LeO.none _
      | refine LeO.ite ?_ ?_
      | refine LeO.bind ?_ (fun _ => ?_)
    · intro y0 y1 y2 y3 y4 y5
      unfold icehouseref09_Points.l1
      repeat' first
      | (with_reducible exact ih0 _ _ _ _ _)
      | (with_reducible exact ih1 _ _ _ _ _ _)
      | (with_reducible exact ih2 _ _ _ _ _ _ _ _ _)
      | (with_reducible exact icehouseref04_Point.mono _ _ _)
      | (with_reducible exact LeO.refl _)
      | (with_reducible exact LeO.none _)
      | (with_reducible refine LeO.ite ?_ ?_)
      | (with_reducible refine LeO.bind ?_ (fun _ => ?_))
      | exact ih0 _ _ _ _ _
      | exact ih1 _ _ _ _ _ _
      | exact ih2 _ _ _ _ _ _ _ _ _
      | exact icehouseref04_Point.mono _ _ _
      | exact LeO.none _
      | refine LeO.ite ?_ ?_
      | refine LeO.bind ?_ (fun _ => ?_)
    · intro y0 y1 y2 y3 y4 y5 y6 y7 y8
      unfold icehouseref09_Points.l2
      repeat' first
      | (with_reducible exact ih0 _ _ _ _ _)
      | (with_reducible exact ih1 _ _ _ _ _ _)
      | (with_reducible exact ih2 _ _ _ _ _ _ _ _ _)
      | (with_reducible exact icehouseref04_Point.mono _ _ _)
      | (with_reducible exact LeO.refl _)
      | (with_reducible exact LeO.none _)
      | (with_reducible refine LeO.ite ?_ ?_)
      | (with_reducible refine LeO.bind ?_ (fun _ => ?_))
      | exact ih0 _ _ _ _ _
      | exact ih1 _ _ _ _ _ _
      | exact ih2 _ _ _ _ _ _ _ _ _
      | exact icehouseref04_Point.mono _ _ _
      | exact LeO.none _
      | refine LeO.ite ?_ ?_
      | refine LeO.bind ?_ (fun _ => ?_)
theorem icehouseref09_Points.mono : ∀ a0 a1 a2 k, LeO (icehouseref09_Points.f k a0 a1 a2) (icehouseref09_Points.f (k + 1) a0 a1 a2) := by
  intro a0 a1 a2 k
  obtain ⟨ih0, ih1, ih2⟩ := icehouseref09_Points.mono_l k
  unfold icehouseref09_Points.f
  repeat' first
      | (with_reducible exact ih0 _ _ _ _ _)
      | (with_reducible exact ih1 _ _ _ _ _ _)
      | (with_reducible exact ih2 _ _ _ _ _ _ _ _ _)
      | (with_reducible exact icehouseref04_Point.mono _ _ _)
      | (with_reducible exact LeO.refl _)
      | (with_reducible exact LeO.none _)
      | (with_reducible refine LeO.ite ?_ ?_)
      | (with_reducible refine LeO.bind ?_ (fun _ => ?_))
      | exact ih0 _ _ _ _ _
      | exact ih1 _ _ _ _ _ _
      | exact ih2 _ _ _ _ _ _ _ _ _
      | exact icehouseref04_Point.mono _ _ _
      | exact LeO.none _
      | refine LeO.ite ?_ ?_
      | refine LeO.bind ?_ (fun _ => ?_)
def icehouseref09_Points.T8 : Bool × List (List Nat × List Nat) := (true, [([], []), ([0], [0]), ([], []), ([1, 2], [1, 2]), ([3], [3]), ([], []), ([4, 5], [4, 5]), ([], []), ([7], [7]), ([], []), ([8, 9], [8, 9]), ([10], [10]), ([6, 11], [6, 11]), ([], []), ([13, 12, 6, 0, 1, 2, 3, 4, 5, 6, 7, 8, 9, 10, 11, 12, 13], [12, 13])])
def icehouseref09_Points.B8 : List Nat := [0, 1, 0, 7, 15, 0, 63, 0, 128, 0, 896, 1920, 4095, 0, 16383]
theorem icehouseref09_Points.tab8 : rtab .any (opsOf Try.f22 8) = icehouseref09_Points.T8 := by kernel_rfl
theorem icehouseref09_Points.bits8 : waitsOk icehouseref09_Points.T8.2 icehouseref09_Points.B8 = true := by kernel_rfl
def icehouseref09_Points.T10 : Bool × List (List Nat × List Nat) := (true, [([], []), ([], []), ([1], [1]), ([0, 2], [0, 2]), ([3], [3]), ([4], [4]), ([4], [4]), ([5, 6, 4], [4, 5, 6]), ([7, 4], [4, 7]), ([4], [4]), ([8, 9, 4, 4], [4, 8, 9]), ([4, 10], [4, 10])])
def icehouseref09_Points.B10 : List Nat := [0, 0, 2, 7, 15, 31, 31, 127, 255, 31, 1023, 2047]
theorem icehouseref09_Points.tab10 : rtab .any (opsOf Try.f22 10) = icehouseref09_Points.T10 := by kernel_rfl
theorem icehouseref09_Points.bits10 : waitsOk icehouseref09_Points.T10.2 icehouseref09_Points.B10 = true := by kernel_rfl
def icehouseref09_Points.T12 : Bool × List (List Nat × List Nat) := (true, [([], []), ([], []), ([1], [1]), ([0, 2], [0, 2]), ([3], [3]), ([4], [4]), ([4], [4]), ([5, 6, 4], [4, 5, 6]), ([7, 4], [4, 7]), ([4], [4]), ([8, 9, 4], [4, 8, 9]), ([4, 10], [4, 10])])
def icehouseref09_Points.B12 : List Nat := [0, 0, 2, 7, 15, 31, 31, 127, 255, 31, 1023, 2047]
theorem icehouseref09_Points.tab12 : rtab .any (opsOf Try.f22 12) = icehouseref09_Points.T12 := by kernel_rfl
theorem icehouseref09_Points.bits12 : waitsOk icehouseref09_Points.T12.2 icehouseref09_Points.B12 = true := by kernel_rfl
set_option maxHeartbeats 8000000 in
set_option maxRecDepth 100000 in
theorem icehouseref09_Points.calls (k : Nat) (A0_0 : Option Addr) (c0_0 : Nat) (l0_0 : List Int) (a0_1 : Int) (a0_2 : Int) (r : List (S51)) (w : World) (hr0_0 : Kd.C (Kd.int .i64) w A0_0 l0_0.length l0_0) (hc0_0 : l0_0.length ≤ c0_0) (h : icehouseref09_Points.f k l0_0 a0_1 a0_2 = some r) :
    Calls Try.prog 22 #[.agg #[.slice A0_0 l0_0.length c0_0, .int .i64 a0_1, .int .i64 a0_2]] w fun e w' => ∃ v0_ : Value, e = .returned (v0_) ∧ Kd.R k51 51 w' w.heap.size (fun _ => True) v0_ r ∧ Below w.heap.size w w' := by
  have hu24 := Try.underlying24
  have hu51 := Try.underlying51
  have HR0_0 := Aside0.mk hr0_0
  have HC0_0 := Aside0.mk hc0_0
  clear hr0_0 hc0_0
  have HB := Aside0.mk (Below.refl w.heap.size w)
  have H : (icehouseref09_Points.l0 k ([] : List (S51)) 0 l0_0 a0_1 a0_2) = some r := h
  clear h
  have H' := Aside0.mk H
  clear H
  go_enter Try.func22, Try.ntmps22
  go_wp2_with (first | ((with_reducible refine gate_dst (N := 1) rfl ?_); refine box_event ?hg (N := 1) ?hd (cs := #[.slice A0_0 l0_0.length c0_0, .int .i64 a0_1, .int .i64 a0_2]) (t := 24) ?hr ?_; (case hd => rfl); (case hg => rfl); (case hr => first | (go_simp; done) | (go_simp; rfl)); intro gb157 hg w2 hbox hb; have n0_ := Aside0.mk (below_step (by repeat (first | (with_reducible first | exact HB.out | apply below_alloc | apply pw_below_drewN | apply below_drew1) | exact HB.out)) hb); have n1_ := Aside0.mk (hbox); have n2_ := Aside0.mk ((by rw [hg]; exact (below_size (by repeat (first | (with_reducible first | exact HB.out | apply below_alloc | apply pw_below_drewN | apply below_drew1) | exact HB.out))) : w.heap.size ≤ gb157)); have n3_ := Aside0.mk ((by rw [hg]; exact (below_size (by repeat (first | (with_reducible first | exact HB.out | apply below_alloc | apply pw_below_drewN | apply below_drew1) | exact HB.out))) : w.heap.size ≤ gb157)); clear HB; have HB := n0_; have BK157 := n1_; have GW157 := n2_; have GE157 := n3_; clear n0_ n1_ n2_ n3_; clear hb hbox hg))
  go_loopg [3, 4] k (fun kq v3 v4 w' => ∃ (x3_1 : List (S51)) (x4_1 : Int), v4 = .int .i64 x4_1 ∧ Aside0 (icehouseref09_Points.l0 kq x3_1 x4_1 l0_0 a0_1 a0_2 = some r) ∧ Aside0 (kq ≤ k) ∧ Aside0 (Kd.R k51 51 w' w.heap.size (fun _ => True) v3 x3_1) ∧ Aside0 (w'.heap[gb157]? = some (.cells #[(.slice A0_0 l0_0.length c0_0), .int .i64 a0_1, .int .i64 a0_2] 24 (0, 0))) ∧ Aside0 (Below w.heap.size w w'))
  case atStart => exact ⟨(([] : List (S51))), (0), (by first | rfl | (simp; done) | (simp [*]; done)), H', ⟨Nat.le_refl _⟩, ⟨by first | exact Kd.R_nil _ _ _ _ _ | exact Kd.N_nil _ _ _ _ _ | exact Kd.V_nil _ _ _ _ _ | exact Kd.Q_nil _ _ _ _ _ | exact Kd.S_nil _ _ _ _ _⟩, ⟨by (with_reducible repeat (first | refine blk_drewN ?_ _ | refine blk_drew ?_ | refine blk_alloc ?_ _)); exact BK157.out⟩, ⟨by repeat (first | (with_reducible first | exact HB.out | apply below_alloc | apply pw_below_drewN | apply below_drew1 | refine below_set ?_ GE157.out) | exact HB.out)⟩⟩
  case round =>
    clear H'
    try clear c2
    try clear p2
    obtain ⟨x3_1, x4_1, rfl, HA, HK1, HO_3, BK157, HB⟩ := hrel
    cases gk with
    | zero => exact absurd HA.out (by simp [icehouseref09_Points.l0])
    | succ k1 =>
      have H := HA.out
      clear HA
      simp only [icehouseref09_Points.l0] at H
      by_cases c3 : x4_1 < (l0_0.length : Int)
      · rw [if_pos c3] at H
        have c3b0 : decide (x4_1 < (l0_0.length : Int)) = true := decide_eq_true c3
        clear c3
        have H' := Aside0.mk H
        clear H
        have hcz4_0 : wr.cell? ⟨gb157, 0, none⟩ = some (.slice A0_0 l0_0.length c0_0) := (blk_cell BK157.out 0).trans rfl
        have hcz4_1 : wr.cell? ⟨gb157, 1, none⟩ = some (.int .i64 a0_1) := (blk_cell BK157.out 1).trans rfl
        have hcz4_2 : wr.cell? ⟨gb157, 2, none⟩ = some (.int .i64 a0_2) := (blk_cell BK157.out 2).trans rfl
        have hfz4_0 := blk_frozen BK157.out 0
        have hfz4_1 := blk_frozen BK157.out 1
        have hfz4_2 := blk_frozen BK157.out 2
        go_wp2
        go_loopg [3, 5] k1 (fun kq v3 v5 w' => ∃ (x3_2 : List (S51)) (x5_2 : Int), v5 = .int .i64 x5_2 ∧ Aside0 (icehouseref09_Points.l1 kq x3_2 x4_1 x5_2 l0_0 a0_1 a0_2 = some r) ∧ Aside0 (kq ≤ k1) ∧ Aside0 (Kd.R k51 51 w' w.heap.size (fun _ => True) v3 x3_2) ∧ Aside0 (w'.heap[gb157]? = some (.cells #[(.slice A0_0 l0_0.length c0_0), .int .i64 a0_1, .int .i64 a0_2] 24 (0, 0))) ∧ Aside0 (Below w.heap.size w w'))
        case atStart => exact ⟨(x3_1), (0), (by first | rfl | (simp; done) | (simp [*]; done)), H', ⟨Nat.le_refl _⟩, ⟨by (with_reducible repeat (first | apply Kd.R_alloc | apply Kd.R_drewN | apply Kd.R_drew)); exact HO_3.out⟩, ⟨by (with_reducible repeat (first | refine blk_drewN ?_ _ | refine blk_drew ?_ | refine blk_alloc ?_ _)); exact BK157.out⟩, ⟨by repeat (first | (with_reducible first | exact HB.out | apply below_alloc | apply pw_below_drewN | apply below_drew1 | refine below_set ?_ GE157.out) | exact HB.out)⟩⟩
        case round =>
          clear H'
          try clear c2
          try clear p2
          try clear c3
          try clear c3b0
          try clear hcz4_0
          try clear hcz4_1
          try clear hcz4_2
          try clear hfz4_0
          try clear hfz4_1
          try clear hfz4_2
          try clear p2
          obtain ⟨x3_2, x5_2, rfl, HA, HK2, HO_3, BK157, HB⟩ := hrel
          cases gk with
          | zero => exact absurd HA.out (by simp [icehouseref09_Points.l1])
          | succ k2 =>
            have H := HA.out
            clear HA
            simp only [icehouseref09_Points.l1] at H
            by_cases c5 : x5_2 < a0_1
            · rw [if_pos c5] at H
              have c5b0 : decide (x5_2 < a0_1) = true := decide_eq_true c5
              clear c5
              by_cases c6 : 0 ≤ x4_1
              · rw [if_pos c6] at H
                have c6b0 : decide (0 ≤ x4_1) = true := decide_eq_true c6
                clear c6
                by_cases c7 : x4_1 < (l0_0.length : Int)
                · rw [if_pos c7] at H
                  have c7b0 : decide (x4_1 < (l0_0.length : Int)) = true := decide_eq_true c7
                  clear c7
                  replace H := Option.bind_eq_some_iff.mp H
                  obtain ⟨t159, A80, H⟩ := H
                  replace H : (icehouseref09_Points.l2 k2 x3_2 x4_1 x5_2 0 l0_0 a0_1 a0_2 t159 (rd l0_0 x4_1)) = some r := H
                  have A8 := Aside0.mk A80
                  clear A80
                  have H' := Aside0.mk H
                  clear H
                  have hcz9_0 : wr.cell? ⟨gb157, 0, none⟩ = some (.slice A0_0 l0_0.length c0_0) := (blk_cell BK157.out 0).trans rfl
                  have hcz9_1 : wr.cell? ⟨gb157, 1, none⟩ = some (.int .i64 a0_1) := (blk_cell BK157.out 1).trans rfl
                  have hcz9_2 : wr.cell? ⟨gb157, 2, none⟩ = some (.int .i64 a0_2) := (blk_cell BK157.out 2).trans rfl
                  have hfz9_0 := blk_frozen BK157.out 0
                  have hfz9_1 := blk_frozen BK157.out 1
                  have hfz9_2 := blk_frozen BK157.out 2
                  try go_wp2
                  have n0_ := Aside0.mk (Kd.R_drew HO_3.out)
                  have n1_ := Aside0.mk (blk_drew BK157.out)
                  have n2_ := Aside0.mk (below_drew1 HB.out)
                  clear HO_3
                  clear BK157
                  clear HB
                  have HO_3 := n0_
                  have BK157 := n1_
                  have HB := n2_
                  clear n0_ n1_ n2_
                  have p158 : 0 ≤ (x4_1 : Int) := of_decide_eq_true (by first | (with_reducible assumption) | assumption)
                  have q158 : x4_1 < (l0_0.length : Int) := of_decide_eq_true (by first | (with_reducible assumption) | assumption)
                  obtain ⟨ad158, e158, hx158_0⟩ := Kd.at_int HR0_0.out x4_1 p158 q158
                  have hw158_0 := hx158_0
                  cases e158
                  replace hx158_0 := (HB.out.cell (World.block_lt_of_cell? w _ hx158_0)).trans hx158_0
                  replace p158 := eq_true p158
                  replace q158 := eq_true q158
                  have p160 : 0 ≤ (x4_1 : Int) := of_decide_eq_true (by first | (with_reducible assumption) | assumption)
                  have q160 : x4_1 < (l0_0.length : Int) := of_decide_eq_true (by first | (with_reducible assumption) | assumption)
                  obtain ⟨ad160, e160, hx160_0⟩ := Kd.at_int HR0_0.out x4_1 p160 q160
                  have hw160_0 := hx160_0
                  obtain rfl : ad158 = ad160 := (by injection e160)
                  replace hx160_0 := (HB.out.cell (World.block_lt_of_cell? w _ hx160_0)).trans hx160_0
                  replace p160 := eq_true p160
                  replace q160 := eq_true q160
                  refine start_ (n := 15) (S := fun w' => w'.cell? ⟨gb157, 0, none⟩ = some (.slice (some ad158) l0_0.length c0_0) ∧ w'.cell? ⟨gb157, 1, none⟩ = some (.int .i64 a0_1) ∧ w'.cell? ⟨gb157, 2, none⟩ = some (.int .i64 a0_2) ∧ w'.cell? (ad158.add (x4_1).toNat) = some (.int .i64 (rd l0_0 x4_1)) ∧ w'.cell? (ad158.add (x4_1).toNat) = some (.int .i64 (rd l0_0 x4_1))) (ds := []) #[false, false, false, false, false, false, false, false, false, false, false, false, false, false, false] (by kernel_rfl) rfl rfl ⟨(blk_cell BK157.out 0).trans rfl, (blk_cell BK157.out 1).trans rfl, (blk_cell BK157.out 2).trans rfl, ((HB.out.cell (World.block_lt_of_cell? w _ hw158_0)).trans hw158_0), ((HB.out.cell (World.block_lt_of_cell? w _ hw160_0)).trans hw160_0)⟩ (fun hHeld => ?_); refine with_tabW icehouseref09_Points.tab8 icehouseref09_Points.bits8 (fun HT_ HW_ => ?_)
                  generalize wr.drew = w10 at HO_3 BK157 HB hx158_0 hx160_0 hHeld ⊢
                  refine pure_ (i := 0) (N := some 22) (v := ?_) (a' := ?_) #[true, false, false, false, false, false, false, false, false, false, false, false, false, false, false] rfl rfl (any_of HT_.out (by kernel_rfl)) (fun _ _ _ h => h) (Or.inl ⟨by rfl, ?_⟩) ?_ ?_
                  rotate_left
                  · intro w'
                    go_simp
                    with_reducible rfl
                  rotate_left
                  · simp only [Act.put, List.setIfInBounds_toArray, List.set_cons_zero, List.set_cons_succ, i64_w, i32_w]
                    rfl
                  refine pure_ (i := 2) (N := some 24) (v := ?_) (a' := ?_) #[true, false, true, false, false, false, false, false, false, false, false, false, false, false, false] rfl rfl (any_of HT_.out (by kernel_rfl)) (fun _ _ _ h => h) (Or.inl ⟨by rfl, ?_⟩) ?_ ?_
                  rotate_left
                  · intro w'
                    go_simp
                    with_reducible rfl
                  rotate_left
                  · simp only [Act.put, List.setIfInBounds_toArray, List.set_cons_zero, List.set_cons_succ, i64_w, i32_w]
                    rfl
                  refine pure_ (i := 5) (N := some 27) (v := ?_) (a' := ?_) #[true, false, true, false, false, true, false, false, false, false, false, false, false, false, false] rfl rfl (any_of HT_.out (by kernel_rfl)) (fun _ _ _ h => h) (Or.inl ⟨by rfl, ?_⟩) ?_ ?_
                  rotate_left
                  · intro w'
                    go_simp
                    with_reducible rfl
                  rotate_left
                  · simp only [Act.put, List.setIfInBounds_toArray, List.set_cons_zero, List.set_cons_succ, i64_w, i32_w]
                    rfl
                  refine pure_ (i := 7) (N := some 29) (v := ?_) (a' := ?_) #[true, false, true, false, false, true, false, true, false, false, false, false, false, false, false] rfl rfl (any_of HT_.out (by kernel_rfl)) (fun _ _ _ h => h) (Or.inl ⟨by rfl, ?_⟩) ?_ ?_
                  rotate_left
                  · intro w'
                    go_simp
                    with_reducible rfl
                  rotate_left
                  · simp only [Act.put, List.setIfInBounds_toArray, List.set_cons_zero, List.set_cons_succ, i64_w, i32_w]
                    rfl
                  refine pure_ (i := 9) (N := some 31) (v := ?_) (a' := ?_) #[true, false, true, false, false, true, false, true, false, true, false, false, false, false, false] rfl rfl (any_of HT_.out (by kernel_rfl)) (fun _ _ _ h => h) (Or.inl ⟨by rfl, ?_⟩) ?_ ?_
                  rotate_left
                  · intro w'
                    go_simp
                    with_reducible rfl
                  rotate_left
                  · simp only [Act.put, List.setIfInBounds_toArray, List.set_cons_zero, List.set_cons_succ, i64_w, i32_w]
                    rfl
                  refine take_ (i := 1) (N := some 23) (v := ?_) (a' := ?_) #[true, true, true, false, false, true, false, true, false, true, false, false, false, false, false] rfl rfl (take_ofW HT_.out HW_.out (by kernel_rfl)) (fun _ _ _ h => h) (Or.inl ⟨by rfl, ?_⟩) hHeld ?_ ?_
                  rotate_left
                  · rintro w' ⟨s0, s1, s2, s3, s4⟩
                    go_simp
                    with_reducible rfl
                  rotate_left
                  · simp only [Act.put, List.setIfInBounds_toArray, List.set_cons_zero, List.set_cons_succ, i64_w, i32_w]
                    rfl
                  refine pure_ (i := 3) (N := some 25) (v := ?_) (a' := ?_) #[true, true, true, true, false, true, false, true, false, true, false, false, false, false, false] rfl rfl (any_of HT_.out (by kernel_rfl)) (fun _ _ _ h => h) (Or.inl ⟨by rfl, ?_⟩) ?_ ?_
                  rotate_left
                  · intro w'
                    go_simp
                    with_reducible rfl
                  rotate_left
                  · simp only [Act.put, List.setIfInBounds_toArray, List.set_cons_zero, List.set_cons_succ, i64_w, i32_w]
                    rfl
                  refine take_ (i := 4) (N := some 26) (v := ?_) (a' := ?_) #[true, true, true, true, true, true, false, true, false, true, false, false, false, false, false] rfl rfl (take_ofW HT_.out HW_.out (by kernel_rfl)) (fun _ _ _ h => h) (Or.inl ⟨by rfl, ?_⟩) hHeld ?_ ?_
                  rotate_left
                  · rintro w' ⟨s0, s1, s2, s3, s4⟩
                    go_simp
                    with_reducible rfl
                  rotate_left
                  · simp only [Act.put, List.setIfInBounds_toArray, List.set_cons_zero, List.set_cons_succ, i64_w, i32_w]
                    rfl
                  refine take_ (i := 8) (N := some 30) (v := ?_) (a' := ?_) #[true, true, true, true, true, true, false, true, true, true, false, false, false, false, false] rfl rfl (take_ofW HT_.out HW_.out (by kernel_rfl)) (fun _ _ _ h => h) (Or.inl ⟨by rfl, ?_⟩) hHeld ?_ ?_
                  rotate_left
                  · rintro w' ⟨s0, s1, s2, s3, s4⟩
                    go_simp
                    with_reducible rfl
                  rotate_left
                  · simp only [Act.put, List.setIfInBounds_toArray, List.set_cons_zero, List.set_cons_succ, i64_w, i32_w]
                    rfl
                  refine pure_ (i := 10) (N := some 32) (v := ?_) (a' := ?_) #[true, true, true, true, true, true, false, true, true, true, true, false, false, false, false] rfl rfl (any_of HT_.out (by kernel_rfl)) (fun _ _ _ h => h) (Or.inl ⟨by rfl, ?_⟩) ?_ ?_
                  rotate_left
                  · intro w'
                    go_simp
                    with_reducible rfl
                  rotate_left
                  · simp only [Act.put, List.setIfInBounds_toArray, List.set_cons_zero, List.set_cons_succ, i64_w, i32_w]
                    rfl
                  refine take_ (i := 11) (N := some 33) (v := ?_) (a' := ?_) #[true, true, true, true, true, true, false, true, true, true, true, true, false, false, false] rfl rfl (take_ofW HT_.out HW_.out (by kernel_rfl)) (fun _ _ _ h => h) (Or.inl ⟨by rfl, ?_⟩) hHeld ?_ ?_
                  rotate_left
                  · rintro w' ⟨s0, s1, s2, s3, s4⟩
                    go_simp
                    with_reducible rfl
                  rotate_left
                  · simp only [Act.put, List.setIfInBounds_toArray, List.set_cons_zero, List.set_cons_succ, i64_w, i32_w]
                    rfl
                  refine join_ (σ := Nat) 1 #[true, true, true, true, true, true, true, true, true, true, true, true, true, true, false] (fun s_ => [(28, .int .u64 t159), (6, .pointer (some ⟨s_, 0, none⟩)), (34, .agg #[.int .u64 t159, .int .i64 (rd l0_0 x4_1)])]) (fun s_ w' => (w'.cell? ⟨gb157, 0, none⟩ = some (.slice (some ad158) l0_0.length c0_0) ∧ w'.cell? ⟨gb157, 1, none⟩ = some (.int .i64 a0_1) ∧ w'.cell? ⟨gb157, 2, none⟩ = some (.int .i64 a0_2) ∧ w'.cell? (ad158.add (x4_1).toNat) = some (.int .i64 (rd l0_0 x4_1)) ∧ w'.cell? (ad158.add (x4_1).toNat) = some (.int .i64 (rd l0_0 x4_1))) ∧ (Kd.R k51 51 w' w.heap.size (fun k_ => k_ ≠ s_) u3 x3_2) ∧ (w'.heap[gb157]? = some (.cells #[.slice (some ad158) l0_0.length c0_0, .int .i64 a0_1, .int .i64 a0_2] 24 (0, 0))) ∧ (w'.heap[s_]? = some (.cells #[.int .u64 0, .int .i64 0] 51 (0, 0))) ∧ (w.heap.size ≤ s_) ∧ (w.heap.size ≤ s_) ∧ (gb157 ≠ s_) ∧ (s_ ≠ gb157) ∧ (Below w.heap.size w w')) ?_ ?_
                  rotate_left
                  · intro hCont
                    refine two_ (i := 6) (j := 13) (Ni := some 28) (Nj := some 6) #[true, true, true, true, true, true, true, true, true, true, true, true, false, false, false] #[true, true, true, true, true, true, false, true, true, true, true, true, false, true, false] rfl rfl rfl rfl (two_of HT_.out (by kernel_rfl)) (by decide) (by decide) (fun K hK => ?_) (fun K hK => ?_)
                    · skip
                      refine goes_ Try.func38 (by kernel_rfl) rfl #[.int .i64 (rd l0_0 x4_1), .int .i64 x5_2] (by rfl) rfl rfl (by (try simp only [List.map_toArray, List.map_cons, List.map_nil]); first | done | rfl | (simp only [List.length_drop, List.length_take]; rfl)) ?_
                      with_reducible refine (icehouseref04_Point.calls k2 (rd l0_0 x4_1) x5_2 t159 _ A8.out).mono ?_
                      rintro e w11 ⟨rfl, hb⟩
                      refine ⟨_, rfl, ?_⟩
                      have n0_ := Aside0.mk (Kd.R_below (by (with_reducible repeat (first | apply Kd.R_alloc | apply Kd.R_drewN | apply Kd.R_drew)); exact HO_3.out) hb)
                      have n1_ := Aside0.mk (blk_below (g := gb157) (o := .cells #[.slice (some ad158) l0_0.length c0_0, .int .i64 a0_1, .int .i64 a0_2] 24 (0, 0)) (by (with_reducible repeat (first | refine blk_drewN ?_ _ | refine blk_drew ?_ | refine blk_alloc ?_ _)); exact BK157.out) hb)
                      have n2_ := Aside0.mk (below_step (by repeat (first | (with_reducible first | exact HB.out | apply below_alloc | apply pw_below_drewN | apply below_drew1 | refine below_set ?_ GE157.out) | exact HB.out)) hb)
                      clear HO_3
                      clear BK157
                      clear HB
                      have HO_3 := n0_
                      have BK157 := n1_
                      have HB := n2_
                      clear n0_ n1_ n2_
                      (try clear hb)
                      (try clear hb2)
                      (try clear hk)
                      (try clear hi)
                      refine hK.out _ _ ⟨(blk_cell BK157.out 0).trans rfl, (blk_cell BK157.out 1).trans rfl, (blk_cell BK157.out 2).trans rfl, ((HB.out.cell (World.block_lt_of_cell? w _ hw158_0)).trans hw158_0), ((HB.out.cell (World.block_lt_of_cell? w _ hw160_0)).trans hw160_0)⟩ (fun hHeld => ?_)
                      clear hK K
                      refine norm_ (a' := ?_) ?_ ?_
                      rotate_left
                      · show Act.put _ (some 28) _ = _
                        simp only [Act.put, List.setIfInBounds_toArray, List.set_cons_zero, List.set_cons_succ, i64_w, i32_w]
                        rfl
                      refine pure_ (i := 12) (N := some 34) (v := ?_) (a' := ?_) #[true, true, true, true, true, true, true, true, true, true, true, true, true, false, false] rfl rfl (any_of HT_.out (by kernel_rfl)) (fun _ _ _ h => h) (Or.inl ⟨by rfl, ?_⟩) ?_ ?_
                      rotate_left
                      · intro w'
                        go_simp
                        with_reducible rfl
                      rotate_left
                      · simp only [Act.put, List.setIfInBounds_toArray, List.set_cons_zero, List.set_cons_succ, i64_w, i32_w]
                        rfl
                      refine one_ (i := 13) (N := some 6) #[true, true, true, true, true, true, true, true, true, true, true, true, true, true, false] rfl rfl (one_of HT_.out (by kernel_rfl)) (by decide) (fun K hK => ?_)
                      refine box_step ?hg (N := 6) ?hd (cs := #[.int .u64 0, .int .i64 0]) (t := 51) ?hr ?_; (case hd => rfl); (case hg => rfl); (case hr => first | (go_simp; done) | (go_simp; rfl))
                      intro gb161 hg w12 hbox hb
                      have n0_ := Aside0.mk (Kd.R_below (Kd.R_elderB (by (with_reducible repeat (first | apply Kd.R_alloc | apply Kd.R_drewN | apply Kd.R_drew)); exact HO_3.out) gb161 (Nat.le_of_eq hg.symm)) hb)
                      have n1_ := Aside0.mk (blk_below (g := gb157) (o := .cells #[.slice (some ad158) l0_0.length c0_0, .int .i64 a0_1, .int .i64 a0_2] 24 (0, 0)) (by (with_reducible repeat (first | refine blk_drewN ?_ _ | refine blk_drew ?_ | refine blk_alloc ?_ _)); exact BK157.out) hb)
                      have n2_ := Aside0.mk (below_step (by repeat (first | (with_reducible first | exact HB.out | apply below_alloc | apply pw_below_drewN | apply below_drew1 | refine below_set ?_ GE157.out) | exact HB.out)) hb)
                      have n3_ := Aside0.mk (hbox)
                      have n4_ := Aside0.mk ((by rw [hg]; exact (below_size (by repeat (first | (with_reducible first | exact HB.out | apply below_alloc | apply pw_below_drewN | apply below_drew1 | refine below_set ?_ GE157.out) | exact HB.out))) : w.heap.size ≤ gb161))
                      have n5_ := Aside0.mk ((by rw [hg]; exact (below_size (by repeat (first | (with_reducible first | exact HB.out | apply below_alloc | apply pw_below_drewN | apply below_drew1 | refine below_set ?_ GE157.out) | exact HB.out))) : w.heap.size ≤ gb161))
                      have n6_ := Aside0.mk ((by rw [hg]; exact Nat.ne_of_lt (blk_lt (g := gb157) (o := .cells #[.slice (some ad158) l0_0.length c0_0, .int .i64 a0_1, .int .i64 a0_2] 24 (0, 0)) (by (with_reducible repeat (first | refine blk_drewN ?_ _ | refine blk_drew ?_ | refine blk_alloc ?_ _)); exact BK157.out)) : gb157 ≠ gb161))
                      have n7_ := Aside0.mk ((by rw [hg]; exact Nat.ne_of_gt (blk_lt (g := gb157) (o := .cells #[.slice (some ad158) l0_0.length c0_0, .int .i64 a0_1, .int .i64 a0_2] 24 (0, 0)) (by (with_reducible repeat (first | refine blk_drewN ?_ _ | refine blk_drew ?_ | refine blk_alloc ?_ _)); exact BK157.out)) : gb161 ≠ gb157))
                      clear HO_3
                      clear BK157
                      clear HB
                      have HO_3 := n0_
                      have BK157 := n1_
                      have HB := n2_
                      have BK161 := n3_
                      have GW161 := n4_
                      have GE161 := n5_
                      have NB157_161 := n6_
                      have NB161_157 := n7_
                      clear n0_ n1_ n2_ n3_ n4_ n5_ n6_ n7_
                      clear hb hbox hg
                      refine hK.out _ _ ⟨(blk_cell BK157.out 0).trans rfl, (blk_cell BK157.out 1).trans rfl, (blk_cell BK157.out 2).trans rfl, ((HB.out.cell (World.block_lt_of_cell? w _ hw158_0)).trans hw158_0), ((HB.out.cell (World.block_lt_of_cell? w _ hw160_0)).trans hw160_0)⟩ (fun hHeld => ?_)
                      clear hK K
                      refine norm_ (a' := ?_) ?_ ?_
                      rotate_left
                      · show Act.put _ (some 6) _ = _
                        simp only [Act.put, List.setIfInBounds_toArray, List.set_cons_zero, List.set_cons_succ, i64_w, i32_w]
                        rfl
                      exact norm_ (by simp only [putAll, Act.put, List.setIfInBounds_toArray, List.set_cons_zero, List.set_cons_succ]) (hCont (gb161) _ ⟨hHeld, (by (with_reducible repeat (first | apply Kd.R_alloc | apply Kd.R_drewN | apply Kd.R_drew)); exact Kd.R_mono HO_3.out (fun _ hk => hk.2)), (by (with_reducible repeat (first | refine blk_drewN ?_ _ | refine blk_drew ?_ | refine blk_alloc ?_ _)); exact BK157.out), (by (with_reducible repeat (first | refine blk_drewN ?_ _ | refine blk_drew ?_ | refine blk_alloc ?_ _)); exact BK161.out), GW161.out, GE161.out, NB157_161.out, NB161_157.out, (by repeat (first | (with_reducible first | exact HB.out | apply below_alloc | apply pw_below_drewN | apply below_drew1 | refine below_set ?_ GE157.out | refine below_set ?_ GE161.out) | exact HB.out))⟩)
                    · skip
                      refine box_step ?hg (N := 6) ?hd (cs := #[.int .u64 0, .int .i64 0]) (t := 51) ?hr ?_; (case hd => rfl); (case hg => rfl); (case hr => first | (go_simp; done) | (go_simp; rfl))
                      intro gb161 hg w11 hbox hb
                      have n0_ := Aside0.mk (Kd.R_below (Kd.R_elderB (by (with_reducible repeat (first | apply Kd.R_alloc | apply Kd.R_drewN | apply Kd.R_drew)); exact HO_3.out) gb161 (Nat.le_of_eq hg.symm)) hb)
                      have n1_ := Aside0.mk (blk_below (g := gb157) (o := .cells #[.slice (some ad158) l0_0.length c0_0, .int .i64 a0_1, .int .i64 a0_2] 24 (0, 0)) (by (with_reducible repeat (first | refine blk_drewN ?_ _ | refine blk_drew ?_ | refine blk_alloc ?_ _)); exact BK157.out) hb)
                      have n2_ := Aside0.mk (below_step (by repeat (first | (with_reducible first | exact HB.out | apply below_alloc | apply pw_below_drewN | apply below_drew1 | refine below_set ?_ GE157.out) | exact HB.out)) hb)
                      have n3_ := Aside0.mk (hbox)
                      have n4_ := Aside0.mk ((by rw [hg]; exact (below_size (by repeat (first | (with_reducible first | exact HB.out | apply below_alloc | apply pw_below_drewN | apply below_drew1 | refine below_set ?_ GE157.out) | exact HB.out))) : w.heap.size ≤ gb161))
                      have n5_ := Aside0.mk ((by rw [hg]; exact (below_size (by repeat (first | (with_reducible first | exact HB.out | apply below_alloc | apply pw_below_drewN | apply below_drew1 | refine below_set ?_ GE157.out) | exact HB.out))) : w.heap.size ≤ gb161))
                      have n6_ := Aside0.mk ((by rw [hg]; exact Nat.ne_of_lt (blk_lt (g := gb157) (o := .cells #[.slice (some ad158) l0_0.length c0_0, .int .i64 a0_1, .int .i64 a0_2] 24 (0, 0)) (by (with_reducible repeat (first | refine blk_drewN ?_ _ | refine blk_drew ?_ | refine blk_alloc ?_ _)); exact BK157.out)) : gb157 ≠ gb161))
                      have n7_ := Aside0.mk ((by rw [hg]; exact Nat.ne_of_gt (blk_lt (g := gb157) (o := .cells #[.slice (some ad158) l0_0.length c0_0, .int .i64 a0_1, .int .i64 a0_2] 24 (0, 0)) (by (with_reducible repeat (first | refine blk_drewN ?_ _ | refine blk_drew ?_ | refine blk_alloc ?_ _)); exact BK157.out)) : gb161 ≠ gb157))
                      clear HO_3
                      clear BK157
                      clear HB
                      have HO_3 := n0_
                      have BK157 := n1_
                      have HB := n2_
                      have BK161 := n3_
                      have GW161 := n4_
                      have GE161 := n5_
                      have NB157_161 := n6_
                      have NB161_157 := n7_
                      clear n0_ n1_ n2_ n3_ n4_ n5_ n6_ n7_
                      clear hb hbox hg
                      refine hK.out _ _ ⟨(blk_cell BK157.out 0).trans rfl, (blk_cell BK157.out 1).trans rfl, (blk_cell BK157.out 2).trans rfl, ((HB.out.cell (World.block_lt_of_cell? w _ hw158_0)).trans hw158_0), ((HB.out.cell (World.block_lt_of_cell? w _ hw160_0)).trans hw160_0)⟩ (fun hHeld => ?_)
                      clear hK K
                      refine norm_ (a' := ?_) ?_ ?_
                      rotate_left
                      · show Act.put _ (some 6) _ = _
                        simp only [Act.put, List.setIfInBounds_toArray, List.set_cons_zero, List.set_cons_succ, i64_w, i32_w]
                        rfl
                      refine one_ (i := 6) (N := some 28) #[true, true, true, true, true, true, true, true, true, true, true, true, false, true, false] rfl rfl (one_of HT_.out (by kernel_rfl)) (by decide) (fun K hK => ?_)
                      refine goes_ Try.func38 (by kernel_rfl) rfl #[.int .i64 (rd l0_0 x4_1), .int .i64 x5_2] (by rfl) rfl rfl (by (try simp only [List.map_toArray, List.map_cons, List.map_nil]); first | done | rfl | (simp only [List.length_drop, List.length_take]; rfl)) ?_
                      with_reducible refine (icehouseref04_Point.calls k2 (rd l0_0 x4_1) x5_2 t159 _ A8.out).mono ?_
                      rintro e w12 ⟨rfl, hb⟩
                      refine ⟨_, rfl, ?_⟩
                      have n0_ := Aside0.mk (Kd.R_below (by (with_reducible repeat (first | apply Kd.R_alloc | apply Kd.R_drewN | apply Kd.R_drew)); exact HO_3.out) hb)
                      have n1_ := Aside0.mk (blk_below (g := gb157) (o := .cells #[.slice (some ad158) l0_0.length c0_0, .int .i64 a0_1, .int .i64 a0_2] 24 (0, 0)) (by (with_reducible repeat (first | refine blk_drewN ?_ _ | refine blk_drew ?_ | refine blk_alloc ?_ _)); exact BK157.out) hb)
                      have n2_ := Aside0.mk (blk_below (g := gb161) (o := .cells #[.int .u64 0, .int .i64 0] 51 (0, 0)) (by (with_reducible repeat (first | refine blk_drewN ?_ _ | refine blk_drew ?_ | refine blk_alloc ?_ _)); exact BK161.out) hb)
                      have n3_ := Aside0.mk (below_step (by repeat (first | (with_reducible first | exact HB.out | apply below_alloc | apply pw_below_drewN | apply below_drew1 | refine below_set ?_ GE157.out | refine below_set ?_ GE161.out) | exact HB.out)) hb)
                      clear HO_3
                      clear BK157
                      clear BK161
                      clear HB
                      have HO_3 := n0_
                      have BK157 := n1_
                      have BK161 := n2_
                      have HB := n3_
                      clear n0_ n1_ n2_ n3_
                      (try clear hb)
                      (try clear hb2)
                      (try clear hk)
                      (try clear hi)
                      refine hK.out _ _ ⟨(blk_cell BK157.out 0).trans rfl, (blk_cell BK157.out 1).trans rfl, (blk_cell BK157.out 2).trans rfl, ((HB.out.cell (World.block_lt_of_cell? w _ hw158_0)).trans hw158_0), ((HB.out.cell (World.block_lt_of_cell? w _ hw160_0)).trans hw160_0)⟩ (fun hHeld => ?_)
                      clear hK K
                      refine norm_ (a' := ?_) ?_ ?_
                      rotate_left
                      · show Act.put _ (some 28) _ = _
                        simp only [Act.put, List.setIfInBounds_toArray, List.set_cons_zero, List.set_cons_succ, i64_w, i32_w]
                        rfl
                      refine pure_ (i := 12) (N := some 34) (v := ?_) (a' := ?_) #[true, true, true, true, true, true, true, true, true, true, true, true, true, true, false] rfl rfl (any_of HT_.out (by kernel_rfl)) (fun _ _ _ h => h) (Or.inl ⟨by rfl, ?_⟩) ?_ ?_
                      rotate_left
                      · intro w'
                        go_simp
                        with_reducible rfl
                      rotate_left
                      · simp only [Act.put, List.setIfInBounds_toArray, List.set_cons_zero, List.set_cons_succ, i64_w, i32_w]
                        rfl
                      exact norm_ (by simp only [putAll, Act.put, List.setIfInBounds_toArray, List.set_cons_zero, List.set_cons_succ]) (hCont (gb161) _ ⟨hHeld, (by (with_reducible repeat (first | apply Kd.R_alloc | apply Kd.R_drewN | apply Kd.R_drew)); exact Kd.R_mono HO_3.out (fun _ hk => hk.2)), (by (with_reducible repeat (first | refine blk_drewN ?_ _ | refine blk_drew ?_ | refine blk_alloc ?_ _)); exact BK157.out), (by (with_reducible repeat (first | refine blk_drewN ?_ _ | refine blk_drew ?_ | refine blk_alloc ?_ _)); exact BK161.out), GW161.out, GE161.out, NB157_161.out, NB161_157.out, (by repeat (first | (with_reducible first | exact HB.out | apply below_alloc | apply pw_below_drewN | apply below_drew1 | refine below_set ?_ GE157.out | refine below_set ?_ GE161.out) | exact HB.out))⟩)
                  rintro gb161 w13 ⟨hS_, h0_, h1_, h2_, h3_, h4_, h5_, h6_, h7_⟩
                  have n0_ : Aside0 (Kd.R k51 51 w13 w.heap.size (fun k_ => k_ ≠ gb161) u3 x3_2) := ⟨h0_⟩
                  have n1_ : Aside0 (w13.heap[gb157]? = some (.cells #[.slice (some ad158) l0_0.length c0_0, .int .i64 a0_1, .int .i64 a0_2] 24 (0, 0))) := ⟨h1_⟩
                  have n2_ : Aside0 (w13.heap[gb161]? = some (.cells #[.int .u64 0, .int .i64 0] 51 (0, 0))) := ⟨h2_⟩
                  have n3_ : Aside0 (w.heap.size ≤ gb161) := ⟨h3_⟩
                  have n4_ : Aside0 (w.heap.size ≤ gb161) := ⟨h4_⟩
                  have n5_ : Aside0 (gb157 ≠ gb161) := ⟨h5_⟩
                  have n6_ : Aside0 (gb161 ≠ gb157) := ⟨h6_⟩
                  have n7_ : Aside0 (Below w.heap.size w w13) := ⟨h7_⟩
                  clear HO_3
                  clear BK157
                  clear HB
                  clear h0_ h1_ h2_ h3_ h4_ h5_ h6_ h7_
                  have HO_3 := n0_
                  have BK157 := n1_
                  have BK161 := n2_
                  have GW161 := n3_
                  have GE161 := n4_
                  have NB157_161 := n5_
                  have NB161_157 := n6_
                  have HB := n7_
                  clear n0_ n1_ n2_ n3_ n4_ n5_ n6_ n7_
                  have hHeld : w13.cell? ⟨gb157, 0, none⟩ = some (.slice (some ad158) l0_0.length c0_0) ∧ w13.cell? ⟨gb157, 1, none⟩ = some (.int .i64 a0_1) ∧ w13.cell? ⟨gb157, 2, none⟩ = some (.int .i64 a0_2) ∧ w13.cell? (ad158.add (x4_1).toNat) = some (.int .i64 (rd l0_0 x4_1)) ∧ w13.cell? (ad158.add (x4_1).toNat) = some (.int .i64 (rd l0_0 x4_1)) := hS_
                  refine norm_ (a' := ?_) ?_ ?_
                  rotate_left
                  · simp only [putAll, Act.put, List.setIfInBounds_toArray, List.set_cons_zero, List.set_cons_succ]
                    rfl
                  refine one_ (i := 14) (N := none) #[true, true, true, true, true, true, true, true, true, true, true, true, true, true, true] rfl rfl (one_of HT_.out (by kernel_rfl)) (by decide) (fun K hK => ?_)
                  have hs14 : w13.cell? ⟨gb161, 0, none⟩ = some (.int .u64 0) := (blk_cell BK161.out 0).trans rfl
                  have hfs14 := blk_frozen BK161.out 0
                  have hns14_0 := NB157_161.out
                  have hms14_0 := NB161_157.out
                  have hs15 : w13.cell? ⟨gb161, 1, none⟩ = some (.int .i64 0) := (blk_cell BK161.out 1).trans rfl
                  have hfs15 := blk_frozen BK161.out 1
                  have hns15_0 := NB157_161.out
                  have hms15_0 := NB161_157.out
                  refine skip_ (w1 := ?_) (by rfl) rfl ?_ ?_
                  rotate_left
                  · go_simp
                    rfl
                  refine hK.out _ _ ⟨((cell_far (p := ⟨gb161, _, none⟩) NB157_161.out _).trans (((cell_far (p := ⟨gb161, _, none⟩) NB157_161.out _).trans (hHeld.1)))), ((cell_far (p := ⟨gb161, _, none⟩) NB157_161.out _).trans (((cell_far (p := ⟨gb161, _, none⟩) NB157_161.out _).trans (hHeld.2.1)))), ((cell_far (p := ⟨gb161, _, none⟩) NB157_161.out _).trans (((cell_far (p := ⟨gb161, _, none⟩) NB157_161.out _).trans (hHeld.2.2.1)))), ((cell_far (p := ⟨gb161, _, none⟩) (by first | exact Nat.ne_of_lt (Nat.lt_of_lt_of_le (by have := World.block_lt_of_cell? _ _ hw158_0; first | rwa [add_block] at this | exact this) GW161.out) | (rw [add_block]; exact Nat.ne_of_lt (Nat.lt_of_lt_of_le (by have := World.block_lt_of_cell? _ _ hw158_0; first | rwa [add_block] at this | exact this) GW161.out)) | (show (Addr.add _ _).block ≠ _; rw [add_block]; exact Nat.ne_of_lt (Nat.lt_of_lt_of_le (by have := World.block_lt_of_cell? _ _ hw158_0; first | rwa [add_block] at this | exact this) GW161.out)) | (dsimp only; exact Nat.ne_of_lt (Nat.lt_of_lt_of_le (by have := World.block_lt_of_cell? _ _ hw158_0; first | rwa [add_block] at this | exact this) GW161.out))) _).trans (((cell_far (p := ⟨gb161, _, none⟩) (by first | exact Nat.ne_of_lt (Nat.lt_of_lt_of_le (by have := World.block_lt_of_cell? _ _ hw158_0; first | rwa [add_block] at this | exact this) GW161.out) | (rw [add_block]; exact Nat.ne_of_lt (Nat.lt_of_lt_of_le (by have := World.block_lt_of_cell? _ _ hw158_0; first | rwa [add_block] at this | exact this) GW161.out)) | (show (Addr.add _ _).block ≠ _; rw [add_block]; exact Nat.ne_of_lt (Nat.lt_of_lt_of_le (by have := World.block_lt_of_cell? _ _ hw158_0; first | rwa [add_block] at this | exact this) GW161.out)) | (dsimp only; exact Nat.ne_of_lt (Nat.lt_of_lt_of_le (by have := World.block_lt_of_cell? _ _ hw158_0; first | rwa [add_block] at this | exact this) GW161.out))) _).trans (hHeld.2.2.2.1)))), ((cell_far (p := ⟨gb161, _, none⟩) (by first | exact Nat.ne_of_lt (Nat.lt_of_lt_of_le (by have := World.block_lt_of_cell? _ _ hw160_0; first | rwa [add_block] at this | exact this) GW161.out) | (rw [add_block]; exact Nat.ne_of_lt (Nat.lt_of_lt_of_le (by have := World.block_lt_of_cell? _ _ hw160_0; first | rwa [add_block] at this | exact this) GW161.out)) | (show (Addr.add _ _).block ≠ _; rw [add_block]; exact Nat.ne_of_lt (Nat.lt_of_lt_of_le (by have := World.block_lt_of_cell? _ _ hw160_0; first | rwa [add_block] at this | exact this) GW161.out)) | (dsimp only; exact Nat.ne_of_lt (Nat.lt_of_lt_of_le (by have := World.block_lt_of_cell? _ _ hw160_0; first | rwa [add_block] at this | exact this) GW161.out))) _).trans (((cell_far (p := ⟨gb161, _, none⟩) (by first | exact Nat.ne_of_lt (Nat.lt_of_lt_of_le (by have := World.block_lt_of_cell? _ _ hw160_0; first | rwa [add_block] at this | exact this) GW161.out) | (rw [add_block]; exact Nat.ne_of_lt (Nat.lt_of_lt_of_le (by have := World.block_lt_of_cell? _ _ hw160_0; first | rwa [add_block] at this | exact this) GW161.out)) | (show (Addr.add _ _).block ≠ _; rw [add_block]; exact Nat.ne_of_lt (Nat.lt_of_lt_of_le (by have := World.block_lt_of_cell? _ _ hw160_0; first | rwa [add_block] at this | exact this) GW161.out)) | (dsimp only; exact Nat.ne_of_lt (Nat.lt_of_lt_of_le (by have := World.block_lt_of_cell? _ _ hw160_0; first | rwa [add_block] at this | exact this) GW161.out))) _).trans (hHeld.2.2.2.2))))⟩ (fun hHeld => ?_)
                  clear hK K
                  refine done_ (done_of HT_.out (by kernel_rfl)) ?_
                  try go_wp2
                  go_loopg [7] k2 (fun kq v7 w' => ∃ (x7_3 : Int), v7 = .int .i64 x7_3 ∧ Aside0 (icehouseref09_Points.l2 kq x3_2 x4_1 x5_2 x7_3 l0_0 a0_1 a0_2 t159 (rd l0_0 x4_1) = some r) ∧ Aside0 (kq ≤ k2) ∧ Aside0 (Kd.R k51 51 w' w.heap.size (fun k_ => k_ ≠ gb161) u3 x3_2) ∧ Aside0 (w'.heap[gb157]? = some (.cells #[(.slice (some ad158) l0_0.length c0_0), .int .i64 a0_1, .int .i64 a0_2] 24 (0, 0))) ∧ Aside0 (w'.heap[gb161]? = some (.cells #[.int .u64 t159, .int .i64 (rd l0_0 x4_1)] 51 (0, 0))) ∧ Aside0 (Below w.heap.size w w'))
                  case atStart => exact ⟨(0), (by first | rfl | (simp; done) | (simp [*]; done)), H', ⟨Nat.le_refl _⟩, ⟨by (with_reducible repeat (first | apply Kd.R_alloc | apply Kd.R_drewN | apply Kd.R_drew)); exact Kd.R_mono (Kd.R_far (p := ⟨gb161, 1, none⟩) (Kd.R_far (p := ⟨gb161, 0, none⟩) (Kd.R_mono HO_3.out (fun k_ hk => (⟨hk, hk⟩ : _ ∧ k_ ≠ gb161))) (fun _ hk => hk.2) (.int .u64 t159)) (fun _ hk => hk.2) (.int .i64 (rd l0_0 x4_1))) (fun _ hk => hk.1)⟩, ⟨by (with_reducible repeat (first | refine blk_drewN ?_ _ | refine blk_drew ?_ | refine blk_alloc ?_ _)); refine blk_far ?_ NB157_161.out _; (with_reducible repeat (first | refine blk_drewN ?_ _ | refine blk_drew ?_ | refine blk_alloc ?_ _)); refine blk_far ?_ NB157_161.out _; (with_reducible repeat (first | refine blk_drewN ?_ _ | refine blk_drew ?_ | refine blk_alloc ?_ _)); exact BK157.out⟩, ⟨by (with_reducible repeat (first | refine blk_drewN ?_ _ | refine blk_drew ?_ | refine blk_alloc ?_ _)); refine blk_put (cs := #[.int .u64 t159, .int .i64 0]) ?_ 1 _ rfl; (with_reducible repeat (first | refine blk_drewN ?_ _ | refine blk_drew ?_ | refine blk_alloc ?_ _)); refine blk_put (cs := #[.int .u64 0, .int .i64 0]) ?_ 0 _ rfl; (with_reducible repeat (first | refine blk_drewN ?_ _ | refine blk_drew ?_ | refine blk_alloc ?_ _)); exact BK161.out⟩, ⟨by repeat (first | (with_reducible first | exact HB.out | apply below_alloc | apply pw_below_drewN | apply below_drew1 | refine below_set ?_ GE157.out | refine below_set ?_ GE161.out) | exact HB.out)⟩⟩
                  case round =>
                    clear H'
                    try clear p1
                    try clear q1
                    try clear hx1
                    try clear c2
                    try clear p2
                    try clear c3
                    try clear c3b0
                    try clear c5
                    try clear c5b0
                    try clear c6
                    try clear c6b0
                    try clear c7
                    try clear c7b0
                    try clear p15
                    try clear q15
                    try clear hx15
                    try clear hcz4_0
                    try clear hcz4_1
                    try clear hcz4_2
                    try clear hcz9_0
                    try clear hcz9_1
                    try clear hcz9_2
                    try clear hfz4_0
                    try clear hfz4_1
                    try clear hfz4_2
                    try clear hfz9_0
                    try clear hfz9_1
                    try clear hfz9_2
                    try clear hx158_0
                    try clear hx160_0
                    try clear p158
                    try clear p160
                    try clear p2
                    try clear q158
                    try clear q160
                    obtain ⟨x7_3, rfl, HA, HK3, HO_3, BK157, BK161, HB⟩ := hrel
                    cases gk with
                    | zero => exact absurd HA.out (by simp [icehouseref09_Points.l2])
                    | succ k3 =>
                      have H := HA.out
                      clear HA
                      simp only [icehouseref09_Points.l2] at H
                      by_cases c16 : x7_3 < (x3_2.length : Int)
                      · rw [if_pos c16] at H
                        have c16b0 : decide (x7_3 < (x3_2.length : Int)) = true := decide_eq_true c16
                        clear c16
                        by_cases c17 : 0 ≤ x7_3
                        · rw [if_pos c17] at H
                          have c17b0 : decide (0 ≤ x7_3) = true := decide_eq_true c17
                          clear c17
                          replace H := Option.bind_eq_some_iff.mp H
                          obtain ⟨t163, A180, H⟩ := H
                          replace H : (if t163 = true then (icehouseref09_Points.l2 k3 x3_2 x4_1 x5_2 (wrap64 (x7_3 + 1)) l0_0 a0_1 a0_2 t159 (rd l0_0 x4_1)) else (if (((rd_T51 x3_2 x7_3).f0) == t159 && (((rd_T51 x3_2 x7_3).f1) == (rd l0_0 x4_1))) = true then (icehouseref09_Points.l1 k3 x3_2 x4_1 (wrap64 (x5_2 + 1)) l0_0 a0_1 a0_2) else (if x7_3 ≤ (x3_2.length : Int) then ((some (x3_2.take (x7_3 : Int).toNat : List (S51))).bind fun y165 => (if ([] : List (S51)).length + y165.length < 8796093022208 then ((some (([] : List (S51)) ++ y165 : List (S51))).bind fun y169 => (if y169.length < 8796093022208 then ((some (y169 ++ [(⟨t159, (rd l0_0 x4_1)⟩ : S51)] : List (S51))).bind fun y172 => ((some (x3_2.drop (x7_3 : Int).toNat : List (S51))).bind fun y175 => (if y172.length + y175.length < 8796093022208 then (icehouseref09_Points.l1 k3 (y172 ++ y175) x4_1 (wrap64 (x5_2 + 1)) l0_0 a0_1 a0_2) else (none)))) else (none))) else (none))) else (none)))) = some r := H
                          have A18 := Aside0.mk A180
                          clear A180
                          by_cases c19 : t163 = true
                          · subst c19
                            have H1 : (icehouseref09_Points.l2 k3 x3_2 x4_1 x5_2 (wrap64 (x7_3 + 1)) l0_0 a0_1 a0_2 t159 (rd l0_0 x4_1)) = some r := by rw [if_pos rfl] at H; exact H
                            clear H
                            have H := H1
                            clear H1
                            have H' := Aside0.mk H
                            clear H
                            try go_wp2
                            have n0_ := Aside0.mk (Kd.R_drew HO_3.out)
                            have n1_ := Aside0.mk (blk_drew BK157.out)
                            have n2_ := Aside0.mk (blk_drew BK161.out)
                            have n3_ := Aside0.mk (below_drew1 HB.out)
                            clear HO_3
                            clear BK157
                            clear BK161
                            clear HB
                            have HO_3 := n0_
                            have BK157 := n1_
                            have BK161 := n2_
                            have HB := n3_
                            clear n0_ n1_ n2_ n3_
                            obtain ⟨Ao21, co21, eo21⟩ := Kd.R_slice HO_3.out
                            (first | subst eo21 | (injection eo21 with f1_ f2_ f3_; have f4_ := f1_.symm; have f5_ := f3_.symm; clear f1_ f2_ f3_; subst f4_; subst f5_))
                            have p162 : 0 ≤ (x7_3 : Int) := of_decide_eq_true (by first | (with_reducible assumption) | assumption)
                            have q162 : x7_3 < (x3_2.length : Int) := of_decide_eq_true (by first | (with_reducible assumption) | assumption)
                            obtain ⟨ad162, e162, hx162_0, hx162_1⟩ := at_T51 (Kd.R_reads' HO_3.out).2.2 x7_3 p162 q162
                            cases e162
                            replace p162 := eq_true p162
                            replace q162 := eq_true q162
                            refine start_ (n := 12) (S := fun w' => w'.cell? ⟨gb161, 0, none⟩ = some (.int .u64 t159) ∧ w'.cell? ⟨gb161, 1, none⟩ = some (.int .i64 (rd l0_0 x4_1)) ∧ w'.cell? (ad162.add ((x7_3).toNat * 2)) = some (.int .u64 ((rd_T51 x3_2 x7_3).f0)) ∧ w'.cell? ⟨(ad162.add ((x7_3).toNat * 2)).block, (ad162.add ((x7_3).toNat * 2)).off + 1, none⟩ = some (.int .i64 ((rd_T51 x3_2 x7_3).f1))) (ds := []) #[false, false, false, false, false, false, false, false, false, false, false, false] (by kernel_rfl) rfl rfl ⟨(blk_cell BK161.out 0).trans rfl, (blk_cell BK161.out 1).trans rfl, hx162_0, hx162_1⟩ (fun hHeld => ?_); refine with_tabW icehouseref09_Points.tab10 icehouseref09_Points.bits10 (fun HT_ HW_ => ?_)
                            generalize wr.drew = w20 at HO_3 BK157 BK161 HB hx162_0 hx162_1 hHeld ⊢
                            refine pure_ (i := 0) (N := some 35) (v := ?_) (a' := ?_) #[true, false, false, false, false, false, false, false, false, false, false, false] rfl rfl (any_of HT_.out (by kernel_rfl)) (fun _ _ _ h => h) (Or.inl ⟨by rfl, ?_⟩) ?_ ?_
                            rotate_left
                            · intro w'
                              go_simp
                              with_reducible rfl
                            rotate_left
                            · simp only [Act.put, List.setIfInBounds_toArray, List.set_cons_zero, List.set_cons_succ, i64_w, i32_w]
                              rfl
                            refine pure_ (i := 1) (N := some 36) (v := ?_) (a' := ?_) #[true, true, false, false, false, false, false, false, false, false, false, false] rfl rfl (any_of HT_.out (by kernel_rfl)) (fun _ _ _ h => h) (Or.inl ⟨by rfl, ?_⟩) ?_ ?_
                            rotate_left
                            · intro w'
                              go_simp
                              with_reducible rfl
                            rotate_left
                            · simp only [Act.put, List.setIfInBounds_toArray, List.set_cons_zero, List.set_cons_succ, i64_w, i32_w]
                              rfl
                            refine pure_ (i := 2) (N := some 37) (v := ?_) (a' := ?_) #[true, true, true, false, false, false, false, false, false, false, false, false] rfl rfl (any_of HT_.out (by kernel_rfl)) (fun _ _ _ h => h) (Or.inl ⟨by rfl, ?_⟩) ?_ ?_
                            rotate_left
                            · intro w'
                              go_simp
                              with_reducible rfl
                            rotate_left
                            · simp only [Act.put, List.setIfInBounds_toArray, List.set_cons_zero, List.set_cons_succ, i64_w, i32_w]
                              rfl
                            refine pure_ (i := 3) (N := some 38) (v := ?_) (a' := ?_) #[true, true, true, true, false, false, false, false, false, false, false, false] rfl rfl (any_of HT_.out (by kernel_rfl)) (fun _ _ _ h => h) (Or.inl ⟨by rfl, ?_⟩) ?_ ?_
                            rotate_left
                            · intro w'
                              go_simp
                              with_reducible rfl
                            rotate_left
                            · simp only [Act.put, List.setIfInBounds_toArray, List.set_cons_zero, List.set_cons_succ, i64_w, i32_w]
                              rfl
                            refine pure_ (i := 4) (N := some 39) (v := ?_) (a' := ?_) #[true, true, true, true, true, false, false, false, false, false, false, false] rfl rfl (any_of HT_.out (by kernel_rfl)) (fun _ _ _ h => h) (Or.inl ⟨by rfl, ?_⟩) ?_ ?_
                            rotate_left
                            · intro w'
                              go_simp
                              with_reducible rfl
                            rotate_left
                            · simp only [Act.put, List.setIfInBounds_toArray, List.set_cons_zero, List.set_cons_succ, i64_w, i32_w]
                              rfl
                            refine pure_ (i := 5) (N := some 40) (v := ?_) (a' := ?_) #[true, true, true, true, true, true, false, false, false, false, false, false] rfl rfl (any_of HT_.out (by kernel_rfl)) (fun _ _ _ h => h) (Or.inl ⟨by rfl, ?_⟩) ?_ ?_
                            rotate_left
                            · intro w'
                              go_simp
                              with_reducible rfl
                            rotate_left
                            · simp only [Act.put, List.setIfInBounds_toArray, List.set_cons_zero, List.set_cons_succ, i64_w, i32_w]
                              rfl
                            refine pure_ (i := 6) (N := some 41) (v := ?_) (a' := ?_) #[true, true, true, true, true, true, true, false, false, false, false, false] rfl rfl (any_of HT_.out (by kernel_rfl)) (fun _ _ _ h => h) (Or.inl ⟨by rfl, ?_⟩) ?_ ?_
                            rotate_left
                            · intro w'
                              go_simp
                              with_reducible rfl
                            rotate_left
                            · simp only [Act.put, List.setIfInBounds_toArray, List.set_cons_zero, List.set_cons_succ, i64_w, i32_w]
                              rfl
                            refine pure_ (i := 7) (N := some 42) (v := ?_) (a' := ?_) #[true, true, true, true, true, true, true, true, false, false, false, false] rfl rfl (any_of HT_.out (by kernel_rfl)) (fun _ _ _ h => h) (Or.inl ⟨by rfl, ?_⟩) ?_ ?_
                            rotate_left
                            · intro w'
                              go_simp
                              with_reducible rfl
                            rotate_left
                            · simp only [Act.put, List.setIfInBounds_toArray, List.set_cons_zero, List.set_cons_succ, i64_w, i32_w]
                              rfl
                            refine take_ (i := 8) (N := some 43) (v := ?_) (a' := ?_) #[true, true, true, true, true, true, true, true, true, false, false, false] rfl rfl (take_ofW HT_.out HW_.out (by kernel_rfl)) (fun _ _ _ h => h) (Or.inl ⟨by rfl, ?_⟩) hHeld ?_ ?_
                            rotate_left
                            · rintro w' ⟨s0, s1, s2, s3⟩
                              go_simp
                              with_reducible rfl
                            rotate_left
                            · simp only [Act.put, List.setIfInBounds_toArray, List.set_cons_zero, List.set_cons_succ, i64_w, i32_w]
                              rfl
                            refine take_ (i := 9) (N := some 44) (v := ?_) (a' := ?_) #[true, true, true, true, true, true, true, true, true, true, false, false] rfl rfl (take_ofW HT_.out HW_.out (by kernel_rfl)) (fun _ _ _ h => h) (Or.inl ⟨by rfl, ?_⟩) hHeld ?_ ?_
                            rotate_left
                            · rintro w' ⟨s0, s1, s2, s3⟩
                              go_simp
                              with_reducible rfl
                            rotate_left
                            · simp only [Act.put, List.setIfInBounds_toArray, List.set_cons_zero, List.set_cons_succ, i64_w, i32_w]
                              rfl
                            refine one_ (i := 10) (N := some 45) #[true, true, true, true, true, true, true, true, true, true, true, false] rfl rfl (one_of HT_.out (by kernel_rfl)) (by decide) (fun K hK => ?_)
                            refine goes_ Try.func39 (by kernel_rfl) rfl #[.agg #[.int .u64 ((rd_T51 x3_2 x7_3).f0), .int .i64 ((rd_T51 x3_2 x7_3).f1)], .agg #[.int .u64 t159, .int .i64 (rd l0_0 x4_1)]] (by rfl) rfl rfl (by (try simp only [List.map_toArray, List.map_cons, List.map_nil]); first | done | rfl | (simp only [List.length_drop, List.length_take]; rfl)) ?_
                            with_reducible refine (icehouseref09_less.calls ((rd_T51 x3_2 x7_3).f0) ((rd_T51 x3_2 x7_3).f1) t159 (rd l0_0 x4_1) true _ A18.out).mono ?_
                            rintro e w22 ⟨rfl, hb⟩
                            have HS2_ := (hb.cell (World.block_lt_of_cell? _ _ (hHeld.2.2.1))).trans (hHeld.2.2.1)
                            have HS3_ := (hb.cell (World.block_lt_of_cell? _ _ (hHeld.2.2.2))).trans (hHeld.2.2.2)
                            refine ⟨_, rfl, ?_⟩
                            have n0_ := Aside0.mk (Kd.R_below (by (with_reducible repeat (first | apply Kd.R_alloc | apply Kd.R_drewN | apply Kd.R_drew)); exact HO_3.out) hb)
                            have n1_ := Aside0.mk (blk_below (g := gb157) (o := .cells #[.slice (some ad158) l0_0.length c0_0, .int .i64 a0_1, .int .i64 a0_2] 24 (0, 0)) (by (with_reducible repeat (first | refine blk_drewN ?_ _ | refine blk_drew ?_ | refine blk_alloc ?_ _)); exact BK157.out) hb)
                            have n2_ := Aside0.mk (blk_below (g := gb161) (o := .cells #[.int .u64 t159, .int .i64 (rd l0_0 x4_1)] 51 (0, 0)) (by (with_reducible repeat (first | refine blk_drewN ?_ _ | refine blk_drew ?_ | refine blk_alloc ?_ _)); exact BK161.out) hb)
                            have n3_ := Aside0.mk (below_step (by repeat (first | (with_reducible first | exact HB.out | apply below_alloc | apply pw_below_drewN | apply below_drew1 | refine below_set ?_ GE157.out | refine below_set ?_ GE161.out) | exact HB.out)) hb)
                            clear HO_3
                            clear BK157
                            clear BK161
                            clear HB
                            have HO_3 := n0_
                            have BK157 := n1_
                            have BK161 := n2_
                            have HB := n3_
                            clear n0_ n1_ n2_ n3_
                            (try clear hb)
                            (try clear hb2)
                            (try clear hk)
                            (try clear hi)
                            refine hK.out _ _ ⟨(blk_cell BK161.out 0).trans rfl, (blk_cell BK161.out 1).trans rfl, HS2_, HS3_⟩ (fun hHeld => ?_)
                            clear hK K
                            refine norm_ (a' := ?_) ?_ ?_
                            rotate_left
                            · show Act.put _ (some 45) _ = _
                              simp only [Act.put, List.setIfInBounds_toArray, List.set_cons_zero, List.set_cons_succ, i64_w, i32_w]
                              rfl
                            refine pure_ (i := 11) (N := some 46) (v := ?_) (a' := ?_) #[true, true, true, true, true, true, true, true, true, true, true, true] rfl rfl (any_of HT_.out (by kernel_rfl)) (fun _ _ _ h => h) (Or.inl ⟨by rfl, ?_⟩) ?_ ?_
                            rotate_left
                            · intro w'
                              go_simp
                              with_reducible rfl
                            rotate_left
                            · simp only [Act.put, List.setIfInBounds_toArray, List.set_cons_zero, List.set_cons_succ, i64_w, i32_w]
                              rfl
                            refine done_ (done_of HT_.out (by kernel_rfl)) ?_
                            try go_wp2
                            go_roundg k3
                            case measure => have := HK1.out; have := HK2.out; have := HK3.out; omega
                            case rel => exact ⟨(wrap64 (x7_3 + 1)), (by first | rfl | (simp; done) | (simp [*]; done)), H', ⟨by have := HK1.out; have := HK2.out; have := HK3.out; omega⟩, ⟨by (with_reducible repeat (first | apply Kd.R_alloc | apply Kd.R_drewN | apply Kd.R_drew)); exact HO_3.out⟩, ⟨by (with_reducible repeat (first | refine blk_drewN ?_ _ | refine blk_drew ?_ | refine blk_alloc ?_ _)); exact BK157.out⟩, ⟨by (with_reducible repeat (first | refine blk_drewN ?_ _ | refine blk_drew ?_ | refine blk_alloc ?_ _)); exact BK161.out⟩, ⟨by repeat (first | (with_reducible first | exact HB.out | apply below_alloc | apply pw_below_drewN | apply below_drew1 | refine below_set ?_ GE157.out | refine below_set ?_ GE161.out) | exact HB.out)⟩⟩
                          · replace c19 := Bool.eq_false_iff.mpr c19
                            subst c19
                            have H1 : (if (((rd_T51 x3_2 x7_3).f0) == t159 && (((rd_T51 x3_2 x7_3).f1) == (rd l0_0 x4_1))) = true then (icehouseref09_Points.l1 k3 x3_2 x4_1 (wrap64 (x5_2 + 1)) l0_0 a0_1 a0_2) else (if x7_3 ≤ (x3_2.length : Int) then ((some (x3_2.take (x7_3 : Int).toNat : List (S51))).bind fun y165 => (if ([] : List (S51)).length + y165.length < 8796093022208 then ((some (([] : List (S51)) ++ y165 : List (S51))).bind fun y169 => (if y169.length < 8796093022208 then ((some (y169 ++ [(⟨t159, (rd l0_0 x4_1)⟩ : S51)] : List (S51))).bind fun y172 => ((some (x3_2.drop (x7_3 : Int).toNat : List (S51))).bind fun y175 => (if y172.length + y175.length < 8796093022208 then (icehouseref09_Points.l1 k3 (y172 ++ y175) x4_1 (wrap64 (x5_2 + 1)) l0_0 a0_1 a0_2) else (none)))) else (none))) else (none))) else (none))) = some r := by rw [if_neg (show ¬ (false = true) by decide)] at H; exact H
                            clear H
                            have H := H1
                            clear H1
                            by_cases c23 : (((rd_T51 x3_2 x7_3).f0) == t159 && (((rd_T51 x3_2 x7_3).f1) == (rd l0_0 x4_1))) = true
                            · rw [if_pos c23] at H
                              have c23b0 : (((rd_T51 x3_2 x7_3).f0) == t159 && (((rd_T51 x3_2 x7_3).f1) == (rd l0_0 x4_1))) = true := c23
                              (try (have c23b1 : decide (((rd_T51 x3_2 x7_3).f0) = t159 && (((rd_T51 x3_2 x7_3).f1) == (rd l0_0 x4_1))) = true := by simpa using c23))
                              (try (have c23b2 : (((rd_T51 x3_2 x7_3).f0) == t159 && (((rd_T51 x3_2 x7_3).f1) == (rd l0_0 x4_1))) = true := by simpa using c23))
                              clear c23
                              have H' := Aside0.mk H
                              clear H
                              try go_wp2
                              have n0_ := Aside0.mk (Kd.R_drew HO_3.out)
                              have n1_ := Aside0.mk (blk_drew BK157.out)
                              have n2_ := Aside0.mk (blk_drew BK161.out)
                              have n3_ := Aside0.mk (below_drew1 HB.out)
                              clear HO_3
                              clear BK157
                              clear BK161
                              clear HB
                              have HO_3 := n0_
                              have BK157 := n1_
                              have BK161 := n2_
                              have HB := n3_
                              clear n0_ n1_ n2_ n3_
                              obtain ⟨Ao25, co25, eo25⟩ := Kd.R_slice HO_3.out
                              (first | subst eo25 | (injection eo25 with f1_ f2_ f3_; have f4_ := f1_.symm; have f5_ := f3_.symm; clear f1_ f2_ f3_; subst f4_; subst f5_))
                              have p162 : 0 ≤ (x7_3 : Int) := of_decide_eq_true (by first | (with_reducible assumption) | assumption)
                              have q162 : x7_3 < (x3_2.length : Int) := of_decide_eq_true (by first | (with_reducible assumption) | assumption)
                              obtain ⟨ad162, e162, hx162_0, hx162_1⟩ := at_T51 (Kd.R_reads' HO_3.out).2.2 x7_3 p162 q162
                              cases e162
                              replace p162 := eq_true p162
                              replace q162 := eq_true q162
                              refine start_ (n := 12) (S := fun w' => w'.cell? ⟨gb161, 0, none⟩ = some (.int .u64 t159) ∧ w'.cell? ⟨gb161, 1, none⟩ = some (.int .i64 (rd l0_0 x4_1)) ∧ w'.cell? (ad162.add ((x7_3).toNat * 2)) = some (.int .u64 ((rd_T51 x3_2 x7_3).f0)) ∧ w'.cell? ⟨(ad162.add ((x7_3).toNat * 2)).block, (ad162.add ((x7_3).toNat * 2)).off + 1, none⟩ = some (.int .i64 ((rd_T51 x3_2 x7_3).f1))) (ds := []) #[false, false, false, false, false, false, false, false, false, false, false, false] (by kernel_rfl) rfl rfl ⟨(blk_cell BK161.out 0).trans rfl, (blk_cell BK161.out 1).trans rfl, hx162_0, hx162_1⟩ (fun hHeld => ?_); refine with_tabW icehouseref09_Points.tab10 icehouseref09_Points.bits10 (fun HT_ HW_ => ?_)
                              generalize wr.drew = w24 at HO_3 BK157 BK161 HB hx162_0 hx162_1 hHeld ⊢
                              refine pure_ (i := 0) (N := some 35) (v := ?_) (a' := ?_) #[true, false, false, false, false, false, false, false, false, false, false, false] rfl rfl (any_of HT_.out (by kernel_rfl)) (fun _ _ _ h => h) (Or.inl ⟨by rfl, ?_⟩) ?_ ?_
                              rotate_left
                              · intro w'
                                go_simp
                                with_reducible rfl
                              rotate_left
                              · simp only [Act.put, List.setIfInBounds_toArray, List.set_cons_zero, List.set_cons_succ, i64_w, i32_w]
                                rfl
                              refine pure_ (i := 1) (N := some 36) (v := ?_) (a' := ?_) #[true, true, false, false, false, false, false, false, false, false, false, false] rfl rfl (any_of HT_.out (by kernel_rfl)) (fun _ _ _ h => h) (Or.inl ⟨by rfl, ?_⟩) ?_ ?_
                              rotate_left
                              · intro w'
                                go_simp
                                with_reducible rfl
                              rotate_left
                              · simp only [Act.put, List.setIfInBounds_toArray, List.set_cons_zero, List.set_cons_succ, i64_w, i32_w]
                                rfl
                              refine pure_ (i := 2) (N := some 37) (v := ?_) (a' := ?_) #[true, true, true, false, false, false, false, false, false, false, false, false] rfl rfl (any_of HT_.out (by kernel_rfl)) (fun _ _ _ h => h) (Or.inl ⟨by rfl, ?_⟩) ?_ ?_
                              rotate_left
                              · intro w'
                                go_simp
                                with_reducible rfl
                              rotate_left
                              · simp only [Act.put, List.setIfInBounds_toArray, List.set_cons_zero, List.set_cons_succ, i64_w, i32_w]
                                rfl
                              refine pure_ (i := 3) (N := some 38) (v := ?_) (a' := ?_) #[true, true, true, true, false, false, false, false, false, false, false, false] rfl rfl (any_of HT_.out (by kernel_rfl)) (fun _ _ _ h => h) (Or.inl ⟨by rfl, ?_⟩) ?_ ?_
                              rotate_left
                              · intro w'
                                go_simp
                                with_reducible rfl
                              rotate_left
                              · simp only [Act.put, List.setIfInBounds_toArray, List.set_cons_zero, List.set_cons_succ, i64_w, i32_w]
                                rfl
                              refine pure_ (i := 4) (N := some 39) (v := ?_) (a' := ?_) #[true, true, true, true, true, false, false, false, false, false, false, false] rfl rfl (any_of HT_.out (by kernel_rfl)) (fun _ _ _ h => h) (Or.inl ⟨by rfl, ?_⟩) ?_ ?_
                              rotate_left
                              · intro w'
                                go_simp
                                with_reducible rfl
                              rotate_left
                              · simp only [Act.put, List.setIfInBounds_toArray, List.set_cons_zero, List.set_cons_succ, i64_w, i32_w]
                                rfl
                              refine pure_ (i := 5) (N := some 40) (v := ?_) (a' := ?_) #[true, true, true, true, true, true, false, false, false, false, false, false] rfl rfl (any_of HT_.out (by kernel_rfl)) (fun _ _ _ h => h) (Or.inl ⟨by rfl, ?_⟩) ?_ ?_
                              rotate_left
                              · intro w'
                                go_simp
                                with_reducible rfl
                              rotate_left
                              · simp only [Act.put, List.setIfInBounds_toArray, List.set_cons_zero, List.set_cons_succ, i64_w, i32_w]
                                rfl
                              refine pure_ (i := 6) (N := some 41) (v := ?_) (a' := ?_) #[true, true, true, true, true, true, true, false, false, false, false, false] rfl rfl (any_of HT_.out (by kernel_rfl)) (fun _ _ _ h => h) (Or.inl ⟨by rfl, ?_⟩) ?_ ?_
                              rotate_left
                              · intro w'
                                go_simp
                                with_reducible rfl
                              rotate_left
                              · simp only [Act.put, List.setIfInBounds_toArray, List.set_cons_zero, List.set_cons_succ, i64_w, i32_w]
                                rfl
                              refine pure_ (i := 7) (N := some 42) (v := ?_) (a' := ?_) #[true, true, true, true, true, true, true, true, false, false, false, false] rfl rfl (any_of HT_.out (by kernel_rfl)) (fun _ _ _ h => h) (Or.inl ⟨by rfl, ?_⟩) ?_ ?_
                              rotate_left
                              · intro w'
                                go_simp
                                with_reducible rfl
                              rotate_left
                              · simp only [Act.put, List.setIfInBounds_toArray, List.set_cons_zero, List.set_cons_succ, i64_w, i32_w]
                                rfl
                              refine take_ (i := 8) (N := some 43) (v := ?_) (a' := ?_) #[true, true, true, true, true, true, true, true, true, false, false, false] rfl rfl (take_ofW HT_.out HW_.out (by kernel_rfl)) (fun _ _ _ h => h) (Or.inl ⟨by rfl, ?_⟩) hHeld ?_ ?_
                              rotate_left
                              · rintro w' ⟨s0, s1, s2, s3⟩
                                go_simp
                                with_reducible rfl
                              rotate_left
                              · simp only [Act.put, List.setIfInBounds_toArray, List.set_cons_zero, List.set_cons_succ, i64_w, i32_w]
                                rfl
                              refine take_ (i := 9) (N := some 44) (v := ?_) (a' := ?_) #[true, true, true, true, true, true, true, true, true, true, false, false] rfl rfl (take_ofW HT_.out HW_.out (by kernel_rfl)) (fun _ _ _ h => h) (Or.inl ⟨by rfl, ?_⟩) hHeld ?_ ?_
                              rotate_left
                              · rintro w' ⟨s0, s1, s2, s3⟩
                                go_simp
                                with_reducible rfl
                              rotate_left
                              · simp only [Act.put, List.setIfInBounds_toArray, List.set_cons_zero, List.set_cons_succ, i64_w, i32_w]
                                rfl
                              refine one_ (i := 10) (N := some 45) #[true, true, true, true, true, true, true, true, true, true, true, false] rfl rfl (one_of HT_.out (by kernel_rfl)) (by decide) (fun K hK => ?_)
                              refine goes_ Try.func39 (by kernel_rfl) rfl #[.agg #[.int .u64 ((rd_T51 x3_2 x7_3).f0), .int .i64 ((rd_T51 x3_2 x7_3).f1)], .agg #[.int .u64 t159, .int .i64 (rd l0_0 x4_1)]] (by rfl) rfl rfl (by (try simp only [List.map_toArray, List.map_cons, List.map_nil]); first | done | rfl | (simp only [List.length_drop, List.length_take]; rfl)) ?_
                              with_reducible refine (icehouseref09_less.calls ((rd_T51 x3_2 x7_3).f0) ((rd_T51 x3_2 x7_3).f1) t159 (rd l0_0 x4_1) false _ A18.out).mono ?_
                              rintro e w26 ⟨rfl, hb⟩
                              have HS2_ := (hb.cell (World.block_lt_of_cell? _ _ (hHeld.2.2.1))).trans (hHeld.2.2.1)
                              have HS3_ := (hb.cell (World.block_lt_of_cell? _ _ (hHeld.2.2.2))).trans (hHeld.2.2.2)
                              refine ⟨_, rfl, ?_⟩
                              have n0_ := Aside0.mk (Kd.R_below (by (with_reducible repeat (first | apply Kd.R_alloc | apply Kd.R_drewN | apply Kd.R_drew)); exact HO_3.out) hb)
                              have n1_ := Aside0.mk (blk_below (g := gb157) (o := .cells #[.slice (some ad158) l0_0.length c0_0, .int .i64 a0_1, .int .i64 a0_2] 24 (0, 0)) (by (with_reducible repeat (first | refine blk_drewN ?_ _ | refine blk_drew ?_ | refine blk_alloc ?_ _)); exact BK157.out) hb)
                              have n2_ := Aside0.mk (blk_below (g := gb161) (o := .cells #[.int .u64 t159, .int .i64 (rd l0_0 x4_1)] 51 (0, 0)) (by (with_reducible repeat (first | refine blk_drewN ?_ _ | refine blk_drew ?_ | refine blk_alloc ?_ _)); exact BK161.out) hb)
                              have n3_ := Aside0.mk (below_step (by repeat (first | (with_reducible first | exact HB.out | apply below_alloc | apply pw_below_drewN | apply below_drew1 | refine below_set ?_ GE157.out | refine below_set ?_ GE161.out) | exact HB.out)) hb)
                              clear HO_3
                              clear BK157
                              clear BK161
                              clear HB
                              have HO_3 := n0_
                              have BK157 := n1_
                              have BK161 := n2_
                              have HB := n3_
                              clear n0_ n1_ n2_ n3_
                              (try clear hb)
                              (try clear hb2)
                              (try clear hk)
                              (try clear hi)
                              refine hK.out _ _ ⟨(blk_cell BK161.out 0).trans rfl, (blk_cell BK161.out 1).trans rfl, HS2_, HS3_⟩ (fun hHeld => ?_)
                              clear hK K
                              refine norm_ (a' := ?_) ?_ ?_
                              rotate_left
                              · show Act.put _ (some 45) _ = _
                                simp only [Act.put, List.setIfInBounds_toArray, List.set_cons_zero, List.set_cons_succ, i64_w, i32_w]
                                rfl
                              refine pure_ (i := 11) (N := some 46) (v := ?_) (a' := ?_) #[true, true, true, true, true, true, true, true, true, true, true, true] rfl rfl (any_of HT_.out (by kernel_rfl)) (fun _ _ _ h => h) (Or.inl ⟨by rfl, ?_⟩) ?_ ?_
                              rotate_left
                              · intro w'
                                go_simp
                                with_reducible rfl
                              rotate_left
                              · simp only [Act.put, List.setIfInBounds_toArray, List.set_cons_zero, List.set_cons_succ, i64_w, i32_w]
                                rfl
                              refine done_ (done_of HT_.out (by kernel_rfl)) ?_
                              try go_wp2
                              have n0_ := Aside0.mk (Kd.R_drew HO_3.out)
                              have n1_ := Aside0.mk (blk_drew BK157.out)
                              have n2_ := Aside0.mk (blk_drew BK161.out)
                              have n3_ := Aside0.mk (below_drew1 HB.out)
                              clear HO_3
                              clear BK157
                              clear BK161
                              clear HB
                              have HO_3 := n0_
                              have BK157 := n1_
                              have BK161 := n2_
                              have HB := n3_
                              clear n0_ n1_ n2_ n3_
                              have p164 : 0 ≤ (x7_3 : Int) := of_decide_eq_true (by first | (with_reducible assumption) | assumption)
                              have q164 : x7_3 < (x3_2.length : Int) := of_decide_eq_true (by first | (with_reducible assumption) | assumption)
                              obtain ⟨ad164, e164, hx164_0, hx164_1⟩ := at_T51 (Kd.R_reads' HO_3.out).2.2 x7_3 p164 q164
                              obtain rfl : ad162 = ad164 := (by injection e164)
                              replace p164 := eq_true p164
                              replace q164 := eq_true q164
                              refine start_ (n := 12) (S := fun w' => w'.cell? ⟨gb161, 0, none⟩ = some (.int .u64 t159) ∧ w'.cell? ⟨gb161, 1, none⟩ = some (.int .i64 (rd l0_0 x4_1)) ∧ w'.cell? (ad162.add ((x7_3).toNat * 2)) = some (.int .u64 ((rd_T51 x3_2 x7_3).f0)) ∧ w'.cell? ⟨(ad162.add ((x7_3).toNat * 2)).block, (ad162.add ((x7_3).toNat * 2)).off + 1, none⟩ = some (.int .i64 ((rd_T51 x3_2 x7_3).f1))) (ds := []) #[false, false, false, false, false, false, false, false, false, false, false, false] (by kernel_rfl) rfl rfl ⟨(blk_cell BK161.out 0).trans rfl, (blk_cell BK161.out 1).trans rfl, hx164_0, hx164_1⟩ (fun hHeld => ?_); refine with_tabW icehouseref09_Points.tab12 icehouseref09_Points.bits12 (fun HT_ HW_ => ?_)
                              generalize w26.drew = w27 at HO_3 BK157 BK161 HB hx164_0 hx164_1 hHeld ⊢
                              refine pure_ (i := 0) (N := some 49) (v := ?_) (a' := ?_) #[true, false, false, false, false, false, false, false, false, false, false, false] rfl rfl (any_of HT_.out (by kernel_rfl)) (fun _ _ _ h => h) (Or.inl ⟨by rfl, ?_⟩) ?_ ?_
                              rotate_left
                              · intro w'
                                go_simp
                                with_reducible rfl
                              rotate_left
                              · simp only [Act.put, List.setIfInBounds_toArray, List.set_cons_zero, List.set_cons_succ, i64_w, i32_w]
                                rfl
                              refine pure_ (i := 1) (N := some 50) (v := ?_) (a' := ?_) #[true, true, false, false, false, false, false, false, false, false, false, false] rfl rfl (any_of HT_.out (by kernel_rfl)) (fun _ _ _ h => h) (Or.inl ⟨by rfl, ?_⟩) ?_ ?_
                              rotate_left
                              · intro w'
                                go_simp
                                with_reducible rfl
                              rotate_left
                              · simp only [Act.put, List.setIfInBounds_toArray, List.set_cons_zero, List.set_cons_succ, i64_w, i32_w]
                                rfl
                              refine pure_ (i := 2) (N := some 51) (v := ?_) (a' := ?_) #[true, true, true, false, false, false, false, false, false, false, false, false] rfl rfl (any_of HT_.out (by kernel_rfl)) (fun _ _ _ h => h) (Or.inl ⟨by rfl, ?_⟩) ?_ ?_
                              rotate_left
                              · intro w'
                                go_simp
                                with_reducible rfl
                              rotate_left
                              · simp only [Act.put, List.setIfInBounds_toArray, List.set_cons_zero, List.set_cons_succ, i64_w, i32_w]
                                rfl
                              refine pure_ (i := 3) (N := some 52) (v := ?_) (a' := ?_) #[true, true, true, true, false, false, false, false, false, false, false, false] rfl rfl (any_of HT_.out (by kernel_rfl)) (fun _ _ _ h => h) (Or.inl ⟨by rfl, ?_⟩) ?_ ?_
                              rotate_left
                              · intro w'
                                go_simp
                                with_reducible rfl
                              rotate_left
                              · simp only [Act.put, List.setIfInBounds_toArray, List.set_cons_zero, List.set_cons_succ, i64_w, i32_w]
                                rfl
                              refine pure_ (i := 4) (N := some 53) (v := ?_) (a' := ?_) #[true, true, true, true, true, false, false, false, false, false, false, false] rfl rfl (any_of HT_.out (by kernel_rfl)) (fun _ _ _ h => h) (Or.inl ⟨by rfl, ?_⟩) ?_ ?_
                              rotate_left
                              · intro w'
                                go_simp
                                with_reducible rfl
                              rotate_left
                              · simp only [Act.put, List.setIfInBounds_toArray, List.set_cons_zero, List.set_cons_succ, i64_w, i32_w]
                                rfl
                              refine pure_ (i := 5) (N := some 54) (v := ?_) (a' := ?_) #[true, true, true, true, true, true, false, false, false, false, false, false] rfl rfl (any_of HT_.out (by kernel_rfl)) (fun _ _ _ h => h) (Or.inl ⟨by rfl, ?_⟩) ?_ ?_
                              rotate_left
                              · intro w'
                                go_simp
                                with_reducible rfl
                              rotate_left
                              · simp only [Act.put, List.setIfInBounds_toArray, List.set_cons_zero, List.set_cons_succ, i64_w, i32_w]
                                rfl
                              refine pure_ (i := 6) (N := some 55) (v := ?_) (a' := ?_) #[true, true, true, true, true, true, true, false, false, false, false, false] rfl rfl (any_of HT_.out (by kernel_rfl)) (fun _ _ _ h => h) (Or.inl ⟨by rfl, ?_⟩) ?_ ?_
                              rotate_left
                              · intro w'
                                go_simp
                                with_reducible rfl
                              rotate_left
                              · simp only [Act.put, List.setIfInBounds_toArray, List.set_cons_zero, List.set_cons_succ, i64_w, i32_w]
                                rfl
                              refine pure_ (i := 7) (N := some 56) (v := ?_) (a' := ?_) #[true, true, true, true, true, true, true, true, false, false, false, false] rfl rfl (any_of HT_.out (by kernel_rfl)) (fun _ _ _ h => h) (Or.inl ⟨by rfl, ?_⟩) ?_ ?_
                              rotate_left
                              · intro w'
                                go_simp
                                with_reducible rfl
                              rotate_left
                              · simp only [Act.put, List.setIfInBounds_toArray, List.set_cons_zero, List.set_cons_succ, i64_w, i32_w]
                                rfl
                              refine take_ (i := 8) (N := some 57) (v := ?_) (a' := ?_) #[true, true, true, true, true, true, true, true, true, false, false, false] rfl rfl (take_ofW HT_.out HW_.out (by kernel_rfl)) (fun _ _ _ h => h) (Or.inl ⟨by rfl, ?_⟩) hHeld ?_ ?_
                              rotate_left
                              · rintro w' ⟨s0, s1, s2, s3⟩
                                go_simp
                                with_reducible rfl
                              rotate_left
                              · simp only [Act.put, List.setIfInBounds_toArray, List.set_cons_zero, List.set_cons_succ, i64_w, i32_w]
                                rfl
                              refine take_ (i := 9) (N := some 58) (v := ?_) (a' := ?_) #[true, true, true, true, true, true, true, true, true, true, false, false] rfl rfl (take_ofW HT_.out HW_.out (by kernel_rfl)) (fun _ _ _ h => h) (Or.inl ⟨by rfl, ?_⟩) hHeld ?_ ?_
                              rotate_left
                              · rintro w' ⟨s0, s1, s2, s3⟩
                                go_simp
                                with_reducible rfl
                              rotate_left
                              · simp only [Act.put, List.setIfInBounds_toArray, List.set_cons_zero, List.set_cons_succ, i64_w, i32_w]
                                rfl
                              refine pure_ (i := 10) (N := some 59) (v := ?_) (a' := ?_) #[true, true, true, true, true, true, true, true, true, true, true, false] rfl rfl (any_of HT_.out (by kernel_rfl)) (fun _ _ _ h => h) (Or.inl ⟨by rfl, ?_⟩) ?_ ?_
                              rotate_left
                              · intro w'
                                go_simp
                                with_reducible rfl
                              rotate_left
                              · simp only [Act.put, List.setIfInBounds_toArray, List.set_cons_zero, List.set_cons_succ, i64_w, i32_w]
                                rfl
                              refine pure_ (i := 11) (N := some 60) (v := ?_) (a' := ?_) #[true, true, true, true, true, true, true, true, true, true, true, true] rfl rfl (any_of HT_.out (by kernel_rfl)) (fun _ _ _ h => h) (Or.inl ⟨by rfl, ?_⟩) ?_ ?_
                              rotate_left
                              · intro w'
                                go_simp
                                with_reducible rfl
                              rotate_left
                              · simp only [Act.put, List.setIfInBounds_toArray, List.set_cons_zero, List.set_cons_succ, i64_w, i32_w]
                                rfl
                              refine done_ (done_of HT_.out (by kernel_rfl)) ?_
                              try go_wp2
                              go_roundg k3
                              case measure => have := HK1.out; have := HK2.out; have := HK3.out; omega
                              case rel => exact ⟨(x3_2), (wrap64 (x5_2 + 1)), (by first | rfl | (simp; done) | (simp [*]; done)), H', ⟨by have := HK1.out; have := HK2.out; have := HK3.out; omega⟩, ⟨by (with_reducible repeat (first | apply Kd.R_alloc | apply Kd.R_drewN | apply Kd.R_drew)); exact Kd.R_mono HO_3.out (fun _ hk => trivial)⟩, ⟨by (with_reducible repeat (first | refine blk_drewN ?_ _ | refine blk_drew ?_ | refine blk_alloc ?_ _)); exact BK157.out⟩, ⟨by repeat (first | (with_reducible first | exact HB.out | apply below_alloc | apply pw_below_drewN | apply below_drew1 | refine below_set ?_ GE157.out | refine below_set ?_ GE161.out) | exact HB.out)⟩⟩
                            · rw [if_neg c23] at H
                              have c23b0 : (((rd_T51 x3_2 x7_3).f0) == t159 && (((rd_T51 x3_2 x7_3).f1) == (rd l0_0 x4_1))) = false := by simpa using c23
                              (try (have c23b1 : decide (((rd_T51 x3_2 x7_3).f0) = t159 && (((rd_T51 x3_2 x7_3).f1) == (rd l0_0 x4_1))) = false := by simpa using c23))
                              (try (have c23b2 : (((rd_T51 x3_2 x7_3).f0) == t159 && (((rd_T51 x3_2 x7_3).f1) == (rd l0_0 x4_1))) = false := by simpa using c23))
                              (try (have c23b3 : ¬ (((rd_T51 x3_2 x7_3).f0) = t159 && (((rd_T51 x3_2 x7_3).f1) == (rd l0_0 x4_1))) := by simpa using c23))
                              clear c23
                              have c28b0 := eq_true (of_decide_eq_true (by first | (with_reducible assumption) | assumption) : 0 ≤ x7_3)
                              by_cases c29 : x7_3 ≤ (x3_2.length : Int)
                              · rw [if_pos c29] at H
                                have c29b0 := eq_true c29
                                have c29b1 : decide (x7_3 ≤ (x3_2.length : Int)) = true := decide_eq_true c29
                                clear c29
                                obtain ⟨y165, hy165⟩ : ∃ y_ : List (S51), y_ = (x3_2.take (x7_3 : Int).toNat) := ⟨_, rfl⟩
                                replace H : (if ([] : List (S51)).length + y165.length < 8796093022208 then ((some (([] : List (S51)) ++ y165 : List (S51))).bind fun y169 => (if y169.length < 8796093022208 then ((some (y169 ++ [(⟨t159, (rd l0_0 x4_1)⟩ : S51)] : List (S51))).bind fun y172 => ((some (x3_2.drop (x7_3 : Int).toNat : List (S51))).bind fun y175 => (if y172.length + y175.length < 8796093022208 then (icehouseref09_Points.l1 k3 (y172 ++ y175) x4_1 (wrap64 (x5_2 + 1)) l0_0 a0_1 a0_2) else (none)))) else (none))) else (none)) = some r := by first | (rw [hy165]; with_reducible exact H) | (have H2_ := (Option.bind_some _ _).symm.trans H; rw [hy165]; with_reducible exact H2_) | (have H2_ := (Option.bind_some _ _).symm.trans H; with_reducible exact H2_) | with_reducible exact H | (rw [hy165]; exact H) | exact H
                                have Ny165 := Aside0.mk hy165
                                clear hy165
                                by_cases c30 : ([] : List (S51)).length + y165.length < 8796093022208
                                · rw [if_pos c30] at H
                                  have LMc30 := Aside0.mk c30
                                  clear c30
                                  obtain ⟨y169, hy169⟩ : ∃ y_ : List (S51), y_ = (([] : List (S51)) ++ y165) := ⟨_, rfl⟩
                                  replace H : (if y169.length < 8796093022208 then ((some (y169 ++ [(⟨t159, (rd l0_0 x4_1)⟩ : S51)] : List (S51))).bind fun y172 => ((some (x3_2.drop (x7_3 : Int).toNat : List (S51))).bind fun y175 => (if y172.length + y175.length < 8796093022208 then (icehouseref09_Points.l1 k3 (y172 ++ y175) x4_1 (wrap64 (x5_2 + 1)) l0_0 a0_1 a0_2) else (none)))) else (none)) = some r := by first | (rw [hy169]; with_reducible exact H) | (have H2_ := (Option.bind_some _ _).symm.trans H; rw [hy169]; with_reducible exact H2_) | (have H2_ := (Option.bind_some _ _).symm.trans H; with_reducible exact H2_) | with_reducible exact H | (rw [hy169]; exact H) | exact H
                                  have Ny169 := Aside0.mk hy169
                                  clear hy169
                                  by_cases c31 : y169.length < 8796093022208
                                  · rw [if_pos c31] at H
                                    have LMc31 := Aside0.mk c31
                                    clear c31
                                    obtain ⟨y172, hy172⟩ : ∃ y_ : List (S51), y_ = (y169 ++ [(⟨t159, (rd l0_0 x4_1)⟩ : S51)]) := ⟨_, rfl⟩
                                    replace H : ((some (x3_2.drop (x7_3 : Int).toNat : List (S51))).bind fun y175 => (if y172.length + y175.length < 8796093022208 then (icehouseref09_Points.l1 k3 (y172 ++ y175) x4_1 (wrap64 (x5_2 + 1)) l0_0 a0_1 a0_2) else (none))) = some r := by first | (rw [hy172]; with_reducible exact H) | (have H2_ := (Option.bind_some _ _).symm.trans H; rw [hy172]; with_reducible exact H2_) | (have H2_ := (Option.bind_some _ _).symm.trans H; with_reducible exact H2_) | with_reducible exact H | (rw [hy172]; exact H) | exact H
                                    have Ny172 := Aside0.mk hy172
                                    clear hy172
                                    have c32b0 := eq_true (of_decide_eq_true (by first | (with_reducible assumption) | assumption) : 0 ≤ x7_3)
                                    have c33b0 := eq_true (of_decide_eq_true (by first | (with_reducible assumption) | assumption) : x7_3 ≤ (x3_2.length : Int))
                                    obtain ⟨y175, hy175⟩ : ∃ y_ : List (S51), y_ = (x3_2.drop (x7_3 : Int).toNat) := ⟨_, rfl⟩
                                    replace H : (if y172.length + y175.length < 8796093022208 then (icehouseref09_Points.l1 k3 (y172 ++ y175) x4_1 (wrap64 (x5_2 + 1)) l0_0 a0_1 a0_2) else (none)) = some r := by first | (rw [hy175]; with_reducible exact H) | (have H2_ := (Option.bind_some _ _).symm.trans H; rw [hy175]; with_reducible exact H2_) | (have H2_ := (Option.bind_some _ _).symm.trans H; with_reducible exact H2_) | with_reducible exact H | (rw [hy175]; exact H) | exact H
                                    have Ny175 := Aside0.mk hy175
                                    clear hy175
                                    by_cases c34 : y172.length + y175.length < 8796093022208
                                    · rw [if_pos c34] at H
                                      have LMc34 := Aside0.mk c34
                                      clear c34
                                      obtain ⟨y179, hy179⟩ : ∃ y_ : List (S51), y_ = (y172 ++ y175) := ⟨_, rfl⟩
                                      replace H : (icehouseref09_Points.l1 k3 y179 x4_1 (wrap64 (x5_2 + 1)) l0_0 a0_1 a0_2) = some r := by first | (rw [hy179]; with_reducible exact H) | (have H2_ := (Option.bind_some _ _).symm.trans H; rw [hy179]; with_reducible exact H2_) | (have H2_ := (Option.bind_some _ _).symm.trans H; with_reducible exact H2_) | with_reducible exact H | (rw [hy179]; exact H) | exact H
                                      have Ny179 := Aside0.mk hy179
                                      clear hy179
                                      have H' := Aside0.mk H
                                      clear H
                                      try go_wp2
                                      have n0_ := Aside0.mk (Kd.R_drew HO_3.out)
                                      have n1_ := Aside0.mk (blk_drew BK157.out)
                                      have n2_ := Aside0.mk (blk_drew BK161.out)
                                      have n3_ := Aside0.mk (below_drew1 HB.out)
                                      clear HO_3
                                      clear BK157
                                      clear BK161
                                      clear HB
                                      have HO_3 := n0_
                                      have BK157 := n1_
                                      have BK161 := n2_
                                      have HB := n3_
                                      clear n0_ n1_ n2_ n3_
                                      obtain ⟨Ao36, co36, eo36⟩ := Kd.R_slice HO_3.out
                                      (first | subst eo36 | (injection eo36 with f1_ f2_ f3_; have f4_ := f1_.symm; have f5_ := f3_.symm; clear f1_ f2_ f3_; subst f4_; subst f5_))
                                      have p162 : 0 ≤ (x7_3 : Int) := of_decide_eq_true (by first | (with_reducible assumption) | assumption)
                                      have q162 : x7_3 < (x3_2.length : Int) := of_decide_eq_true (by first | (with_reducible assumption) | assumption)
                                      obtain ⟨ad162, e162, hx162_0, hx162_1⟩ := at_T51 (Kd.R_reads' HO_3.out).2.2 x7_3 p162 q162
                                      cases e162
                                      replace p162 := eq_true p162
                                      replace q162 := eq_true q162
                                      refine start_ (n := 12) (S := fun w' => w'.cell? ⟨gb161, 0, none⟩ = some (.int .u64 t159) ∧ w'.cell? ⟨gb161, 1, none⟩ = some (.int .i64 (rd l0_0 x4_1)) ∧ w'.cell? (ad162.add ((x7_3).toNat * 2)) = some (.int .u64 ((rd_T51 x3_2 x7_3).f0)) ∧ w'.cell? ⟨(ad162.add ((x7_3).toNat * 2)).block, (ad162.add ((x7_3).toNat * 2)).off + 1, none⟩ = some (.int .i64 ((rd_T51 x3_2 x7_3).f1))) (ds := []) #[false, false, false, false, false, false, false, false, false, false, false, false] (by kernel_rfl) rfl rfl ⟨(blk_cell BK161.out 0).trans rfl, (blk_cell BK161.out 1).trans rfl, hx162_0, hx162_1⟩ (fun hHeld => ?_); refine with_tabW icehouseref09_Points.tab10 icehouseref09_Points.bits10 (fun HT_ HW_ => ?_)
                                      generalize wr.drew = w35 at HO_3 BK157 BK161 HB hx162_0 hx162_1 hHeld ⊢
                                      refine pure_ (i := 0) (N := some 35) (v := ?_) (a' := ?_) #[true, false, false, false, false, false, false, false, false, false, false, false] rfl rfl (any_of HT_.out (by kernel_rfl)) (fun _ _ _ h => h) (Or.inl ⟨by rfl, ?_⟩) ?_ ?_
                                      rotate_left
                                      · intro w'
                                        go_simp
                                        with_reducible rfl
                                      rotate_left
                                      · simp only [Act.put, List.setIfInBounds_toArray, List.set_cons_zero, List.set_cons_succ, i64_w, i32_w]
                                        rfl
                                      refine pure_ (i := 1) (N := some 36) (v := ?_) (a' := ?_) #[true, true, false, false, false, false, false, false, false, false, false, false] rfl rfl (any_of HT_.out (by kernel_rfl)) (fun _ _ _ h => h) (Or.inl ⟨by rfl, ?_⟩) ?_ ?_
                                      rotate_left
                                      · intro w'
                                        go_simp
                                        with_reducible rfl
                                      rotate_left
                                      · simp only [Act.put, List.setIfInBounds_toArray, List.set_cons_zero, List.set_cons_succ, i64_w, i32_w]
                                        rfl
                                      refine pure_ (i := 2) (N := some 37) (v := ?_) (a' := ?_) #[true, true, true, false, false, false, false, false, false, false, false, false] rfl rfl (any_of HT_.out (by kernel_rfl)) (fun _ _ _ h => h) (Or.inl ⟨by rfl, ?_⟩) ?_ ?_
                                      rotate_left
                                      · intro w'
                                        go_simp
                                        with_reducible rfl
                                      rotate_left
                                      · simp only [Act.put, List.setIfInBounds_toArray, List.set_cons_zero, List.set_cons_succ, i64_w, i32_w]
                                        rfl
                                      refine pure_ (i := 3) (N := some 38) (v := ?_) (a' := ?_) #[true, true, true, true, false, false, false, false, false, false, false, false] rfl rfl (any_of HT_.out (by kernel_rfl)) (fun _ _ _ h => h) (Or.inl ⟨by rfl, ?_⟩) ?_ ?_
                                      rotate_left
                                      · intro w'
                                        go_simp
                                        with_reducible rfl
                                      rotate_left
                                      · simp only [Act.put, List.setIfInBounds_toArray, List.set_cons_zero, List.set_cons_succ, i64_w, i32_w]
                                        rfl
                                      refine pure_ (i := 4) (N := some 39) (v := ?_) (a' := ?_) #[true, true, true, true, true, false, false, false, false, false, false, false] rfl rfl (any_of HT_.out (by kernel_rfl)) (fun _ _ _ h => h) (Or.inl ⟨by rfl, ?_⟩) ?_ ?_
                                      rotate_left
                                      · intro w'
                                        go_simp
                                        with_reducible rfl
                                      rotate_left
                                      · simp only [Act.put, List.setIfInBounds_toArray, List.set_cons_zero, List.set_cons_succ, i64_w, i32_w]
                                        rfl
                                      refine pure_ (i := 5) (N := some 40) (v := ?_) (a' := ?_) #[true, true, true, true, true, true, false, false, false, false, false, false] rfl rfl (any_of HT_.out (by kernel_rfl)) (fun _ _ _ h => h) (Or.inl ⟨by rfl, ?_⟩) ?_ ?_
                                      rotate_left
                                      · intro w'
                                        go_simp
                                        with_reducible rfl
                                      rotate_left
                                      · simp only [Act.put, List.setIfInBounds_toArray, List.set_cons_zero, List.set_cons_succ, i64_w, i32_w]
                                        rfl
                                      refine pure_ (i := 6) (N := some 41) (v := ?_) (a' := ?_) #[true, true, true, true, true, true, true, false, false, false, false, false] rfl rfl (any_of HT_.out (by kernel_rfl)) (fun _ _ _ h => h) (Or.inl ⟨by rfl, ?_⟩) ?_ ?_
                                      rotate_left
                                      · intro w'
                                        go_simp
                                        with_reducible rfl
                                      rotate_left
                                      · simp only [Act.put, List.setIfInBounds_toArray, List.set_cons_zero, List.set_cons_succ, i64_w, i32_w]
                                        rfl
                                      refine pure_ (i := 7) (N := some 42) (v := ?_) (a' := ?_) #[true, true, true, true, true, true, true, true, false, false, false, false] rfl rfl (any_of HT_.out (by kernel_rfl)) (fun _ _ _ h => h) (Or.inl ⟨by rfl, ?_⟩) ?_ ?_
                                      rotate_left
                                      · intro w'
                                        go_simp
                                        with_reducible rfl
                                      rotate_left
                                      · simp only [Act.put, List.setIfInBounds_toArray, List.set_cons_zero, List.set_cons_succ, i64_w, i32_w]
                                        rfl
                                      refine take_ (i := 8) (N := some 43) (v := ?_) (a' := ?_) #[true, true, true, true, true, true, true, true, true, false, false, false] rfl rfl (take_ofW HT_.out HW_.out (by kernel_rfl)) (fun _ _ _ h => h) (Or.inl ⟨by rfl, ?_⟩) hHeld ?_ ?_
                                      rotate_left
                                      · rintro w' ⟨s0, s1, s2, s3⟩
                                        go_simp
                                        with_reducible rfl
                                      rotate_left
                                      · simp only [Act.put, List.setIfInBounds_toArray, List.set_cons_zero, List.set_cons_succ, i64_w, i32_w]
                                        rfl
                                      refine take_ (i := 9) (N := some 44) (v := ?_) (a' := ?_) #[true, true, true, true, true, true, true, true, true, true, false, false] rfl rfl (take_ofW HT_.out HW_.out (by kernel_rfl)) (fun _ _ _ h => h) (Or.inl ⟨by rfl, ?_⟩) hHeld ?_ ?_
                                      rotate_left
                                      · rintro w' ⟨s0, s1, s2, s3⟩
                                        go_simp
                                        with_reducible rfl
                                      rotate_left
                                      · simp only [Act.put, List.setIfInBounds_toArray, List.set_cons_zero, List.set_cons_succ, i64_w, i32_w]
                                        rfl
                                      refine one_ (i := 10) (N := some 45) #[true, true, true, true, true, true, true, true, true, true, true, false] rfl rfl (one_of HT_.out (by kernel_rfl)) (by decide) (fun K hK => ?_)
                                      refine goes_ Try.func39 (by kernel_rfl) rfl #[.agg #[.int .u64 ((rd_T51 x3_2 x7_3).f0), .int .i64 ((rd_T51 x3_2 x7_3).f1)], .agg #[.int .u64 t159, .int .i64 (rd l0_0 x4_1)]] (by rfl) rfl rfl (by (try simp only [List.map_toArray, List.map_cons, List.map_nil]); first | done | rfl | (simp only [List.length_drop, List.length_take]; rfl)) ?_
                                      with_reducible refine (icehouseref09_less.calls ((rd_T51 x3_2 x7_3).f0) ((rd_T51 x3_2 x7_3).f1) t159 (rd l0_0 x4_1) false _ A18.out).mono ?_
                                      rintro e w37 ⟨rfl, hb⟩
                                      have HS2_ := (hb.cell (World.block_lt_of_cell? _ _ (hHeld.2.2.1))).trans (hHeld.2.2.1)
                                      have HS3_ := (hb.cell (World.block_lt_of_cell? _ _ (hHeld.2.2.2))).trans (hHeld.2.2.2)
                                      refine ⟨_, rfl, ?_⟩
                                      have n0_ := Aside0.mk (Kd.R_below (by (with_reducible repeat (first | apply Kd.R_alloc | apply Kd.R_drewN | apply Kd.R_drew)); exact HO_3.out) hb)
                                      have n1_ := Aside0.mk (blk_below (g := gb157) (o := .cells #[.slice (some ad158) l0_0.length c0_0, .int .i64 a0_1, .int .i64 a0_2] 24 (0, 0)) (by (with_reducible repeat (first | refine blk_drewN ?_ _ | refine blk_drew ?_ | refine blk_alloc ?_ _)); exact BK157.out) hb)
                                      have n2_ := Aside0.mk (blk_below (g := gb161) (o := .cells #[.int .u64 t159, .int .i64 (rd l0_0 x4_1)] 51 (0, 0)) (by (with_reducible repeat (first | refine blk_drewN ?_ _ | refine blk_drew ?_ | refine blk_alloc ?_ _)); exact BK161.out) hb)
                                      have n3_ := Aside0.mk (below_step (by repeat (first | (with_reducible first | exact HB.out | apply below_alloc | apply pw_below_drewN | apply below_drew1 | refine below_set ?_ GE157.out | refine below_set ?_ GE161.out) | exact HB.out)) hb)
                                      clear HO_3
                                      clear BK157
                                      clear BK161
                                      clear HB
                                      have HO_3 := n0_
                                      have BK157 := n1_
                                      have BK161 := n2_
                                      have HB := n3_
                                      clear n0_ n1_ n2_ n3_
                                      (try clear hb)
                                      (try clear hb2)
                                      (try clear hk)
                                      (try clear hi)
                                      refine hK.out _ _ ⟨(blk_cell BK161.out 0).trans rfl, (blk_cell BK161.out 1).trans rfl, HS2_, HS3_⟩ (fun hHeld => ?_)
                                      clear hK K
                                      refine norm_ (a' := ?_) ?_ ?_
                                      rotate_left
                                      · show Act.put _ (some 45) _ = _
                                        simp only [Act.put, List.setIfInBounds_toArray, List.set_cons_zero, List.set_cons_succ, i64_w, i32_w]
                                        rfl
                                      refine pure_ (i := 11) (N := some 46) (v := ?_) (a' := ?_) #[true, true, true, true, true, true, true, true, true, true, true, true] rfl rfl (any_of HT_.out (by kernel_rfl)) (fun _ _ _ h => h) (Or.inl ⟨by rfl, ?_⟩) ?_ ?_
                                      rotate_left
                                      · intro w'
                                        go_simp
                                        with_reducible rfl
                                      rotate_left
                                      · simp only [Act.put, List.setIfInBounds_toArray, List.set_cons_zero, List.set_cons_succ, i64_w, i32_w]
                                        rfl
                                      refine done_ (done_of HT_.out (by kernel_rfl)) ?_
                                      try go_wp2
                                      have n0_ := Aside0.mk (Kd.R_drew HO_3.out)
                                      have n1_ := Aside0.mk (blk_drew BK157.out)
                                      have n2_ := Aside0.mk (blk_drew BK161.out)
                                      have n3_ := Aside0.mk (below_drew1 HB.out)
                                      clear HO_3
                                      clear BK157
                                      clear BK161
                                      clear HB
                                      have HO_3 := n0_
                                      have BK157 := n1_
                                      have BK161 := n2_
                                      have HB := n3_
                                      clear n0_ n1_ n2_ n3_
                                      have p164 : 0 ≤ (x7_3 : Int) := of_decide_eq_true (by first | (with_reducible assumption) | assumption)
                                      have q164 : x7_3 < (x3_2.length : Int) := of_decide_eq_true (by first | (with_reducible assumption) | assumption)
                                      obtain ⟨ad164, e164, hx164_0, hx164_1⟩ := at_T51 (Kd.R_reads' HO_3.out).2.2 x7_3 p164 q164
                                      obtain rfl : ad162 = ad164 := (by injection e164)
                                      replace p164 := eq_true p164
                                      replace q164 := eq_true q164
                                      refine start_ (n := 12) (S := fun w' => w'.cell? ⟨gb161, 0, none⟩ = some (.int .u64 t159) ∧ w'.cell? ⟨gb161, 1, none⟩ = some (.int .i64 (rd l0_0 x4_1)) ∧ w'.cell? (ad162.add ((x7_3).toNat * 2)) = some (.int .u64 ((rd_T51 x3_2 x7_3).f0)) ∧ w'.cell? ⟨(ad162.add ((x7_3).toNat * 2)).block, (ad162.add ((x7_3).toNat * 2)).off + 1, none⟩ = some (.int .i64 ((rd_T51 x3_2 x7_3).f1))) (ds := []) #[false, false, false, false, false, false, false, false, false, false, false, false] (by kernel_rfl) rfl rfl ⟨(blk_cell BK161.out 0).trans rfl, (blk_cell BK161.out 1).trans rfl, hx164_0, hx164_1⟩ (fun hHeld => ?_); refine with_tabW icehouseref09_Points.tab12 icehouseref09_Points.bits12 (fun HT_ HW_ => ?_)
                                      generalize w37.drew = w38 at HO_3 BK157 BK161 HB hx164_0 hx164_1 hHeld ⊢
                                      refine pure_ (i := 0) (N := some 49) (v := ?_) (a' := ?_) #[true, false, false, false, false, false, false, false, false, false, false, false] rfl rfl (any_of HT_.out (by kernel_rfl)) (fun _ _ _ h => h) (Or.inl ⟨by rfl, ?_⟩) ?_ ?_
                                      rotate_left
                                      · intro w'
                                        go_simp
                                        with_reducible rfl
                                      rotate_left
                                      · simp only [Act.put, List.setIfInBounds_toArray, List.set_cons_zero, List.set_cons_succ, i64_w, i32_w]
                                        rfl
                                      refine pure_ (i := 1) (N := some 50) (v := ?_) (a' := ?_) #[true, true, false, false, false, false, false, false, false, false, false, false] rfl rfl (any_of HT_.out (by kernel_rfl)) (fun _ _ _ h => h) (Or.inl ⟨by rfl, ?_⟩) ?_ ?_
                                      rotate_left
                                      · intro w'
                                        go_simp
                                        with_reducible rfl
                                      rotate_left
                                      · simp only [Act.put, List.setIfInBounds_toArray, List.set_cons_zero, List.set_cons_succ, i64_w, i32_w]
                                        rfl
                                      refine pure_ (i := 2) (N := some 51) (v := ?_) (a' := ?_) #[true, true, true, false, false, false, false, false, false, false, false, false] rfl rfl (any_of HT_.out (by kernel_rfl)) (fun _ _ _ h => h) (Or.inl ⟨by rfl, ?_⟩) ?_ ?_
                                      rotate_left
                                      · intro w'
                                        go_simp
                                        with_reducible rfl
                                      rotate_left
                                      · simp only [Act.put, List.setIfInBounds_toArray, List.set_cons_zero, List.set_cons_succ, i64_w, i32_w]
                                        rfl
                                      refine pure_ (i := 3) (N := some 52) (v := ?_) (a' := ?_) #[true, true, true, true, false, false, false, false, false, false, false, false] rfl rfl (any_of HT_.out (by kernel_rfl)) (fun _ _ _ h => h) (Or.inl ⟨by rfl, ?_⟩) ?_ ?_
                                      rotate_left
                                      · intro w'
                                        go_simp
                                        with_reducible rfl
                                      rotate_left
                                      · simp only [Act.put, List.setIfInBounds_toArray, List.set_cons_zero, List.set_cons_succ, i64_w, i32_w]
                                        rfl
                                      refine pure_ (i := 4) (N := some 53) (v := ?_) (a' := ?_) #[true, true, true, true, true, false, false, false, false, false, false, false] rfl rfl (any_of HT_.out (by kernel_rfl)) (fun _ _ _ h => h) (Or.inl ⟨by rfl, ?_⟩) ?_ ?_
                                      rotate_left
                                      · intro w'
                                        go_simp
                                        with_reducible rfl
                                      rotate_left
                                      · simp only [Act.put, List.setIfInBounds_toArray, List.set_cons_zero, List.set_cons_succ, i64_w, i32_w]
                                        rfl
                                      refine pure_ (i := 5) (N := some 54) (v := ?_) (a' := ?_) #[true, true, true, true, true, true, false, false, false, false, false, false] rfl rfl (any_of HT_.out (by kernel_rfl)) (fun _ _ _ h => h) (Or.inl ⟨by rfl, ?_⟩) ?_ ?_
                                      rotate_left
                                      · intro w'
                                        go_simp
                                        with_reducible rfl
                                      rotate_left
                                      · simp only [Act.put, List.setIfInBounds_toArray, List.set_cons_zero, List.set_cons_succ, i64_w, i32_w]
                                        rfl
                                      refine pure_ (i := 6) (N := some 55) (v := ?_) (a' := ?_) #[true, true, true, true, true, true, true, false, false, false, false, false] rfl rfl (any_of HT_.out (by kernel_rfl)) (fun _ _ _ h => h) (Or.inl ⟨by rfl, ?_⟩) ?_ ?_
                                      rotate_left
                                      · intro w'
                                        go_simp
                                        with_reducible rfl
                                      rotate_left
                                      · simp only [Act.put, List.setIfInBounds_toArray, List.set_cons_zero, List.set_cons_succ, i64_w, i32_w]
                                        rfl
                                      refine pure_ (i := 7) (N := some 56) (v := ?_) (a' := ?_) #[true, true, true, true, true, true, true, true, false, false, false, false] rfl rfl (any_of HT_.out (by kernel_rfl)) (fun _ _ _ h => h) (Or.inl ⟨by rfl, ?_⟩) ?_ ?_
                                      rotate_left
                                      · intro w'
                                        go_simp
                                        with_reducible rfl
                                      rotate_left
                                      · simp only [Act.put, List.setIfInBounds_toArray, List.set_cons_zero, List.set_cons_succ, i64_w, i32_w]
                                        rfl
                                      refine take_ (i := 8) (N := some 57) (v := ?_) (a' := ?_) #[true, true, true, true, true, true, true, true, true, false, false, false] rfl rfl (take_ofW HT_.out HW_.out (by kernel_rfl)) (fun _ _ _ h => h) (Or.inl ⟨by rfl, ?_⟩) hHeld ?_ ?_
                                      rotate_left
                                      · rintro w' ⟨s0, s1, s2, s3⟩
                                        go_simp
                                        with_reducible rfl
                                      rotate_left
                                      · simp only [Act.put, List.setIfInBounds_toArray, List.set_cons_zero, List.set_cons_succ, i64_w, i32_w]
                                        rfl
                                      refine take_ (i := 9) (N := some 58) (v := ?_) (a' := ?_) #[true, true, true, true, true, true, true, true, true, true, false, false] rfl rfl (take_ofW HT_.out HW_.out (by kernel_rfl)) (fun _ _ _ h => h) (Or.inl ⟨by rfl, ?_⟩) hHeld ?_ ?_
                                      rotate_left
                                      · rintro w' ⟨s0, s1, s2, s3⟩
                                        go_simp
                                        with_reducible rfl
                                      rotate_left
                                      · simp only [Act.put, List.setIfInBounds_toArray, List.set_cons_zero, List.set_cons_succ, i64_w, i32_w]
                                        rfl
                                      refine pure_ (i := 10) (N := some 59) (v := ?_) (a' := ?_) #[true, true, true, true, true, true, true, true, true, true, true, false] rfl rfl (any_of HT_.out (by kernel_rfl)) (fun _ _ _ h => h) (Or.inl ⟨by rfl, ?_⟩) ?_ ?_
                                      rotate_left
                                      · intro w'
                                        go_simp
                                        with_reducible rfl
                                      rotate_left
                                      · simp only [Act.put, List.setIfInBounds_toArray, List.set_cons_zero, List.set_cons_succ, i64_w, i32_w]
                                        rfl
                                      refine pure_ (i := 11) (N := some 60) (v := ?_) (a' := ?_) #[true, true, true, true, true, true, true, true, true, true, true, true] rfl rfl (any_of HT_.out (by kernel_rfl)) (fun _ _ _ h => h) (Or.inl ⟨by rfl, ?_⟩) ?_ ?_
                                      rotate_left
                                      · intro w'
                                        go_simp
                                        with_reducible rfl
                                      rotate_left
                                      · simp only [Act.put, List.setIfInBounds_toArray, List.set_cons_zero, List.set_cons_succ, i64_w, i32_w]
                                        rfl
                                      refine done_ (done_of HT_.out (by kernel_rfl)) ?_
                                      have q39 : (x7_3 : Int) ≤ ((x3_2.length : Int) : Int) := of_decide_eq_true (by first | (with_reducible assumption) | assumption)
                                      obtain ⟨i039, hi039, _, hsz39, _⟩ := info_parts info51
                                      have hroom39 : x3_2.length ≤ co36 := (Kd.R_reads' HO_3.out).2.1
                                      have hC39 : Kd.C k51 _ (some ad162) x3_2.length x3_2 := (Kd.R_reads' HO_3.out).2.2
                                      have hcut39 := cut_to (P := Try.prog) 42 51 .i64 Try.underlying42 hi039 (some ad162) x3_2.length co36 x7_3 (of_decide_eq_true (by first | (with_reducible assumption) | assumption)) q39 hroom39
                                      have hr39 := Kd.C_take (m := (x7_3 : Int).toNat) hC39 (by omega)
                                      have hy39 : y165.length = (x7_3 : Int).toNat := (by rw [Ny165.out, List.length_take]; omega)
                                      rw [← Ny165.out] at hr39
                                      rw [← hy39] at hcut39
                                      have HR168 := Aside0.mk hr39
                                      have HC168 := Aside0.mk (show y165.length ≤ co36 from by omega)
                                      clear hr39 hC39 hroom39 hi039 hsz39
                                      have KY39 := Aside0.mk hy39
                                      clear hy39
                                      have KL39 := Aside0.mk (show (x7_3 : Int).toNat ≤ x3_2.length from by omega)
                                      replace q39 := eq_true q39
                                      try go_wp2_with (first | ((with_reducible refine gate_builtin (b := .append) (xs := #[.tmp 61, .tmp 64]) rfl ?_); at_builtin; refine Kd.R_append_rows k51 (w0 := w) w.heap.size rfl (.tmp 61) (.tmp 64) 42 51 (.agg #[(.int .u64 0), (.int .i64 0)]) 16 rfl Try.underlying42 info51 rfl (by decide) (by omega) (.slice none 0 0) ([] : List (S51)) y165 _ _ _ (fun k_ => some k_ ≠ (.slice (some ad162) x3_2.length co36 : Value).ownBlock ∧ k_ ≠ gb161) (fun _ => False) rfl rfl ?aO ?aR (fun _ _ h => h) (fun _ h => h.elim) ?aF ?aB ?aS ?aL ?_; (case aR => repeat (first | exact (by repeat (first | (with_reducible exact HR168.out) | (with_reducible refine Kd.C_alloc ?_ _) | (with_reducible refine Kd.C_drewN ?_ _) | (with_reducible refine Kd.C_drew ?_) | exact HR168.out)) | (with_reducible refine Kd.C_alloc ?_ _) | (with_reducible refine Kd.C_drewN ?_ _) | (with_reducible refine Kd.C_drew ?_))); (case aB => exact (by repeat (first | (with_reducible first | exact HB.out | apply below_alloc | apply pw_below_drewN | apply below_drew1 | refine below_set ?_ GE157.out | refine below_set ?_ GE161.out) | exact HB.out))); (case aF => exact (fun k_ hk => ⟨Kd.fresh' (Kd.R_lt (by (with_reducible repeat (first | apply Kd.R_alloc | apply Kd.R_drewN | apply Kd.R_drew)); exact HO_3.out)) k_ hk, Kd.freshB (g := gb161) (o := .cells #[.int .u64 t159, .int .i64 (rd l0_0 x4_1)] 51 (0, 0)) (by (with_reducible repeat (first | refine blk_drewN ?_ _ | refine blk_drew ?_ | refine blk_alloc ?_ _)); exact BK161.out) k_ hk⟩)); (case aO => exact ((Kd.R_nil _ _ _ _ (fun k_ => some k_ ≠ (.slice (some ad162) x3_2.length co36 : Value).ownBlock ∧ k_ ≠ gb161)))); (case aS => exact (below_size (by repeat (first | (with_reducible first | exact HB.out | apply below_alloc | apply pw_below_drewN | apply below_drew1 | refine below_set ?_ GE157.out | refine below_set ?_ GE161.out) | exact HB.out)))); (case aL => have := LMc30.out; omega); intro v170 w40 ho hb hg hat; rw [← Ny169.out] at ho; have n0_ := Aside0.mk (Kd.R_after (Kd.R_apart_nil (by (with_reducible repeat (first | apply Kd.R_alloc | apply Kd.R_drewN | apply Kd.R_drew)); exact HO_3.out)) hg hat); have n1_ := Aside0.mk (blk_grown (g := gb157) (o := .cells #[.slice (some ad158) l0_0.length c0_0, .int .i64 a0_1, .int .i64 a0_2] 24 (0, 0)) (by (with_reducible repeat (first | refine blk_drewN ?_ _ | refine blk_drew ?_ | refine blk_alloc ?_ _)); exact BK157.out) hg (by simp [Value.ownBlock])); have n2_ := Aside0.mk (blk_grown (g := gb161) (o := .cells #[.int .u64 t159, .int .i64 (rd l0_0 x4_1)] 51 (0, 0)) (by (with_reducible repeat (first | refine blk_drewN ?_ _ | refine blk_drew ?_ | refine blk_alloc ?_ _)); exact BK161.out) hg (by simp [Value.ownBlock])); have n3_ := Aside0.mk (hb); have n4_ := Aside0.mk ((show Kd.C k51 w40 (some ad162) y165.length y165 from by rw [Ny165.out]; exact Kd.C_take (m := (x7_3 : Int).toNat) ((Kd.R_reads' (Kd.R_after (Kd.R_apart_nil (by (with_reducible repeat (first | apply Kd.R_alloc | apply Kd.R_drewN | apply Kd.R_drew)); exact HO_3.out)) hg hat)).2.2) KL39.out)); have n5_ := Aside0.mk (ho); clear HO_3; clear BK157; clear BK161; clear HB; clear HR168; have HO_3 := n0_; have BK157 := n1_; have BK161 := n2_; have HB := n3_; have HR168 := n4_; have HO171 := n5_; clear n0_ n1_ n2_ n3_ n4_ n5_; clear ho hb hg hat; have hnb41 := NB161_157.out; have hnc41 := NB157_161.out; have hcz42_0 : w40.cell? ⟨gb161, 0, none⟩ = some (.int .u64 t159) := (blk_cell BK161.out 0).trans rfl; have hcz42_1 : w40.cell? ⟨gb161, 1, none⟩ = some (.int .i64 (rd l0_0 x4_1)) := (blk_cell BK161.out 1).trans rfl; have hfz42_0 := blk_frozen BK161.out 0; have hfz42_1 := blk_frozen BK161.out 1) | ((with_reducible refine gate_builtin (b := .append) (xs := #[.tmp 66, .tmp 68]) rfl ?_); at_builtin; refine Kd.R_append k51 (w0 := w) w.heap.size rfl (.tmp 66) (.tmp 68) 42 51 (.agg #[(.int .u64 0), (.int .i64 0)]) 16 rfl Try.underlying42 info51 rfl (by decide) (by omega) v170 y169 (⟨t159, (rd l0_0 x4_1)⟩ : S51) [.int .u64 t159, .int .i64 (rd l0_0 x4_1)] (fun k_ => some k_ ≠ (.slice (some ad162) x3_2.length co36 : Value).ownBlock ∧ k_ ≠ gb161) (fun _ => False) rfl rfl ?aP (fun _ hk => hk.elim) ?aF ?aO ?aB ?aS ?aL ?_; (case aP => exact k51_mkM _ _ _ (⟨t159, (rd l0_0 x4_1)⟩ : S51)); (case aB => exact (by repeat (first | (with_reducible first | exact HB.out | apply below_alloc | apply pw_below_drewN | apply below_drew1 | refine below_set ?_ GE157.out | refine below_set ?_ GE161.out) | exact HB.out))); (case aF => exact (fun k_ hk => ⟨Kd.fresh' (Kd.R_lt (by (with_reducible repeat (first | apply Kd.R_alloc | apply Kd.R_drewN | apply Kd.R_drew)); exact HO_3.out)) k_ hk, Kd.freshB (g := gb161) (o := .cells #[.int .u64 t159, .int .i64 (rd l0_0 x4_1)] 51 (0, 0)) (by (with_reducible repeat (first | refine blk_drewN ?_ _ | refine blk_drew ?_ | refine blk_alloc ?_ _)); exact BK161.out) k_ hk⟩)); (case aO => exact (by (with_reducible repeat (first | apply Kd.R_alloc | apply Kd.R_drewN | apply Kd.R_drew)); exact HO171.out)); (case aS => exact (below_size (by repeat (first | (with_reducible first | exact HB.out | apply below_alloc | apply pw_below_drewN | apply below_drew1 | refine below_set ?_ GE157.out | refine below_set ?_ GE161.out) | exact HB.out)))); (case aL => have := LMc31.out; omega); intro v173 w43 ho hb hg hat; rw [← Ny172.out] at ho; have n0_ := Aside0.mk (Kd.R_after (ok := (fun k_ => k_ ≠ gb161)) (by (with_reducible repeat (first | apply Kd.R_alloc | apply Kd.R_drewN | apply Kd.R_drew)); exact HO_3.out) hg hat); have n1_ := Aside0.mk (blk_grown (g := gb157) (o := .cells #[.slice (some ad158) l0_0.length c0_0, .int .i64 a0_1, .int .i64 a0_2] 24 (0, 0)) (by (with_reducible repeat (first | refine blk_drewN ?_ _ | refine blk_drew ?_ | refine blk_alloc ?_ _)); exact BK157.out) hg (Kd.R_ne HO171.out BK157.out (by decide))); have n2_ := Aside0.mk (blk_grown (g := gb161) (o := .cells #[.int .u64 t159, .int .i64 (rd l0_0 x4_1)] 51 (0, 0)) (by (with_reducible repeat (first | refine blk_drewN ?_ _ | refine blk_drew ?_ | refine blk_alloc ?_ _)); exact BK161.out) hg (Kd.R_away HO171.out (fun _ hk => hk.2))); have n3_ := Aside0.mk (hb); have n4_ := Aside0.mk ((show Kd.C k51 w43 (some ad162) y165.length y165 from by rw [Ny165.out]; exact Kd.C_take (m := (x7_3 : Int).toNat) ((Kd.R_reads' (Kd.R_after (ok := (fun k_ => k_ ≠ gb161)) (by (with_reducible repeat (first | apply Kd.R_alloc | apply Kd.R_drewN | apply Kd.R_drew)); exact HO_3.out) hg hat)).2.2) KL39.out)); have n5_ := Aside0.mk (ho); clear HO_3; clear BK157; clear BK161; clear HB; clear HR168; clear HO171; have HO_3 := n0_; have BK157 := n1_; have BK161 := n2_; have HB := n3_; have HR168 := n4_; have HO174 := n5_; clear n0_ n1_ n2_ n3_ n4_ n5_; clear ho hb hg hat; have q44 : (x7_3 : Int) ≤ ((x3_2.length : Int) : Int) := of_decide_eq_true (by first | (with_reducible assumption) | assumption); obtain ⟨i044, hi044, _, hsz44, _⟩ := info_parts info51; have hroom44 : x3_2.length ≤ co36 := (Kd.R_reads' HO_3.out).2.1; have hC44 : Kd.C k51 _ (some ad162) x3_2.length x3_2 := (Kd.R_reads' HO_3.out).2.2; have q044 : (0 : Int) ≤ (x7_3 : Int) := of_decide_eq_true (by first | (with_reducible assumption) | assumption); have hcut44 := cut_from (P := Try.prog) 42 51 .i64 Try.underlying42 hi044 2 hsz44 (some ad162) x3_2.length co36 x7_3 q044 q44; have hr44 := Kd.C_drop (m := (x7_3 : Int).toNat) (c := co36) hC44 (by omega) hroom44; obtain ⟨A44, hA44⟩ : ∃ A1, A1 = (if co36 = (x7_3 : Int).toNat then (some ad162) else ((some ad162) : Option Addr).map (·.add ((x7_3 : Int).toNat * 2))) := ⟨_, rfl⟩; obtain ⟨c44, hc44⟩ : ∃ c1, c1 = co36 - (x7_3 : Int).toNat := ⟨_, rfl⟩; have hy44 : y175.length = x3_2.length - (x7_3 : Int).toNat := (by rw [Ny175.out, List.length_drop] <;> omega); rw [show (x3_2).drop (x7_3 : Int).toNat = y175 from Ny175.out.symm] at hr44; replace hr44 : Kd.C k51 _ A44 y175.length y175 := (by rw [hA44]; exact hr44); rw [← hy44, ← hA44, ← hc44] at hcut44; have HR178 := Aside0.mk hr44; have HC178 := Aside0.mk (show y175.length ≤ c44 from by rw [hy44, hc44]; exact Nat.sub_le_sub_right hroom44 _); clear hr44 hC44 hroom44 hi044 hsz44 hc44; have KY44 := Aside0.mk hy44; have KA44 := Aside0.mk hA44; clear hy44 hA44; have KL44 := Aside0.mk (show (x7_3 : Int).toNat ≤ x3_2.length from by omega); replace q44 := eq_true q44) | ((with_reducible refine gate_builtin (b := .append) (xs := #[.tmp 70, .tmp 73]) rfl ?_); at_builtin; refine Kd.R_append_rows k51 (w0 := w) w.heap.size rfl (.tmp 70) (.tmp 73) 42 51 (.agg #[(.int .u64 0), (.int .i64 0)]) 16 rfl Try.underlying42 info51 rfl (by decide) (by omega) v173 y172 y175 _ _ _ (fun k_ => some k_ ≠ (.slice (some ad162) x3_2.length co36 : Value).ownBlock ∧ k_ ≠ gb161) (fun _ => False) rfl rfl ?aO ?aR (fun _ _ h => h) (fun _ h => h.elim) ?aF ?aB ?aS ?aL ?_; (case aR => repeat (first | exact (by repeat (first | (with_reducible exact HR178.out) | (with_reducible refine Kd.C_alloc ?_ _) | (with_reducible refine Kd.C_drewN ?_ _) | (with_reducible refine Kd.C_drew ?_) | exact HR178.out)) | (with_reducible refine Kd.C_alloc ?_ _) | (with_reducible refine Kd.C_drewN ?_ _) | (with_reducible refine Kd.C_drew ?_))); (case aB => exact (by repeat (first | (with_reducible first | exact HB.out | apply below_alloc | apply pw_below_drewN | apply below_drew1 | refine below_set ?_ GE157.out | refine below_set ?_ GE161.out) | exact HB.out))); (case aF => exact (fun k_ hk => ⟨Kd.fresh' (Kd.R_lt (by (with_reducible repeat (first | apply Kd.R_alloc | apply Kd.R_drewN | apply Kd.R_drew)); exact HO_3.out)) k_ hk, Kd.freshB (g := gb161) (o := .cells #[.int .u64 t159, .int .i64 (rd l0_0 x4_1)] 51 (0, 0)) (by (with_reducible repeat (first | refine blk_drewN ?_ _ | refine blk_drew ?_ | refine blk_alloc ?_ _)); exact BK161.out) k_ hk⟩)); (case aO => exact (by (with_reducible repeat (first | apply Kd.R_alloc | apply Kd.R_drewN | apply Kd.R_drew)); exact HO174.out)); (case aS => exact (below_size (by repeat (first | (with_reducible first | exact HB.out | apply below_alloc | apply pw_below_drewN | apply below_drew1 | refine below_set ?_ GE157.out | refine below_set ?_ GE161.out) | exact HB.out)))); (case aL => have := LMc34.out; omega); intro v180 w45 ho hb hg hat; rw [← Ny179.out] at ho; have n0_ := Aside0.mk (Kd.R_after (ok := (fun k_ => k_ ≠ gb161)) (by (with_reducible repeat (first | apply Kd.R_alloc | apply Kd.R_drewN | apply Kd.R_drew)); exact HO_3.out) hg hat); have n1_ := Aside0.mk (blk_grown (g := gb157) (o := .cells #[.slice (some ad158) l0_0.length c0_0, .int .i64 a0_1, .int .i64 a0_2] 24 (0, 0)) (by (with_reducible repeat (first | refine blk_drewN ?_ _ | refine blk_drew ?_ | refine blk_alloc ?_ _)); exact BK157.out) hg (Kd.R_ne HO174.out BK157.out (by decide))); have n2_ := Aside0.mk (blk_grown (g := gb161) (o := .cells #[.int .u64 t159, .int .i64 (rd l0_0 x4_1)] 51 (0, 0)) (by (with_reducible repeat (first | refine blk_drewN ?_ _ | refine blk_drew ?_ | refine blk_alloc ?_ _)); exact BK161.out) hg (Kd.R_away HO174.out (fun _ hk => hk.2))); have n3_ := Aside0.mk (hb); have n4_ := Aside0.mk ((show Kd.C k51 w45 (some ad162) y165.length y165 from by rw [Ny165.out]; exact Kd.C_take (m := (x7_3 : Int).toNat) ((Kd.R_reads' (Kd.R_after (ok := (fun k_ => k_ ≠ gb161)) (by (with_reducible repeat (first | apply Kd.R_alloc | apply Kd.R_drewN | apply Kd.R_drew)); exact HO_3.out) hg hat)).2.2) KL39.out)); have n5_ := Aside0.mk ((show Kd.C k51 w45 A44 y175.length y175 from by rw [Ny175.out, KA44.out]; exact Kd.C_drop (m := (x7_3 : Int).toNat) (c := co36) ((Kd.R_reads' (Kd.R_after (ok := (fun k_ => k_ ≠ gb161)) (by (with_reducible repeat (first | apply Kd.R_alloc | apply Kd.R_drewN | apply Kd.R_drew)); exact HO_3.out) hg hat)).2.2) KL44.out ((Kd.R_reads' (Kd.R_after (ok := (fun k_ => k_ ≠ gb161)) (by (with_reducible repeat (first | apply Kd.R_alloc | apply Kd.R_drewN | apply Kd.R_drew)); exact HO_3.out) hg hat)).2.1))); have n6_ := Aside0.mk (ho); clear HO_3; clear BK157; clear BK161; clear HB; clear HR168; clear HR178; clear HO174; have HO_3 := n0_; have BK157 := n1_; have BK161 := n2_; have HB := n3_; have HR168 := n4_; have HR178 := n5_; have HO181 := n6_; clear n0_ n1_ n2_ n3_ n4_ n5_ n6_; clear ho hb hg hat))
                                      go_roundg k3
                                      case measure => have := HK1.out; have := HK2.out; have := HK3.out; omega
                                      case rel => exact ⟨(y179), (wrap64 (x5_2 + 1)), (by first | rfl | (simp; done) | (simp [*]; done)), H', ⟨by have := HK1.out; have := HK2.out; have := HK3.out; omega⟩, ⟨by (with_reducible repeat (first | apply Kd.R_alloc | apply Kd.R_drewN | apply Kd.R_drew)); exact Kd.R_mono HO181.out (fun _ hk => trivial)⟩, ⟨by (with_reducible repeat (first | refine blk_drewN ?_ _ | refine blk_drew ?_ | refine blk_alloc ?_ _)); exact BK157.out⟩, ⟨by repeat (first | (with_reducible first | exact HB.out | apply below_alloc | apply pw_below_drewN | apply below_drew1 | refine below_set ?_ GE157.out | refine below_set ?_ GE161.out) | exact HB.out)⟩⟩
                                    · rw [if_neg c34] at H
                                      exact absurd H (by simp)
                                  · rw [if_neg c31] at H
                                    exact absurd H (by simp)
                                · rw [if_neg c30] at H
                                  exact absurd H (by simp)
                              · rw [if_neg c29] at H
                                exact absurd H (by simp)
                        · rw [if_neg c17] at H
                          exact absurd H (by simp)
                      · rw [if_neg c16] at H
                        have c16b0 : decide (x7_3 < (x3_2.length : Int)) = false := decide_eq_false c16
                        clear c16
                        by_cases c46 : 0 ≤ x7_3
                        · rw [if_pos c46] at H
                          have c46b0 := eq_true c46
                          have c46b1 : decide (0 ≤ x7_3) = true := decide_eq_true c46
                          clear c46
                          by_cases c47 : x7_3 ≤ (x3_2.length : Int)
                          · rw [if_pos c47] at H
                            have c47b0 := eq_true c47
                            have c47b1 : decide (x7_3 ≤ (x3_2.length : Int)) = true := decide_eq_true c47
                            clear c47
                            obtain ⟨y182, hy182⟩ : ∃ y_ : List (S51), y_ = (x3_2.take (x7_3 : Int).toNat) := ⟨_, rfl⟩
                            replace H : (if ([] : List (S51)).length + y182.length < 8796093022208 then ((some (([] : List (S51)) ++ y182 : List (S51))).bind fun y186 => (if y186.length < 8796093022208 then ((some (y186 ++ [(⟨t159, (rd l0_0 x4_1)⟩ : S51)] : List (S51))).bind fun y189 => ((some (x3_2.drop (x7_3 : Int).toNat : List (S51))).bind fun y192 => (if y189.length + y192.length < 8796093022208 then (icehouseref09_Points.l1 k3 (y189 ++ y192) x4_1 (wrap64 (x5_2 + 1)) l0_0 a0_1 a0_2) else (none)))) else (none))) else (none)) = some r := by first | (rw [hy182]; with_reducible exact H) | (have H2_ := (Option.bind_some _ _).symm.trans H; rw [hy182]; with_reducible exact H2_) | (have H2_ := (Option.bind_some _ _).symm.trans H; with_reducible exact H2_) | with_reducible exact H | (rw [hy182]; exact H) | exact H
                            have Ny182 := Aside0.mk hy182
                            clear hy182
                            by_cases c48 : ([] : List (S51)).length + y182.length < 8796093022208
                            · rw [if_pos c48] at H
                              have LMc48 := Aside0.mk c48
                              clear c48
                              obtain ⟨y186, hy186⟩ : ∃ y_ : List (S51), y_ = (([] : List (S51)) ++ y182) := ⟨_, rfl⟩
                              replace H : (if y186.length < 8796093022208 then ((some (y186 ++ [(⟨t159, (rd l0_0 x4_1)⟩ : S51)] : List (S51))).bind fun y189 => ((some (x3_2.drop (x7_3 : Int).toNat : List (S51))).bind fun y192 => (if y189.length + y192.length < 8796093022208 then (icehouseref09_Points.l1 k3 (y189 ++ y192) x4_1 (wrap64 (x5_2 + 1)) l0_0 a0_1 a0_2) else (none)))) else (none)) = some r := by first | (rw [hy186]; with_reducible exact H) | (have H2_ := (Option.bind_some _ _).symm.trans H; rw [hy186]; with_reducible exact H2_) | (have H2_ := (Option.bind_some _ _).symm.trans H; with_reducible exact H2_) | with_reducible exact H | (rw [hy186]; exact H) | exact H
                              have Ny186 := Aside0.mk hy186
                              clear hy186
                              by_cases c49 : y186.length < 8796093022208
                              · rw [if_pos c49] at H
                                have LMc49 := Aside0.mk c49
                                clear c49
                                obtain ⟨y189, hy189⟩ : ∃ y_ : List (S51), y_ = (y186 ++ [(⟨t159, (rd l0_0 x4_1)⟩ : S51)]) := ⟨_, rfl⟩
                                replace H : ((some (x3_2.drop (x7_3 : Int).toNat : List (S51))).bind fun y192 => (if y189.length + y192.length < 8796093022208 then (icehouseref09_Points.l1 k3 (y189 ++ y192) x4_1 (wrap64 (x5_2 + 1)) l0_0 a0_1 a0_2) else (none))) = some r := by first | (rw [hy189]; with_reducible exact H) | (have H2_ := (Option.bind_some _ _).symm.trans H; rw [hy189]; with_reducible exact H2_) | (have H2_ := (Option.bind_some _ _).symm.trans H; with_reducible exact H2_) | with_reducible exact H | (rw [hy189]; exact H) | exact H
                                have Ny189 := Aside0.mk hy189
                                clear hy189
                                have c50b0 := eq_true (of_decide_eq_true (by first | (with_reducible assumption) | assumption) : 0 ≤ x7_3)
                                have c51b0 := eq_true (of_decide_eq_true (by first | (with_reducible assumption) | assumption) : x7_3 ≤ (x3_2.length : Int))
                                obtain ⟨y192, hy192⟩ : ∃ y_ : List (S51), y_ = (x3_2.drop (x7_3 : Int).toNat) := ⟨_, rfl⟩
                                replace H : (if y189.length + y192.length < 8796093022208 then (icehouseref09_Points.l1 k3 (y189 ++ y192) x4_1 (wrap64 (x5_2 + 1)) l0_0 a0_1 a0_2) else (none)) = some r := by first | (rw [hy192]; with_reducible exact H) | (have H2_ := (Option.bind_some _ _).symm.trans H; rw [hy192]; with_reducible exact H2_) | (have H2_ := (Option.bind_some _ _).symm.trans H; with_reducible exact H2_) | with_reducible exact H | (rw [hy192]; exact H) | exact H
                                have Ny192 := Aside0.mk hy192
                                clear hy192
                                by_cases c52 : y189.length + y192.length < 8796093022208
                                · rw [if_pos c52] at H
                                  have LMc52 := Aside0.mk c52
                                  clear c52
                                  obtain ⟨y196, hy196⟩ : ∃ y_ : List (S51), y_ = (y189 ++ y192) := ⟨_, rfl⟩
                                  replace H : (icehouseref09_Points.l1 k3 y196 x4_1 (wrap64 (x5_2 + 1)) l0_0 a0_1 a0_2) = some r := by first | (rw [hy196]; with_reducible exact H) | (have H2_ := (Option.bind_some _ _).symm.trans H; rw [hy196]; with_reducible exact H2_) | (have H2_ := (Option.bind_some _ _).symm.trans H; with_reducible exact H2_) | with_reducible exact H | (rw [hy196]; exact H) | exact H
                                  have Ny196 := Aside0.mk hy196
                                  clear hy196
                                  have H' := Aside0.mk H
                                  clear H
                                  try go_wp2
                                  have n0_ := Aside0.mk (Kd.R_drew HO_3.out)
                                  have n1_ := Aside0.mk (blk_drew BK157.out)
                                  have n2_ := Aside0.mk (blk_drew BK161.out)
                                  have n3_ := Aside0.mk (below_drew1 HB.out)
                                  clear HO_3
                                  clear BK157
                                  clear BK161
                                  clear HB
                                  have HO_3 := n0_
                                  have BK157 := n1_
                                  have BK161 := n2_
                                  have HB := n3_
                                  clear n0_ n1_ n2_ n3_
                                  obtain ⟨Ao54, co54, eo54⟩ := Kd.R_slice HO_3.out
                                  (first | subst eo54 | (injection eo54 with f1_ f2_ f3_; have f4_ := f1_.symm; have f5_ := f3_.symm; clear f1_ f2_ f3_; subst f4_; subst f5_))
                                  refine start_ (n := 12) (S := fun w' => True) (ds := []) #[false, false, false, false, false, false, false, false, false, false, false, false] (by kernel_rfl) rfl rfl trivial (fun hHeld => ?_); refine with_tabW icehouseref09_Points.tab10 icehouseref09_Points.bits10 (fun HT_ HW_ => ?_)
                                  generalize wr.drew = w53 at HO_3 BK157 BK161 HB hHeld ⊢
                                  refine pure_ (i := 0) (N := some 35) (v := ?_) (a' := ?_) #[true, false, false, false, false, false, false, false, false, false, false, false] rfl rfl (any_of HT_.out (by kernel_rfl)) (fun _ _ _ h => h) (Or.inl ⟨by rfl, ?_⟩) ?_ ?_
                                  rotate_left
                                  · intro w'
                                    go_simp
                                    with_reducible rfl
                                  rotate_left
                                  · simp only [Act.put, List.setIfInBounds_toArray, List.set_cons_zero, List.set_cons_succ, i64_w, i32_w]
                                    rfl
                                  refine pure_ (i := 1) (N := some 36) (v := ?_) (a' := ?_) #[true, true, false, false, false, false, false, false, false, false, false, false] rfl rfl (any_of HT_.out (by kernel_rfl)) (fun _ _ _ h => h) (Or.inl ⟨by rfl, ?_⟩) ?_ ?_
                                  rotate_left
                                  · intro w'
                                    go_simp
                                    with_reducible rfl
                                  rotate_left
                                  · simp only [Act.put, List.setIfInBounds_toArray, List.set_cons_zero, List.set_cons_succ, i64_w, i32_w]
                                    rfl
                                  refine pure_ (i := 2) (N := some 37) (v := ?_) (a' := ?_) #[true, true, true, false, false, false, false, false, false, false, false, false] rfl rfl (any_of HT_.out (by kernel_rfl)) (fun _ _ _ h => h) (Or.inl ⟨by rfl, ?_⟩) ?_ ?_
                                  rotate_left
                                  · intro w'
                                    go_simp
                                    with_reducible rfl
                                  rotate_left
                                  · simp only [Act.put, List.setIfInBounds_toArray, List.set_cons_zero, List.set_cons_succ, i64_w, i32_w]
                                    rfl
                                  refine pure_ (i := 3) (N := some 38) (v := ?_) (a' := ?_) #[true, true, true, true, false, false, false, false, false, false, false, false] rfl rfl (any_of HT_.out (by kernel_rfl)) (fun _ _ _ h => h) (Or.inl ⟨by rfl, ?_⟩) ?_ ?_
                                  rotate_left
                                  · intro w'
                                    go_simp
                                    with_reducible rfl
                                  rotate_left
                                  · simp only [Act.put, List.setIfInBounds_toArray, List.set_cons_zero, List.set_cons_succ, i64_w, i32_w]
                                    rfl
                                  refine pure_ (i := 4) (N := some 39) (v := ?_) (a' := ?_) #[true, true, true, true, true, false, false, false, false, false, false, false] rfl rfl (any_of HT_.out (by kernel_rfl)) (fun _ _ _ h => h) (Or.inl ⟨by rfl, ?_⟩) ?_ ?_
                                  rotate_left
                                  · intro w'
                                    go_simp
                                    with_reducible rfl
                                  rotate_left
                                  · simp only [Act.put, List.setIfInBounds_toArray, List.set_cons_zero, List.set_cons_succ, i64_w, i32_w]
                                    rfl
                                  refine pure_ (i := 5) (N := some 40) (v := undef) (a' := ?_) #[true, true, true, true, true, true, false, false, false, false, false, false] rfl rfl (any_of HT_.out (by kernel_rfl)) (fun _ _ _ h => h) (Or.inr ⟨by rfl, rfl⟩) ?_ ?_
                                  rotate_left
                                  · simp only [Act.put, List.setIfInBounds_toArray, List.set_cons_zero, List.set_cons_succ, i64_w, i32_w]
                                    rfl
                                  refine pure_ (i := 6) (N := some 41) (v := undef) (a' := ?_) #[true, true, true, true, true, true, true, false, false, false, false, false] rfl rfl (any_of HT_.out (by kernel_rfl)) (fun _ _ _ h => h) (Or.inr ⟨by rfl, rfl⟩) ?_ ?_
                                  rotate_left
                                  · simp only [Act.put, List.setIfInBounds_toArray, List.set_cons_zero, List.set_cons_succ, i64_w, i32_w]
                                    rfl
                                  refine pure_ (i := 7) (N := some 42) (v := undef) (a' := ?_) #[true, true, true, true, true, true, true, true, false, false, false, false] rfl rfl (any_of HT_.out (by kernel_rfl)) (fun _ _ _ h => h) (Or.inr ⟨by rfl, rfl⟩) ?_ ?_
                                  rotate_left
                                  · simp only [Act.put, List.setIfInBounds_toArray, List.set_cons_zero, List.set_cons_succ, i64_w, i32_w]
                                    rfl
                                  refine pure_ (i := 8) (N := some 43) (v := undef) (a' := ?_) #[true, true, true, true, true, true, true, true, true, false, false, false] rfl rfl (any_of HT_.out (by kernel_rfl)) (fun _ _ _ h => h) (Or.inr ⟨by rfl, rfl⟩) ?_ ?_
                                  rotate_left
                                  · simp only [Act.put, List.setIfInBounds_toArray, List.set_cons_zero, List.set_cons_succ, i64_w, i32_w]
                                    rfl
                                  refine pure_ (i := 9) (N := some 44) (v := undef) (a' := ?_) #[true, true, true, true, true, true, true, true, true, true, false, false] rfl rfl (any_of HT_.out (by kernel_rfl)) (fun _ _ _ h => h) (Or.inr ⟨by rfl, rfl⟩) ?_ ?_
                                  rotate_left
                                  · simp only [Act.put, List.setIfInBounds_toArray, List.set_cons_zero, List.set_cons_succ, i64_w, i32_w]
                                    rfl
                                  refine pure_ (i := 10) (N := some 45) (v := undef) (a' := ?_) #[true, true, true, true, true, true, true, true, true, true, true, false] rfl rfl (any_of HT_.out (by kernel_rfl)) (fun _ _ _ h => h) (Or.inr ⟨by rfl, rfl⟩) ?_ ?_
                                  rotate_left
                                  · simp only [Act.put, List.setIfInBounds_toArray, List.set_cons_zero, List.set_cons_succ, i64_w, i32_w]
                                    rfl
                                  refine pure_ (i := 11) (N := some 46) (v := ?_) (a' := ?_) #[true, true, true, true, true, true, true, true, true, true, true, true] rfl rfl (any_of HT_.out (by kernel_rfl)) (fun _ _ _ h => h) (Or.inl ⟨by rfl, ?_⟩) ?_ ?_
                                  rotate_left
                                  · intro w'
                                    go_simp
                                    with_reducible rfl
                                  rotate_left
                                  · simp only [Act.put, List.setIfInBounds_toArray, List.set_cons_zero, List.set_cons_succ, i64_w, i32_w]
                                    rfl
                                  refine done_ (done_of HT_.out (by kernel_rfl)) ?_
                                  try go_wp2
                                  have n0_ := Aside0.mk (Kd.R_drew HO_3.out)
                                  have n1_ := Aside0.mk (blk_drew BK157.out)
                                  have n2_ := Aside0.mk (blk_drew BK161.out)
                                  have n3_ := Aside0.mk (below_drew1 HB.out)
                                  clear HO_3
                                  clear BK157
                                  clear BK161
                                  clear HB
                                  have HO_3 := n0_
                                  have BK157 := n1_
                                  have BK161 := n2_
                                  have HB := n3_
                                  clear n0_ n1_ n2_ n3_
                                  refine start_ (n := 12) (S := fun w' => True) (ds := []) #[false, false, false, false, false, false, false, false, false, false, false, false] (by kernel_rfl) rfl rfl trivial (fun hHeld => ?_); refine with_tabW icehouseref09_Points.tab12 icehouseref09_Points.bits12 (fun HT_ HW_ => ?_)
                                  generalize w53.drew = w55 at HO_3 BK157 BK161 HB hHeld ⊢
                                  refine pure_ (i := 0) (N := some 49) (v := ?_) (a' := ?_) #[true, false, false, false, false, false, false, false, false, false, false, false] rfl rfl (any_of HT_.out (by kernel_rfl)) (fun _ _ _ h => h) (Or.inl ⟨by rfl, ?_⟩) ?_ ?_
                                  rotate_left
                                  · intro w'
                                    go_simp
                                    with_reducible rfl
                                  rotate_left
                                  · simp only [Act.put, List.setIfInBounds_toArray, List.set_cons_zero, List.set_cons_succ, i64_w, i32_w]
                                    rfl
                                  refine pure_ (i := 1) (N := some 50) (v := ?_) (a' := ?_) #[true, true, false, false, false, false, false, false, false, false, false, false] rfl rfl (any_of HT_.out (by kernel_rfl)) (fun _ _ _ h => h) (Or.inl ⟨by rfl, ?_⟩) ?_ ?_
                                  rotate_left
                                  · intro w'
                                    go_simp
                                    with_reducible rfl
                                  rotate_left
                                  · simp only [Act.put, List.setIfInBounds_toArray, List.set_cons_zero, List.set_cons_succ, i64_w, i32_w]
                                    rfl
                                  refine pure_ (i := 2) (N := some 51) (v := ?_) (a' := ?_) #[true, true, true, false, false, false, false, false, false, false, false, false] rfl rfl (any_of HT_.out (by kernel_rfl)) (fun _ _ _ h => h) (Or.inl ⟨by rfl, ?_⟩) ?_ ?_
                                  rotate_left
                                  · intro w'
                                    go_simp
                                    with_reducible rfl
                                  rotate_left
                                  · simp only [Act.put, List.setIfInBounds_toArray, List.set_cons_zero, List.set_cons_succ, i64_w, i32_w]
                                    rfl
                                  refine pure_ (i := 3) (N := some 52) (v := ?_) (a' := ?_) #[true, true, true, true, false, false, false, false, false, false, false, false] rfl rfl (any_of HT_.out (by kernel_rfl)) (fun _ _ _ h => h) (Or.inl ⟨by rfl, ?_⟩) ?_ ?_
                                  rotate_left
                                  · intro w'
                                    go_simp
                                    with_reducible rfl
                                  rotate_left
                                  · simp only [Act.put, List.setIfInBounds_toArray, List.set_cons_zero, List.set_cons_succ, i64_w, i32_w]
                                    rfl
                                  refine pure_ (i := 4) (N := some 53) (v := ?_) (a' := ?_) #[true, true, true, true, true, false, false, false, false, false, false, false] rfl rfl (any_of HT_.out (by kernel_rfl)) (fun _ _ _ h => h) (Or.inl ⟨by rfl, ?_⟩) ?_ ?_
                                  rotate_left
                                  · intro w'
                                    go_simp
                                    with_reducible rfl
                                  rotate_left
                                  · simp only [Act.put, List.setIfInBounds_toArray, List.set_cons_zero, List.set_cons_succ, i64_w, i32_w]
                                    rfl
                                  refine pure_ (i := 5) (N := some 54) (v := undef) (a' := ?_) #[true, true, true, true, true, true, false, false, false, false, false, false] rfl rfl (any_of HT_.out (by kernel_rfl)) (fun _ _ _ h => h) (Or.inr ⟨by rfl, rfl⟩) ?_ ?_
                                  rotate_left
                                  · simp only [Act.put, List.setIfInBounds_toArray, List.set_cons_zero, List.set_cons_succ, i64_w, i32_w]
                                    rfl
                                  refine pure_ (i := 6) (N := some 55) (v := undef) (a' := ?_) #[true, true, true, true, true, true, true, false, false, false, false, false] rfl rfl (any_of HT_.out (by kernel_rfl)) (fun _ _ _ h => h) (Or.inr ⟨by rfl, rfl⟩) ?_ ?_
                                  rotate_left
                                  · simp only [Act.put, List.setIfInBounds_toArray, List.set_cons_zero, List.set_cons_succ, i64_w, i32_w]
                                    rfl
                                  refine pure_ (i := 7) (N := some 56) (v := undef) (a' := ?_) #[true, true, true, true, true, true, true, true, false, false, false, false] rfl rfl (any_of HT_.out (by kernel_rfl)) (fun _ _ _ h => h) (Or.inr ⟨by rfl, rfl⟩) ?_ ?_
                                  rotate_left
                                  · simp only [Act.put, List.setIfInBounds_toArray, List.set_cons_zero, List.set_cons_succ, i64_w, i32_w]
                                    rfl
                                  refine pure_ (i := 8) (N := some 57) (v := undef) (a' := ?_) #[true, true, true, true, true, true, true, true, true, false, false, false] rfl rfl (any_of HT_.out (by kernel_rfl)) (fun _ _ _ h => h) (Or.inr ⟨by rfl, rfl⟩) ?_ ?_
                                  rotate_left
                                  · simp only [Act.put, List.setIfInBounds_toArray, List.set_cons_zero, List.set_cons_succ, i64_w, i32_w]
                                    rfl
                                  refine pure_ (i := 9) (N := some 58) (v := undef) (a' := ?_) #[true, true, true, true, true, true, true, true, true, true, false, false] rfl rfl (any_of HT_.out (by kernel_rfl)) (fun _ _ _ h => h) (Or.inr ⟨by rfl, rfl⟩) ?_ ?_
                                  rotate_left
                                  · simp only [Act.put, List.setIfInBounds_toArray, List.set_cons_zero, List.set_cons_succ, i64_w, i32_w]
                                    rfl
                                  refine pure_ (i := 10) (N := some 59) (v := undef) (a' := ?_) #[true, true, true, true, true, true, true, true, true, true, true, false] rfl rfl (any_of HT_.out (by kernel_rfl)) (fun _ _ _ h => h) (Or.inr ⟨by rfl, rfl⟩) ?_ ?_
                                  rotate_left
                                  · simp only [Act.put, List.setIfInBounds_toArray, List.set_cons_zero, List.set_cons_succ, i64_w, i32_w]
                                    rfl
                                  refine pure_ (i := 11) (N := some 60) (v := ?_) (a' := ?_) #[true, true, true, true, true, true, true, true, true, true, true, true] rfl rfl (any_of HT_.out (by kernel_rfl)) (fun _ _ _ h => h) (Or.inl ⟨by rfl, ?_⟩) ?_ ?_
                                  rotate_left
                                  · intro w'
                                    go_simp
                                    with_reducible rfl
                                  rotate_left
                                  · simp only [Act.put, List.setIfInBounds_toArray, List.set_cons_zero, List.set_cons_succ, i64_w, i32_w]
                                    rfl
                                  refine done_ (done_of HT_.out (by kernel_rfl)) ?_
                                  have q56 : (x7_3 : Int) ≤ ((x3_2.length : Int) : Int) := of_decide_eq_true (by first | (with_reducible assumption) | assumption)
                                  obtain ⟨i056, hi056, _, hsz56, _⟩ := info_parts info51
                                  have hroom56 : x3_2.length ≤ co54 := (Kd.R_reads' HO_3.out).2.1
                                  have hC56 : Kd.C k51 _ Ao54 x3_2.length x3_2 := (Kd.R_reads' HO_3.out).2.2
                                  have hcut56 := cut_to (P := Try.prog) 42 51 .i64 Try.underlying42 hi056 Ao54 x3_2.length co54 x7_3 (of_decide_eq_true (by first | (with_reducible assumption) | assumption)) q56 hroom56
                                  have hr56 := Kd.C_take (m := (x7_3 : Int).toNat) hC56 (by omega)
                                  have hy56 : y182.length = (x7_3 : Int).toNat := (by rw [Ny182.out, List.length_take]; omega)
                                  rw [← Ny182.out] at hr56
                                  rw [← hy56] at hcut56
                                  have HR185 := Aside0.mk hr56
                                  have HC185 := Aside0.mk (show y182.length ≤ co54 from by omega)
                                  clear hr56 hC56 hroom56 hi056 hsz56
                                  have KY56 := Aside0.mk hy56
                                  clear hy56
                                  have KL56 := Aside0.mk (show (x7_3 : Int).toNat ≤ x3_2.length from by omega)
                                  replace q56 := eq_true q56
                                  try go_wp2_with (first | ((with_reducible refine gate_builtin (b := .append) (xs := #[.tmp 61, .tmp 64]) rfl ?_); at_builtin; refine Kd.R_append_rows k51 (w0 := w) w.heap.size rfl (.tmp 61) (.tmp 64) 42 51 (.agg #[(.int .u64 0), (.int .i64 0)]) 16 rfl Try.underlying42 info51 rfl (by decide) (by omega) (.slice none 0 0) ([] : List (S51)) y182 _ _ _ (fun k_ => some k_ ≠ (.slice Ao54 x3_2.length co54 : Value).ownBlock ∧ k_ ≠ gb161) (fun _ => False) rfl rfl ?aO ?aR (fun _ _ h => h) (fun _ h => h.elim) ?aF ?aB ?aS ?aL ?_; (case aR => repeat (first | exact (by repeat (first | (with_reducible exact HR185.out) | (with_reducible refine Kd.C_alloc ?_ _) | (with_reducible refine Kd.C_drewN ?_ _) | (with_reducible refine Kd.C_drew ?_) | exact HR185.out)) | (with_reducible refine Kd.C_alloc ?_ _) | (with_reducible refine Kd.C_drewN ?_ _) | (with_reducible refine Kd.C_drew ?_))); (case aB => exact (by repeat (first | (with_reducible first | exact HB.out | apply below_alloc | apply pw_below_drewN | apply below_drew1 | refine below_set ?_ GE157.out | refine below_set ?_ GE161.out) | exact HB.out))); (case aF => exact (fun k_ hk => ⟨Kd.fresh' (Kd.R_lt (by (with_reducible repeat (first | apply Kd.R_alloc | apply Kd.R_drewN | apply Kd.R_drew)); exact HO_3.out)) k_ hk, Kd.freshB (g := gb161) (o := .cells #[.int .u64 t159, .int .i64 (rd l0_0 x4_1)] 51 (0, 0)) (by (with_reducible repeat (first | refine blk_drewN ?_ _ | refine blk_drew ?_ | refine blk_alloc ?_ _)); exact BK161.out) k_ hk⟩)); (case aO => exact ((Kd.R_nil _ _ _ _ (fun k_ => some k_ ≠ (.slice Ao54 x3_2.length co54 : Value).ownBlock ∧ k_ ≠ gb161)))); (case aS => exact (below_size (by repeat (first | (with_reducible first | exact HB.out | apply below_alloc | apply pw_below_drewN | apply below_drew1 | refine below_set ?_ GE157.out | refine below_set ?_ GE161.out) | exact HB.out)))); (case aL => have := LMc48.out; omega); intro v187 w57 ho hb hg hat; rw [← Ny186.out] at ho; have n0_ := Aside0.mk (Kd.R_after (Kd.R_apart_nil (by (with_reducible repeat (first | apply Kd.R_alloc | apply Kd.R_drewN | apply Kd.R_drew)); exact HO_3.out)) hg hat); have n1_ := Aside0.mk (blk_grown (g := gb157) (o := .cells #[.slice (some ad158) l0_0.length c0_0, .int .i64 a0_1, .int .i64 a0_2] 24 (0, 0)) (by (with_reducible repeat (first | refine blk_drewN ?_ _ | refine blk_drew ?_ | refine blk_alloc ?_ _)); exact BK157.out) hg (by simp [Value.ownBlock])); have n2_ := Aside0.mk (blk_grown (g := gb161) (o := .cells #[.int .u64 t159, .int .i64 (rd l0_0 x4_1)] 51 (0, 0)) (by (with_reducible repeat (first | refine blk_drewN ?_ _ | refine blk_drew ?_ | refine blk_alloc ?_ _)); exact BK161.out) hg (by simp [Value.ownBlock])); have n3_ := Aside0.mk (hb); have n4_ := Aside0.mk ((show Kd.C k51 w57 Ao54 y182.length y182 from by rw [Ny182.out]; exact Kd.C_take (m := (x7_3 : Int).toNat) ((Kd.R_reads' (Kd.R_after (Kd.R_apart_nil (by (with_reducible repeat (first | apply Kd.R_alloc | apply Kd.R_drewN | apply Kd.R_drew)); exact HO_3.out)) hg hat)).2.2) KL56.out)); have n5_ := Aside0.mk (ho); clear HO_3; clear BK157; clear BK161; clear HB; clear HR185; have HO_3 := n0_; have BK157 := n1_; have BK161 := n2_; have HB := n3_; have HR185 := n4_; have HO188 := n5_; clear n0_ n1_ n2_ n3_ n4_ n5_; clear ho hb hg hat; have hnb58 := NB161_157.out; have hnc58 := NB157_161.out; have hcz59_0 : w57.cell? ⟨gb161, 0, none⟩ = some (.int .u64 t159) := (blk_cell BK161.out 0).trans rfl; have hcz59_1 : w57.cell? ⟨gb161, 1, none⟩ = some (.int .i64 (rd l0_0 x4_1)) := (blk_cell BK161.out 1).trans rfl; have hfz59_0 := blk_frozen BK161.out 0; have hfz59_1 := blk_frozen BK161.out 1) | ((with_reducible refine gate_builtin (b := .append) (xs := #[.tmp 66, .tmp 68]) rfl ?_); at_builtin; refine Kd.R_append k51 (w0 := w) w.heap.size rfl (.tmp 66) (.tmp 68) 42 51 (.agg #[(.int .u64 0), (.int .i64 0)]) 16 rfl Try.underlying42 info51 rfl (by decide) (by omega) v187 y186 (⟨t159, (rd l0_0 x4_1)⟩ : S51) [.int .u64 t159, .int .i64 (rd l0_0 x4_1)] (fun k_ => some k_ ≠ (.slice Ao54 x3_2.length co54 : Value).ownBlock ∧ k_ ≠ gb161) (fun _ => False) rfl rfl ?aP (fun _ hk => hk.elim) ?aF ?aO ?aB ?aS ?aL ?_; (case aP => exact k51_mkM _ _ _ (⟨t159, (rd l0_0 x4_1)⟩ : S51)); (case aB => exact (by repeat (first | (with_reducible first | exact HB.out | apply below_alloc | apply pw_below_drewN | apply below_drew1 | refine below_set ?_ GE157.out | refine below_set ?_ GE161.out) | exact HB.out))); (case aF => exact (fun k_ hk => ⟨Kd.fresh' (Kd.R_lt (by (with_reducible repeat (first | apply Kd.R_alloc | apply Kd.R_drewN | apply Kd.R_drew)); exact HO_3.out)) k_ hk, Kd.freshB (g := gb161) (o := .cells #[.int .u64 t159, .int .i64 (rd l0_0 x4_1)] 51 (0, 0)) (by (with_reducible repeat (first | refine blk_drewN ?_ _ | refine blk_drew ?_ | refine blk_alloc ?_ _)); exact BK161.out) k_ hk⟩)); (case aO => exact (by (with_reducible repeat (first | apply Kd.R_alloc | apply Kd.R_drewN | apply Kd.R_drew)); exact HO188.out)); (case aS => exact (below_size (by repeat (first | (with_reducible first | exact HB.out | apply below_alloc | apply pw_below_drewN | apply below_drew1 | refine below_set ?_ GE157.out | refine below_set ?_ GE161.out) | exact HB.out)))); (case aL => have := LMc49.out; omega); intro v190 w60 ho hb hg hat; rw [← Ny189.out] at ho; have n0_ := Aside0.mk (Kd.R_after (ok := (fun k_ => k_ ≠ gb161)) (by (with_reducible repeat (first | apply Kd.R_alloc | apply Kd.R_drewN | apply Kd.R_drew)); exact HO_3.out) hg hat); have n1_ := Aside0.mk (blk_grown (g := gb157) (o := .cells #[.slice (some ad158) l0_0.length c0_0, .int .i64 a0_1, .int .i64 a0_2] 24 (0, 0)) (by (with_reducible repeat (first | refine blk_drewN ?_ _ | refine blk_drew ?_ | refine blk_alloc ?_ _)); exact BK157.out) hg (Kd.R_ne HO188.out BK157.out (by decide))); have n2_ := Aside0.mk (blk_grown (g := gb161) (o := .cells #[.int .u64 t159, .int .i64 (rd l0_0 x4_1)] 51 (0, 0)) (by (with_reducible repeat (first | refine blk_drewN ?_ _ | refine blk_drew ?_ | refine blk_alloc ?_ _)); exact BK161.out) hg (Kd.R_away HO188.out (fun _ hk => hk.2))); have n3_ := Aside0.mk (hb); have n4_ := Aside0.mk ((show Kd.C k51 w60 Ao54 y182.length y182 from by rw [Ny182.out]; exact Kd.C_take (m := (x7_3 : Int).toNat) ((Kd.R_reads' (Kd.R_after (ok := (fun k_ => k_ ≠ gb161)) (by (with_reducible repeat (first | apply Kd.R_alloc | apply Kd.R_drewN | apply Kd.R_drew)); exact HO_3.out) hg hat)).2.2) KL56.out)); have n5_ := Aside0.mk (ho); clear HO_3; clear BK157; clear BK161; clear HB; clear HR185; clear HO188; have HO_3 := n0_; have BK157 := n1_; have BK161 := n2_; have HB := n3_; have HR185 := n4_; have HO191 := n5_; clear n0_ n1_ n2_ n3_ n4_ n5_; clear ho hb hg hat; have q61 : (x7_3 : Int) ≤ ((x3_2.length : Int) : Int) := of_decide_eq_true (by first | (with_reducible assumption) | assumption); obtain ⟨i061, hi061, _, hsz61, _⟩ := info_parts info51; have hroom61 : x3_2.length ≤ co54 := (Kd.R_reads' HO_3.out).2.1; have hC61 : Kd.C k51 _ Ao54 x3_2.length x3_2 := (Kd.R_reads' HO_3.out).2.2; have q061 : (0 : Int) ≤ (x7_3 : Int) := of_decide_eq_true (by first | (with_reducible assumption) | assumption); have hcut61 := cut_from (P := Try.prog) 42 51 .i64 Try.underlying42 hi061 2 hsz61 Ao54 x3_2.length co54 x7_3 q061 q61; have hr61 := Kd.C_drop (m := (x7_3 : Int).toNat) (c := co54) hC61 (by omega) hroom61; obtain ⟨A61, hA61⟩ : ∃ A1, A1 = (if co54 = (x7_3 : Int).toNat then Ao54 else (Ao54 : Option Addr).map (·.add ((x7_3 : Int).toNat * 2))) := ⟨_, rfl⟩; obtain ⟨c61, hc61⟩ : ∃ c1, c1 = co54 - (x7_3 : Int).toNat := ⟨_, rfl⟩; have hy61 : y192.length = x3_2.length - (x7_3 : Int).toNat := (by rw [Ny192.out, List.length_drop] <;> omega); rw [show (x3_2).drop (x7_3 : Int).toNat = y192 from Ny192.out.symm] at hr61; replace hr61 : Kd.C k51 _ A61 y192.length y192 := (by rw [hA61]; exact hr61); rw [← hy61, ← hA61, ← hc61] at hcut61; have HR195 := Aside0.mk hr61; have HC195 := Aside0.mk (show y192.length ≤ c61 from by rw [hy61, hc61]; exact Nat.sub_le_sub_right hroom61 _); clear hr61 hC61 hroom61 hi061 hsz61 hc61; have KY61 := Aside0.mk hy61; have KA61 := Aside0.mk hA61; clear hy61 hA61; have KL61 := Aside0.mk (show (x7_3 : Int).toNat ≤ x3_2.length from by omega); replace q61 := eq_true q61) | ((with_reducible refine gate_builtin (b := .append) (xs := #[.tmp 70, .tmp 73]) rfl ?_); at_builtin; refine Kd.R_append_rows k51 (w0 := w) w.heap.size rfl (.tmp 70) (.tmp 73) 42 51 (.agg #[(.int .u64 0), (.int .i64 0)]) 16 rfl Try.underlying42 info51 rfl (by decide) (by omega) v190 y189 y192 _ _ _ (fun k_ => some k_ ≠ (.slice Ao54 x3_2.length co54 : Value).ownBlock ∧ k_ ≠ gb161) (fun _ => False) rfl rfl ?aO ?aR (fun _ _ h => h) (fun _ h => h.elim) ?aF ?aB ?aS ?aL ?_; (case aR => repeat (first | exact (by repeat (first | (with_reducible exact HR195.out) | (with_reducible refine Kd.C_alloc ?_ _) | (with_reducible refine Kd.C_drewN ?_ _) | (with_reducible refine Kd.C_drew ?_) | exact HR195.out)) | (with_reducible refine Kd.C_alloc ?_ _) | (with_reducible refine Kd.C_drewN ?_ _) | (with_reducible refine Kd.C_drew ?_))); (case aB => exact (by repeat (first | (with_reducible first | exact HB.out | apply below_alloc | apply pw_below_drewN | apply below_drew1 | refine below_set ?_ GE157.out | refine below_set ?_ GE161.out) | exact HB.out))); (case aF => exact (fun k_ hk => ⟨Kd.fresh' (Kd.R_lt (by (with_reducible repeat (first | apply Kd.R_alloc | apply Kd.R_drewN | apply Kd.R_drew)); exact HO_3.out)) k_ hk, Kd.freshB (g := gb161) (o := .cells #[.int .u64 t159, .int .i64 (rd l0_0 x4_1)] 51 (0, 0)) (by (with_reducible repeat (first | refine blk_drewN ?_ _ | refine blk_drew ?_ | refine blk_alloc ?_ _)); exact BK161.out) k_ hk⟩)); (case aO => exact (by (with_reducible repeat (first | apply Kd.R_alloc | apply Kd.R_drewN | apply Kd.R_drew)); exact HO191.out)); (case aS => exact (below_size (by repeat (first | (with_reducible first | exact HB.out | apply below_alloc | apply pw_below_drewN | apply below_drew1 | refine below_set ?_ GE157.out | refine below_set ?_ GE161.out) | exact HB.out)))); (case aL => have := LMc52.out; omega); intro v197 w62 ho hb hg hat; rw [← Ny196.out] at ho; have n0_ := Aside0.mk (Kd.R_after (ok := (fun k_ => k_ ≠ gb161)) (by (with_reducible repeat (first | apply Kd.R_alloc | apply Kd.R_drewN | apply Kd.R_drew)); exact HO_3.out) hg hat); have n1_ := Aside0.mk (blk_grown (g := gb157) (o := .cells #[.slice (some ad158) l0_0.length c0_0, .int .i64 a0_1, .int .i64 a0_2] 24 (0, 0)) (by (with_reducible repeat (first | refine blk_drewN ?_ _ | refine blk_drew ?_ | refine blk_alloc ?_ _)); exact BK157.out) hg (Kd.R_ne HO191.out BK157.out (by decide))); have n2_ := Aside0.mk (blk_grown (g := gb161) (o := .cells #[.int .u64 t159, .int .i64 (rd l0_0 x4_1)] 51 (0, 0)) (by (with_reducible repeat (first | refine blk_drewN ?_ _ | refine blk_drew ?_ | refine blk_alloc ?_ _)); exact BK161.out) hg (Kd.R_away HO191.out (fun _ hk => hk.2))); have n3_ := Aside0.mk (hb); have n4_ := Aside0.mk ((show Kd.C k51 w62 Ao54 y182.length y182 from by rw [Ny182.out]; exact Kd.C_take (m := (x7_3 : Int).toNat) ((Kd.R_reads' (Kd.R_after (ok := (fun k_ => k_ ≠ gb161)) (by (with_reducible repeat (first | apply Kd.R_alloc | apply Kd.R_drewN | apply Kd.R_drew)); exact HO_3.out) hg hat)).2.2) KL56.out)); have n5_ := Aside0.mk ((show Kd.C k51 w62 A61 y192.length y192 from by rw [Ny192.out, KA61.out]; exact Kd.C_drop (m := (x7_3 : Int).toNat) (c := co54) ((Kd.R_reads' (Kd.R_after (ok := (fun k_ => k_ ≠ gb161)) (by (with_reducible repeat (first | apply Kd.R_alloc | apply Kd.R_drewN | apply Kd.R_drew)); exact HO_3.out) hg hat)).2.2) KL61.out ((Kd.R_reads' (Kd.R_after (ok := (fun k_ => k_ ≠ gb161)) (by (with_reducible repeat (first | apply Kd.R_alloc | apply Kd.R_drewN | apply Kd.R_drew)); exact HO_3.out) hg hat)).2.1))); have n6_ := Aside0.mk (ho); clear HO_3; clear BK157; clear BK161; clear HB; clear HR185; clear HR195; clear HO191; have HO_3 := n0_; have BK157 := n1_; have BK161 := n2_; have HB := n3_; have HR185 := n4_; have HR195 := n5_; have HO198 := n6_; clear n0_ n1_ n2_ n3_ n4_ n5_ n6_; clear ho hb hg hat))
                                  go_roundg k3
                                  case measure => have := HK1.out; have := HK2.out; have := HK3.out; omega
                                  case rel => exact ⟨(y196), (wrap64 (x5_2 + 1)), (by first | rfl | (simp; done) | (simp [*]; done)), H', ⟨by have := HK1.out; have := HK2.out; have := HK3.out; omega⟩, ⟨by (with_reducible repeat (first | apply Kd.R_alloc | apply Kd.R_drewN | apply Kd.R_drew)); exact Kd.R_mono HO198.out (fun _ hk => trivial)⟩, ⟨by (with_reducible repeat (first | refine blk_drewN ?_ _ | refine blk_drew ?_ | refine blk_alloc ?_ _)); exact BK157.out⟩, ⟨by repeat (first | (with_reducible first | exact HB.out | apply below_alloc | apply pw_below_drewN | apply below_drew1 | refine below_set ?_ GE157.out | refine below_set ?_ GE161.out) | exact HB.out)⟩⟩
                                · rw [if_neg c52] at H
                                  exact absurd H (by simp)
                              · rw [if_neg c49] at H
                                exact absurd H (by simp)
                            · rw [if_neg c48] at H
                              exact absurd H (by simp)
                          · rw [if_neg c47] at H
                            exact absurd H (by simp)
                        · rw [if_neg c46] at H
                          exact absurd H (by simp)
                · rw [if_neg c7] at H
                  exact absurd H (by simp)
              · rw [if_neg c6] at H
                exact absurd H (by simp)
            · rw [if_neg c5] at H
              have c5b0 : decide (x5_2 < a0_1) = false := decide_eq_false c5
              clear c5
              have H' := Aside0.mk H
              clear H
              have hcz63_0 : wr.cell? ⟨gb157, 0, none⟩ = some (.slice A0_0 l0_0.length c0_0) := (blk_cell BK157.out 0).trans rfl
              have hcz63_1 : wr.cell? ⟨gb157, 1, none⟩ = some (.int .i64 a0_1) := (blk_cell BK157.out 1).trans rfl
              have hcz63_2 : wr.cell? ⟨gb157, 2, none⟩ = some (.int .i64 a0_2) := (blk_cell BK157.out 2).trans rfl
              have hfz63_0 := blk_frozen BK157.out 0
              have hfz63_1 := blk_frozen BK157.out 1
              have hfz63_2 := blk_frozen BK157.out 2
              go_wp2
              go_roundg k2
              case measure => have := HK1.out; have := HK2.out; omega
              case rel => exact ⟨(x3_2), (wrap64 (x4_1 + 1)), (by first | rfl | (simp; done) | (simp [*]; done)), H', ⟨by have := HK1.out; have := HK2.out; omega⟩, ⟨by (with_reducible repeat (first | apply Kd.R_alloc | apply Kd.R_drewN | apply Kd.R_drew)); exact HO_3.out⟩, ⟨by (with_reducible repeat (first | refine blk_drewN ?_ _ | refine blk_drew ?_ | refine blk_alloc ?_ _)); exact BK157.out⟩, ⟨by repeat (first | (with_reducible first | exact HB.out | apply below_alloc | apply pw_below_drewN | apply below_drew1 | refine below_set ?_ GE157.out) | exact HB.out)⟩⟩
      · rw [if_neg c3] at H
        have c3b0 : decide (x4_1 < (l0_0.length : Int)) = false := decide_eq_false c3
        clear c3
        obtain rfl := Option.some.inj H
        have hcz64_0 : wr.cell? ⟨gb157, 0, none⟩ = some (.slice A0_0 l0_0.length c0_0) := (blk_cell BK157.out 0).trans rfl
        have hcz64_1 : wr.cell? ⟨gb157, 1, none⟩ = some (.int .i64 a0_1) := (blk_cell BK157.out 1).trans rfl
        have hcz64_2 : wr.cell? ⟨gb157, 2, none⟩ = some (.int .i64 a0_2) := (blk_cell BK157.out 2).trans rfl
        have hfz64_0 := blk_frozen BK157.out 0
        have hfz64_1 := blk_frozen BK157.out 1
        have hfz64_2 := blk_frozen BK157.out 2
        go_wp2
        go_ret
        exact ⟨_, by first | rfl | (simp [errW_none, errW_some] <;> rfl) | (simp [*, errW_none, errW_some] <;> rfl), by (with_reducible repeat (first | apply Kd.R_alloc | apply Kd.R_drewN | apply Kd.R_drew)); exact HO_3.out, by repeat (first | (with_reducible first | exact HB.out | apply below_alloc | apply pw_below_drewN | apply below_drew1 | refine below_set ?_ GE157.out) | exact HB.out)⟩
end Go.Proofs.Ytdfjeanlhafipaa.QH
