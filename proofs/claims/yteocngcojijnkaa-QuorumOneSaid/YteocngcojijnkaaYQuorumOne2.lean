/- The contract of ring.meet: the nodes in their order from a place on, each once. Conditions: points that are read, a place among them. · Points of rings and who keeps a word, plain. No program. Conditions: none. · Who keeps a word, plain: what ring.At comes to. Conditions: a ring that may be. · The reference's words of points and keys are the program's. Plain. Conditions: none. · The reference's points are the program's. Plain. Conditions: a ring that may be. · Is a number among some: plain. Conditions: none. · Who keeps a word: the reference's answer is the program's. Plain. Conditions: a ring that may be. · Written by a program of this session over the kit's print: functions and their contracts. · Written by a program of this session over the kit's print: functions and their contracts. · Written by a program of this session over the kit's print: functions and their contracts. · The lists of those who keep each point: the program's, the reference's, and whether they are the same. Plain. Conditions: a ring that may be. · Written by a program of this session over the kit's print: functions and their contracts. · Written by a program of this session over the kit's print: functions and their contracts. · Written by a program of this session over the kit's print: functions and their contracts. · The closure of quorum.Common, and the library's functions over it. · slices.IndexFunc over the closure of quorum.Common. · slices.DeleteFunc over the closure of quorum.Common, on a row of the call's own. · quorum.Common: what is in both. · Written by a program of this session over the kit's print: functions and their contracts. · Written by a program of this session over the kit's print: functions and their contracts. · Written by a program of this session over the kit's print: functions and their contracts. · Lists without repeats, what is in both of two, and majorities: plain. And what quorum's functions come to. · The contract of icehouselaw10.known: it returns true. Conditions: none. · Counts of nodes, plain, and the contracts of quorum.Count's methods. Conditions: a count that quorum.New has made. · Contracts of slices.Clone at ints and of quorum.New. Condition: a list that fits in memory. · Contracts of the closure of quorum.Covers and of the library's search over it. Conditions: rows that are read; lists that fit in memory. · slices.IndexFunc and DeleteFunc over the closure of quorum.Lost, on a row of the call's own (printed by genJ2.py out of C2 and C3). · Contracts of quorum.Covers and quorum.Lost over what ring.Lists returns. Conditions: lists that fit in memory. · Contracts of quorum.Covers and quorum.Lost in the print's form. Conditions: none beyond what .f asks. · Written by a program of this session over the kit's print: functions and their contracts. · Written by a program of this session over the kit's print: functions and their contracts. · Written by a program of this session over the kit's print: functions and their contracts. · Written by a program of this session over the kit's print: functions and their contracts. · Written by a program of this session over the kit's print: functions and their contracts. -/
import Derived.Test.YteocngcojijnkaaYQuorumOne1
import Derived.Lib.Hide
import Derived.Laws.BitsAllLaws
import Derived.Test.YteocngcojijnkaaProg
import Derived.Below
import Derived.Deep.Draws
import Derived.Deep.AppendLies
import Derived.Maps.AppendAt
import Derived.OwnWalk
import Derived.Laws.BytesArg
import Derived.Laws.MakeOwn
import Derived.Laws.OwnMore
import Derived.Deep.OwnRows
import Derived.Tactics
import Derived.Lib.ConvBytes
import Derived.Laws.Slices
import Derived.WalkKit
import Derived.KernelRfl
import Derived.RowKit3
import Derived.Deep.LoopGhost
import Derived.Deep.QuietTactic
import Derived.BigQuiet
import Derived.WideLaws
import Derived.Deep.DeepCutAuto
import Derived.Deep.CutBlock
import Derived.Deep.RegionHeld3
import Derived.Laws.Rows
import Derived.Lib.AppendStr
import Derived.ArgAppend
import Derived.Laws.IdiomCopy
import Derived.OrdersHeld
import Derived.Laws.BitsLemmas
import Derived.RowKit
import Derived.Test.YteocngcojijnkaaYQuorumOne0
import Derived.Test.YteocngcojijnkaaRows
import Derived.ProofKit
import Derived.OpenShut
import Derived.WalkLawsBesides
import Derived.Lib.SliceRun
import Derived.Deep.RegionLaw

namespace Go.Proofs.Yteocngcojijnkaa.Hs
open Go.ChangeShapes Go.WideShapes Go.ChangeAt Go.RowKit Go.Proofs.Yteocngcojijnkaa.QH Go.Proofs.Yteocngcojijnkaa.Lex
open Go.Proofs.YteocngcojijnkaaW.PrintWords Go.Proofs.YteocngcojijnkaaW.PrintLast Go.Proofs.YteocngcojijnkaaW.PrintMore
set_option linter.unusedVariables false
set_option linter.unusedSimpArgs false
theorem w_succ (i : Nat) (h : i < 9223372036854775807) : wrap64 ((i : Int) + 1) = ((i + 1 : Nat) : Int) := by unfold wrap64; omega
theorem index_l0 (l : List Int) (x : Int) (hl : l.length ≤ 9223372036854775807) : ∀ (n i : Nat), l.length - i = n → i ≤ l.length →
    ∃ r, Since (fun k => slices_Index_int_int.l0 k l x (l.length : Int) (i : Int)) r ∧ (r ≥ 0 ↔ x ∈ l.drop i) := by
  intro n
  induction n with
  | zero =>
    intro i hn hi
    have hf : ¬ ((i : Int) < (l.length : Int)) := by omega
    exact ⟨-1, Since.none fun k => by simp only [slices_Index_int_int.l0, if_neg hf], by rw [List.drop_eq_nil_of_le (by omega)]; simp⟩
  | succ n ih =>
    intro i hn hi
    have h1 : i < l.length := by omega
    have f1 : (i : Int) < (l.length : Int) := by omega
    have f0 : (0 : Int) ≤ (i : Int) := by omega
    have r1 : rd l (i : Int) = l[i] := by simp [rd, h1]
    obtain ⟨r, hr, hm⟩ := ih (i + 1) (by omega) (by omega)
    have d := List.drop_eq_getElem_cons h1
    by_cases he : x = l[i]
    · exact ⟨i, Since.none fun k => by simp only [slices_Index_int_int.l0, if_pos f1, if_pos f0, r1, if_pos he], by rw [d, ← he]; simp⟩
    · refine ⟨r, Since.one hr fun k h => ?_, by rw [hm, d, List.mem_cons]; simp [he]⟩
      simp only [slices_Index_int_int.l0, if_pos f1, if_pos f0, r1, if_neg he, w_succ i (by omega)]
      exact h
theorem contains_ev (l : List Int) (x : Int) (hl : l.length ≤ 9223372036854775807) : Since (fun k => slices_Contains_int_int.f k l x) (decide (x ∈ l)) := by
  obtain ⟨r, hr, hm⟩ := index_l0 l x hl _ 0 rfl (Nat.zero_le _)
  rw [List.drop_zero] at hm
  refine hr.map fun k h => ?_
  simp only [slices_Contains_int_int.f, slices_Index_int_int.f]
  rw [show slices_Index_int_int.l0 k l x (l.length : Int) 0 = some r from h, Option.bind_some]
  congr 1
  exact decide_eq_decide.2 hm
/-- the walk of meet: those found, those to come -/
def meetS (keep : Int) : List Int → List Int → List Int
  | acc, [] => acc
  | acc, x :: l => if x ∈ acc then meetS keep acc l else if (acc.length : Int) + 1 = keep then acc ++ [x] else meetS keep (acc ++ [x]) l
def rotL (l : List S70) (i : Nat) : List Int := (l.drop i ++ l.take i).map S70.f1
theorem rotL_len (l : List S70) (i : Nat) (hi : i ≤ l.length) : (rotL l i).length = l.length := by unfold rotL; rw [List.length_map, List.length_append, List.length_drop, List.length_take]; omega
theorem rotL_at (l : List S70) (i k : Nat) (hi : i < l.length) (hk : k < l.length) : (rotL l i)[k]'(by rw [rotL_len l i (by omega)]; exact hk) = (l[(i + k) % l.length]'(Nat.mod_lt _ (by omega))).f1 := by
  unfold rotL
  rw [List.getElem_map]
  congr 1
  by_cases h : k < l.length - i
  · rw [List.getElem_append_left (by rw [List.length_drop]; exact h), List.getElem_drop]
    congr 1
    exact (Nat.mod_eq_of_lt (by omega)).symm
  · rw [List.getElem_append_right (by rw [List.length_drop]; omega), List.getElem_take]
    congr 1
    rw [List.length_drop, show i + k = (k - (l.length - i)) + l.length from by omega, Nat.add_mod_right, Nat.mod_eq_of_lt (by omega)]
def ring_meet.f (l : List S70) (at_ keep : Int) : Option (List Int) := if 0 ≤ at_ ∧ at_ < (l.length : Int) ∧ l.length ≤ 17592186044000 then some (meetS keep [] (rotL l at_.toNat)) else none
set_option maxHeartbeats 4000000 in
set_option maxRecDepth 100000 in
theorem meet_ (A : Option Addr) (c : Nat) (l : List S70) (i : Nat) (keep : Int) (w : World) (hr : Kd.C k70 w A l.length l) (hc : l.length ≤ c) (hi : i < l.length) (hm : l.length ≤ 17592186044000) :
    Calls Try.prog 44 #[.slice A l.length c, .int .i64 i, .int .i64 keep] w fun e w' => ∃ v, e = .returned v ∧ Kd.R (Kd.int .i64) 3 w' w.heap.size (fun _ => True) v (meetS keep [] (rotL l i)) ∧ Below w.heap.size w w' := by
  have HR := Aside0.mk hr
  have HC := Aside0.mk hc
  have HL := Aside0.mk (rotL_len l i (by omega))
  clear hr hc
  go_enter Try.func44, Try.ntmps44
  go_wp2
  go_step3
  go_wp2
  go_step3
  go_wp2
  go_loopg [7, 12] l.length (fun q vo vk w' => ∃ (acc : List Int) (k d : Nat) (B : Option Addr), vo = .slice B acc.length d ∧ vk = .int .i64 k ∧ k ≤ l.length ∧ q = l.length - k ∧ acc.length ≤ k ∧ acc.length ≤ d ∧ Aside0 (meetS keep [] (rotL l i) = meetS keep acc ((rotL l i).drop k)) ∧ Aside0 (Kd.R (Kd.int .i64) 3 w' w.heap.size (fun _ => True) (.slice B acc.length d) acc) ∧ Aside0 (Below w.heap.size w w'))
  case atStart => exact ⟨[], 0, 0, none, rfl, rfl, Nat.zero_le _, rfl, Nat.le_refl _, Nat.le_refl _, ⟨rfl⟩, ⟨Kd.R_nil _ _ _ _ _⟩, ⟨Below.refl _ _⟩⟩
  case round =>
    obtain ⟨acc, k, d, B, rfl, rfl, hk, rfl, hak, hd, HS, HO, HB⟩ := hrel
    by_cases hlt : k < l.length
    · have t1 : decide ((k : Int) < (l.length : Int)) = true := decide_eq_true (by omega)
      have t2 : (0 : Int) < (l.length : Int) := by omega
      have t3 : 0 ≤ ((i : Int) + (k : Int)) % (l.length : Int) := Int.emod_nonneg _ (by omega)
      have t4 : ((i : Int) + (k : Int)) % (l.length : Int) < (l.length : Int) := Int.emod_lt_of_pos _ (by omega)
      obtain ⟨b, off, hA, hc1, hc2⟩ := C_pt (Kd.C_below HR.out HB.out) ((i + k) % l.length) (Nat.mod_lt _ (by omega))
      subst hA
      have hx0 := rotL_at l i k hi hlt
      have hdr : (rotL l i).drop k = (l[(i + k) % l.length]'(Nat.mod_lt _ (by omega))).f1 :: (rotL l i).drop (k + 1) := by
        rw [List.drop_eq_getElem_cons (by rw [HL.out]; exact hlt), hx0]
      obtain ⟨x, hx⟩ : ∃ x, (l[(i + k) % l.length]'(Nat.mod_lt _ (by omega))).f1 = x := ⟨_, rfl⟩
      rw [hx] at hc2 hdr
      have HDr := Aside0.mk hdr
      obtain ⟨K, hK⟩ := contains_ev acc x (by omega)
      have HK := Aside0.mk (hK K (Nat.le_refl K))
      clear hx hx0 hdr hc1 hK
      go_wp2_with fail
      (with_reducible refine (slices_Contains_int_int.calls K B d acc x _ _ (Kd.R_reads' HO.out).2.2 hd HK.out).mono ?_)
      rintro e w1 ⟨rfl, hdw⟩
      have HO := Aside0.mk (Kd.R_below HO.out hdw.below)
      have HB := Aside0.mk (below_then HB.out HB.out.size hdw.below)
      clear hdw hc2
      by_cases hin : x ∈ acc
      · have hdec : decide (x ∈ acc) = true := decide_eq_true hin
        have HS1 : Aside0 (meetS keep [] (rotL l i) = meetS keep acc ((rotL l i).drop (k + 1))) := ⟨by rw [HS.out, HDr.out]; unfold meetS; rw [if_pos hin]; cases (rotL l i).drop (k + 1) <;> rfl⟩
        rw [hdec]
        clear hdec hin
        go_wp2_with fail
        go_roundg (l.length - (k + 1))
        case measure => omega
        case rel => exact ⟨acc, k + 1, d, B, rfl, by go_num, hlt, rfl, by omega, hd, HS1, HO, HB⟩
      · have hdec : decide (x ∈ acc) = false := decide_eq_false hin
        rw [hdec]
        have hle : (acc.length + 1) * 8 ≤ 140737488355328 := by omega
        obtain ⟨acc1, hacc1⟩ : ∃ a, a = acc ++ [x] := ⟨_, rfl⟩
        have HA := Aside0.mk hacc1
        have hl1 : acc1.length = acc.length + 1 := by rw [hacc1, List.length_append]; rfl
        have HL1 := Aside0.mk hl1
        have HIN := Aside0.mk hin
        clear hdec hin hacc1 hl1
        go_wp2_with ((with_reducible refine gate_builtin (b := .append) (xs := #[.tmp 28, .tmp 30]) rfl ?_); at_builtin; refine Kd.R_append (Kd.int .i64) (w0 := w) w.heap.size rfl (.tmp 28) (.tmp 30) 22 3 (.int .i64 0) 8 rfl Try.underlying22 info3 rfl (by decide) (by omega) (.slice B acc.length d) acc x [.int .i64 x] (fun _ => True) (fun _ => False) rfl rfl rfl (fun _ hk => hk.elim) (fun _ _ => trivial) HO.out HB.out HB.out.size hle ?_; intro v2 w2 ho hb hg hat; rw [← HA.out] at ho; obtain ⟨B2, d2, hv2, hd2, _⟩ := Kd.R_reads ho; subst hv2; have HO2 := Aside0.mk ho; have HB2 := Aside0.mk hb; clear ho hb hg hat)
        · have hkp : ((acc1.length : Int) == keep) = true := by assumption
          have hkq : (acc.length : Int) + 1 = keep := by have := eq_of_beq hkp; have := HL1.out; omega
          have hS : meetS keep [] (rotL l i) = acc1 := by rw [HS.out, HDr.out]; unfold meetS; rw [if_neg HIN.out, if_pos hkq, HA.out]
          have HSS := Aside0.mk hS
          clear hkp hkq hS
          rw [Exit.noGoto_ret]
          go_ret
          exact ⟨_, rfl, by rw [HSS.out]; exact HO2.out, HB2.out⟩
        · have hkp : ((acc1.length : Int) == keep) = false := by assumption
          have hkq : ¬ ((acc.length : Int) + 1 = keep) := by have := ne_of_beq_false hkp; have := HL1.out; omega
          have hS : meetS keep [] (rotL l i) = meetS keep acc1 ((rotL l i).drop (k + 1)) := by rw [HS.out, HDr.out]; unfold meetS; rw [if_neg HIN.out, if_neg hkq, HA.out]; cases (rotL l i).drop (k + 1) <;> rfl
          have HSS := Aside0.mk hS
          have hl1 := HL1.out
          clear hkp hkq hS
          go_roundg (l.length - (k + 1))
          case measure => omega
          case rel => exact ⟨acc1, k + 1, d2, B2, rfl, by go_num, hlt, rfl, by omega, hd2, HSS, HO2, HB2⟩
    · obtain rfl : k = l.length := by omega
      have t1 : decide ((l.length : Int) < (l.length : Int)) = false := decide_eq_false (by omega)
      rw [List.drop_eq_nil_of_le (by rw [HL.out]; exact Nat.le_refl _)] at HS
      go_wp2_with fail
      rw [Exit.noGoto_ret]
      go_ret
      exact ⟨_, rfl, by rw [HS.out]; exact HO.out, HB.out⟩
theorem ring_meet.calls (A : Option Addr) (c : Nat) (l : List S70) (at_ keep : Int) (r : List Int) (w : World) (hr : Kd.C k70 w A l.length l) (hc : l.length ≤ c) (hf : ring_meet.f l at_ keep = some r) :
    Calls Try.prog 44 #[.slice A l.length c, .int .i64 at_, .int .i64 keep] w fun e w' => ∃ v0_ : Value, e = .returned (v0_) ∧ Kd.R (Kd.int .i64) 3 w' w.heap.size (fun _ => True) v0_ r ∧ Below w.heap.size w w' := by
  unfold ring_meet.f at hf
  split at hf
  · rename_i hh
    obtain ⟨h0, h1, hm⟩ := hh
    obtain ⟨i, rfl⟩ := Int.eq_ofNat_of_zero_le h0
    rw [← Option.some.inj hf]
    exact meet_ A c l i keep w hr hc (by omega) hm
  · cases hf
end Go.Proofs.Yteocngcojijnkaa.Hs
namespace Go.Proofs.Yteocngcojijnkaa.Rg
/-- a point: the word at which it stands, its node -/
abbrev Pt := Int × Int
def lt2 (p q : Pt) : Prop := p.1 < q.1 ∨ p.1 = q.1 ∧ p.2 < q.2
theorem lt2_irrefl (p : Pt) : ¬ lt2 p p := fun h => by
  rcases h with h | ⟨_, h⟩ <;> omega
theorem lt2_trans {p q r : Pt} (h : lt2 p q) (k : lt2 q r) : lt2 p r := by
  unfold lt2 at *
  omega
theorem lt2_asymm {p q : Pt} (h : lt2 p q) : ¬ lt2 q p := fun k => lt2_irrefl p (lt2_trans h k)
theorem lt2_total (p q : Pt) : lt2 p q ∨ p = q ∨ lt2 q p := by
  obtain ⟨a, b⟩ := p
  obtain ⟨c, d⟩ := q
  unfold lt2
  simp only [Prod.mk.injEq]
  omega
/-- rising, each once -/
def Srt (l : List Pt) : Prop := l.Pairwise lt2
theorem Srt.filter {l : List Pt} (h : Srt l) (p : Pt → Bool) : Srt (l.filter p) := List.Pairwise.filter p h
/-- two rising rows of the same points are one -/
theorem srt_unique : ∀ {l m : List Pt}, Srt l → Srt m → (∀ x, x ∈ l ↔ x ∈ m) → l = m
  | [], [], _, _, _ => rfl
  | [], y :: m, _, _, h => absurd ((h y).2 List.mem_cons_self) (by simp)
  | x :: l, [], _, _, h => absurd ((h x).1 List.mem_cons_self) (by simp)
  | x :: l, y :: m, hl, hm, h => by
    obtain ⟨h1, h2⟩ := List.pairwise_cons.1 hl
    obtain ⟨k1, k2⟩ := List.pairwise_cons.1 hm
    have hxy : x = y := by
      rcases List.mem_cons.1 ((h x).1 List.mem_cons_self) with e | e
      · exact e
      · rcases List.mem_cons.1 ((h y).2 List.mem_cons_self) with e' | e'
        · exact e'.symm
        · exact absurd (k1 x e) (lt2_asymm (h1 y e'))
    subst hxy
    rw [srt_unique h2 k2 (fun z => ?_)]
    constructor
    · intro hz
      rcases List.mem_cons.1 ((h z).1 (List.mem_cons_of_mem _ hz)) with e | e
      · subst e; exact absurd (h1 z hz) (lt2_irrefl z)
      · exact e
    · intro hz
      rcases List.mem_cons.1 ((h z).2 (List.mem_cons_of_mem _ hz)) with e | e
      · subst e; exact absurd (k1 z hz) (lt2_irrefl z)
      · exact e
/-- from a word on, and round -/
def rotH (l : List Pt) (h : Int) : List Pt := l.filter (fun p => decide (h ≤ p.1)) ++ l.filter (fun p => !decide (h ≤ p.1))
/-- each once, where it came first -/
def dd : List Int → List Int
  | [] => []
  | x :: l => x :: (dd l).filter (fun y => decide (y ≠ x))
theorem dd_mem : ∀ (l : List Int) (x : Int), x ∈ dd l ↔ x ∈ l
  | [], x => Iff.rfl
  | y :: l, x => by
    show x ∈ y :: (dd l).filter _ ↔ x ∈ y :: l
    simp only [List.mem_cons, List.mem_filter, decide_eq_true_iff, dd_mem l x]
    constructor
    · rintro (h | ⟨h, _⟩)
      · exact .inl h
      · exact .inr h
    · rintro (h | h)
      · exact .inl h
      · by_cases e : x = y
        · exact .inl e
        · exact .inr ⟨h, e⟩
theorem dd_nodup : ∀ l : List Int, (dd l).Nodup
  | [] => List.nodup_nil
  | x :: l => by
    show (x :: (dd l).filter _).Nodup
    rw [List.nodup_cons]
    exact ⟨fun h => by have := (List.mem_filter.1 h).2; simp at this, (dd_nodup l).filter _⟩
/-- the nodes in their order from a word on -/
def ord (l : List Pt) (h : Int) : List Int := dd ((rotH l h).map Prod.snd)
theorem dd_snoc : ∀ (l : List Int) (x : Int), dd (l ++ [x]) = if x ∈ l then dd l else dd l ++ [x]
  | [], x => by simp [dd]
  | y :: l, x => by
    show y :: (dd (l ++ [x])).filter _ = _
    rw [dd_snoc l x]
    by_cases h : x ∈ l
    · rw [if_pos h, if_pos (List.mem_cons_of_mem _ h)]; rfl
    · rw [if_neg h, List.filter_append]
      by_cases e : x = y
      · subst e
        have hf : [x].filter (fun y => decide (y ≠ x)) = [] := by simp
        rw [if_pos List.mem_cons_self, hf, List.append_nil]
        rfl
      · have hf : [x].filter (fun z => decide (z ≠ y)) = [x] := by simp [e]
        rw [if_neg (by simp [e, h]), hf]
        rfl
/-- of a rising row, those below a word stand ahead of the others -/
theorem srt_split (h : Int) : ∀ {l : List Pt}, Srt l → l.filter (fun p => !decide (h ≤ p.1)) ++ l.filter (fun p => decide (h ≤ p.1)) = l
  | [], _ => rfl
  | x :: l, hl => by
    obtain ⟨h1, h2⟩ := List.pairwise_cons.1 hl
    by_cases hx : h ≤ x.1
    · have hall : ∀ y ∈ l, h ≤ y.1 := fun y hy => by
        have := h1 y hy
        unfold lt2 at this
        omega
      have e1 : l.filter (fun p => !decide (h ≤ p.1)) = [] := List.filter_eq_nil_iff.2 (fun y hy => by simp [hall y hy])
      have e2 : l.filter (fun p => decide (h ≤ p.1)) = l := List.filter_eq_self.2 (fun y hy => by simp [hall y hy])
      rw [List.filter_cons_of_neg (by simp [hx]), List.filter_cons_of_pos (by simp [hx]), e1, e2]
      rfl
    · rw [List.filter_cons_of_pos (by simp [hx]), List.filter_cons_of_neg (by simp [hx]), List.cons_append, srt_split h h2]
/-- how many points stand below a word -/
def low (l : List Pt) (h : Int) : Nat := (l.filter (fun p => !decide (h ≤ p.1))).length
theorem rotH_at {l : List Pt} (hl : Srt l) (h : Int) : rotH l h = l.drop (low l h) ++ l.take (low l h) := by
  have e := srt_split h hl
  have hd : l.drop (low l h) = l.filter (fun p => decide (h ≤ p.1)) := by
    have : (l.filter (fun p => !decide (h ≤ p.1)) ++ l.filter (fun p => decide (h ≤ p.1))).drop (low l h) = l.filter (fun p => decide (h ≤ p.1)) := by unfold low; exact List.drop_left
    rwa [e] at this
  have ht : l.take (low l h) = l.filter (fun p => !decide (h ≤ p.1)) := by
    have : (l.filter (fun p => !decide (h ≤ p.1)) ++ l.filter (fun p => decide (h ≤ p.1))).take (low l h) = l.filter (fun p => !decide (h ≤ p.1)) := by unfold low; exact List.take_left
    rwa [e] at this
  unfold rotH
  rw [hd, ht]
theorem low_le (l : List Pt) (h : Int) : low l h ≤ l.length := List.length_filter_le _ _
/-- the place from which a word is kept, as the program reckons it -/
theorem rotH_mod {l : List Pt} (hl : Srt l) (h : Int) : rotH l h = l.drop (low l h % l.length) ++ l.take (low l h % l.length) := by
  rw [rotH_at hl]
  rcases Nat.lt_or_ge (low l h) l.length with hlt | hge
  · rw [Nat.mod_eq_of_lt hlt]
  · have : low l h = l.length := Nat.le_antisymm (low_le l h) hge
    rw [this, Nat.mod_self]
    simp
theorem dd_pre : ∀ (b a : List Int), ∃ t, dd (a ++ b) = dd a ++ t
  | [], a => ⟨[], by simp⟩
  | x :: b, a => by
    obtain ⟨t, ht⟩ := dd_pre b (a ++ [x])
    rw [List.append_assoc] at ht
    rw [dd_snoc] at ht
    by_cases h : x ∈ a
    · rw [if_pos h] at ht; exact ⟨t, ht⟩
    · rw [if_neg h, List.append_assoc] at ht; exact ⟨x :: t, ht⟩
/-- the walk of meet: those found, those to come -/
def meetS (keep : Nat) : List Int → List Int → List Int
  | acc, [] => acc
  | acc, x :: l => if x ∈ acc then meetS keep acc l else if acc.length + 1 = keep then acc ++ [x] else meetS keep (acc ++ [x]) l
theorem meetS_eq (keep : Nat) : ∀ (l pre : List Int), (dd pre).length < keep → meetS keep (dd pre) l = (dd (pre ++ l)).take keep
  | [], pre, h => by
    rw [List.append_nil]
    exact (List.take_of_length_le (Nat.le_of_lt h)).symm
  | x :: l, pre, h => by
    have e : pre ++ x :: l = (pre ++ [x]) ++ l := by simp
    unfold meetS
    by_cases hx : x ∈ pre
    · have hd : dd (pre ++ [x]) = dd pre := by rw [dd_snoc, if_pos hx]
      rw [if_pos ((dd_mem pre x).2 hx), e, ← meetS_eq keep l (pre ++ [x]) (by rw [hd]; exact h), hd]
    · have hd : dd (pre ++ [x]) = dd pre ++ [x] := by rw [dd_snoc, if_neg hx]
      rw [if_neg (fun h' => hx ((dd_mem pre x).1 h'))]
      by_cases hk : (dd pre).length + 1 = keep
      · obtain ⟨t, ht⟩ := dd_pre l (pre ++ [x])
        rw [if_pos hk, e, ht, hd, List.take_append_of_le_length (by rw [List.length_append]; simp; omega), List.take_of_length_le (by rw [List.length_append]; simp; omega)]
      · rw [if_neg hk, e, ← meetS_eq keep l (pre ++ [x]) (by rw [hd, List.length_append]; simp; omega), hd]
theorem meetS_all {keep : Nat} (hk : 0 < keep) (l : List Int) : meetS keep [] l = (dd l).take keep := meetS_eq keep l [] hk
/-- who keeps a word -/
def keepers (l : List Pt) (h : Int) (keep : Nat) : List Int := (ord l h).take keep
/-! the points of a ring -/
instance (p q : Pt) : Decidable (lt2 p q) := by unfold lt2; infer_instance
/-- laid at its place -/
def ins (p : Pt) : List Pt → List Pt
  | [] => [p]
  | x :: l => if lt2 x p then x :: ins p l else if x = p then x :: l else p :: x :: l
theorem ins_mem (p : Pt) : ∀ (l : List Pt) (y : Pt), y ∈ ins p l ↔ y = p ∨ y ∈ l
  | [], y => by simp [ins]
  | x :: l, y => by
    unfold ins
    by_cases h : lt2 x p
    · rw [if_pos h, List.mem_cons, ins_mem p l y, List.mem_cons]
      constructor
      · rintro (h | h | h)
        · exact .inr (.inl h)
        · exact .inl h
        · exact .inr (.inr h)
      · rintro (h | h | h)
        · exact .inr (.inl h)
        · exact .inl h
        · exact .inr (.inr h)
    · rw [if_neg h]
      by_cases e : x = p
      · rw [if_pos e]
        constructor
        · exact .inr
        · rintro (h | h)
          · rw [h, ← e]; exact List.mem_cons_self
          · exact h
      · rw [if_neg e, List.mem_cons]
theorem ins_srt (p : Pt) : ∀ {l : List Pt}, Srt l → Srt (ins p l)
  | [], _ => List.pairwise_singleton _ _
  | x :: l, h => by
    obtain ⟨h1, h2⟩ := List.pairwise_cons.1 h
    unfold ins
    by_cases hx : lt2 x p
    · rw [if_pos hx]
      refine List.pairwise_cons.2 ⟨fun y hy => ?_, ins_srt p h2⟩
      rcases (ins_mem p l y).1 hy with rfl | hy
      · exact hx
      · exact h1 y hy
    · rw [if_neg hx]
      by_cases e : x = p
      · rw [if_pos e]; exact h
      · rw [if_neg e]
        have hp : lt2 p x := by
          rcases lt2_total x p with h | h | h
          · exact absurd h hx
          · exact absurd h e
          · exact h
        refine List.pairwise_cons.2 ⟨fun y hy => ?_, h⟩
        rcases List.mem_cons.1 hy with rfl | hy
        · exact hp
        · exact lt2_trans hp (h1 y hy)
def pts (raw : List Pt) : List Pt := raw.foldl (fun acc p => ins p acc) []
theorem fold_ins : ∀ (raw acc : List Pt), Srt acc → Srt (raw.foldl (fun acc p => ins p acc) acc) ∧ ∀ y, y ∈ raw.foldl (fun acc p => ins p acc) acc ↔ y ∈ raw ∨ y ∈ acc
  | [], acc, h => ⟨h, fun y => by simp⟩
  | x :: raw, acc, h => by
    obtain ⟨h1, h2⟩ := fold_ins raw (ins x acc) (ins_srt x h)
    refine ⟨h1, fun y => (h2 y).trans ?_⟩
    rw [ins_mem, List.mem_cons]
    constructor
    · rintro (h | h | h)
      · exact .inl (.inr h)
      · exact .inl (.inl h)
      · exact .inr h
    · rintro ((h | h) | h)
      · exact .inr (.inl h)
      · exact .inl h
      · exact .inr (.inr h)
theorem pts_srt (raw : List Pt) : Srt (pts raw) := (fold_ins raw [] List.Pairwise.nil).1
theorem pts_mem (raw : List Pt) (y : Pt) : y ∈ pts raw ↔ y ∈ raw := ((fold_ins raw [] List.Pairwise.nil).2 y).trans (by simp)
/-- neighbours that are one struck, as slices.Compact does -/
def comp : List Pt → List Pt
  | [] => []
  | [x] => [x]
  | x :: y :: l => if x = y then comp (y :: l) else x :: comp (y :: l)
theorem comp_mem : ∀ (l : List Pt) (z : Pt), z ∈ comp l ↔ z ∈ l
  | [], z => Iff.rfl
  | [x], z => Iff.rfl
  | x :: y :: l, z => by
    unfold comp
    by_cases h : x = y
    · subst h
      rw [if_pos rfl, comp_mem (x :: l) z]
      simp
    · rw [if_neg h, List.mem_cons, comp_mem (y :: l) z, List.mem_cons (a := z) (b := x)]
def le2 (p q : Pt) : Prop := p = q ∨ lt2 p q
theorem comp_srt : ∀ {l : List Pt}, l.Pairwise le2 → Srt (comp l)
  | [], _ => List.Pairwise.nil
  | [x], _ => List.pairwise_singleton _ _
  | x :: y :: l, h => by
    obtain ⟨h1, h2⟩ := List.pairwise_cons.1 h
    unfold comp
    by_cases e : x = y
    · rw [if_pos e]; exact comp_srt h2
    · rw [if_neg e]
      refine List.pairwise_cons.2 ⟨fun z hz => ?_, comp_srt h2⟩
      have hxy : lt2 x y := (h1 y List.mem_cons_self).resolve_left e
      rcases List.mem_cons.1 ((comp_mem (y :: l) z).1 hz) with rfl | hz
      · exact hxy
      · rcases (List.pairwise_cons.1 h2).1 z hz with rfl | h3
        · exact hxy
        · exact lt2_trans hxy h3
/-- sorted, and doubles struck: the points -/
theorem comp_pts {raw l : List Pt} (hs : l.Pairwise le2) (hm : ∀ x, x ∈ l ↔ x ∈ raw) : comp l = pts raw :=
  srt_unique (comp_srt hs) (pts_srt raw) (fun x => ((comp_mem l x).trans (hm x)).trans (pts_mem raw x).symm)
end Go.Proofs.Yteocngcojijnkaa.Rg
namespace Go.Proofs.Yteocngcojijnkaa.Hs
open Go.RowKit Go.Proofs.Yteocngcojijnkaa.QH Go.Proofs.Yteocngcojijnkaa.Lex Go.Proofs.Yteocngcojijnkaa.Rg
open Go.Proofs.YteocngcojijnkaaW.PrintWords Go.Proofs.YteocngcojijnkaaW.PrintLast Go.Proofs.YteocngcojijnkaaW.PrintMore
set_option linter.unusedVariables false
set_option linter.unusedSimpArgs false
def toPt (p : S70) : Pt := (p.f0, p.f1)
theorem toPt_inj {p q : S70} (h : toPt p = toPt q) : p = q := by
  obtain ⟨a, b⟩ := p
  obtain ⟨c, d⟩ := q
  unfold toPt at h
  injection h with h1 h2
  simp only at h1 h2
  rw [h1, h2]
theorem compP_map : ∀ l : List S70, (compP l).map toPt = comp (l.map toPt)
  | [] => rfl
  | [x] => rfl
  | x :: y :: l => by
    have ih := compP_map (y :: l)
    show (if x = y then compP (y :: l) else x :: compP (y :: l)).map toPt = if toPt x = toPt y then comp ((y :: l).map toPt) else toPt x :: comp ((y :: l).map toPt)
    by_cases h : x = y
    · rw [if_pos h, if_pos (congrArg toPt h), ih]
    · rw [if_neg h, if_neg (fun e => h (toPt_inj e)), List.map_cons, ih]
theorem sortP_le (l : List S70) : ((sortP l).map toPt).Pairwise le2 := by
  have h : (sortP l).Pairwise (fun x y => (!(ltOf cfP) y x) = true) := by
    unfold sortP
    refine List.pairwise_mergeSort (le := fun x y => !(ltOf cfP) y x) (fun a b c h1 h2 => ?_) (fun a b => ?_) l
    · simp only [Bool.not_eq_true', ltP_false] at h1 h2 ⊢
      omega
    · rcases hc : ltOf cfP b a with _ | _
      · simp
      · have := (ltP_true b a).1 hc
        have h2 : ltOf cfP a b = false := (ltP_false a b).2 (by omega)
        simp [h2]
  rw [List.pairwise_map]
  refine h.imp (fun {a b} hab => ?_)
  have := (ltP_false b a).1 (by simpa using hab)
  unfold le2 lt2 toPt
  simp only [Prod.mk.injEq]
  omega
theorem sortP_mem (l : List S70) (x : S70) : x ∈ sortP l ↔ x ∈ l := (List.mergeSort_perm l _).mem_iff
/-- the points of a ring, plain -/
def ptsR (l : List Int) (each : Int) : List Pt := pts ((rawP l each).map toPt)
theorem ptsP_map (l : List Int) (each : Int) : (ptsP l each).map toPt = ptsR l each := by
  unfold ptsP ptsR
  rw [compP_map]
  refine comp_pts (sortP_le _) (fun x => ?_)
  simp only [List.mem_map, sortP_mem]
theorem ptsR_srt (l : List Int) (each : Int) : Srt (ptsR l each) := pts_srt _
theorem ptsP_len (l : List Int) (each : Int) : (ptsP l each).length = (ptsR l each).length := by rw [← ptsP_map, List.length_map]
theorem compP_len : ∀ l : List S70, (compP l).length ≤ l.length
  | [] => Nat.le_refl _
  | [x] => Nat.le_refl _
  | x :: y :: l => by
    have ih := compP_len (y :: l)
    show (if x = y then compP (y :: l) else x :: compP (y :: l)).length ≤ _
    split
    · rw [List.length_cons]; omega
    · rw [List.length_cons, List.length_cons]; omega
theorem mem_rawP (l : List Int) (each : Int) (p : S70) : p ∈ rawP l each ↔ ∃ n ∈ l, ∃ j : Nat, j < each.toNat ∧ p = ⟨ptH n (j : Int), n⟩ := by
  unfold rawP rowP
  simp only [List.mem_flatMap, List.mem_map, List.mem_range]
  constructor
  · rintro ⟨n, hn, j, hj, rfl⟩; exact ⟨n, hn, j, hj, rfl⟩
  · rintro ⟨n, hn, j, hj, rfl⟩; exact ⟨n, hn, j, hj, rfl⟩
theorem mem_ptsR (l : List Int) (each : Int) (p : Pt) : p ∈ ptsR l each ↔ ∃ n ∈ l, ∃ j : Nat, j < each.toNat ∧ p = (ptH n (j : Int), n) := by
  unfold ptsR
  rw [pts_mem, List.mem_map]
  constructor
  · rintro ⟨q, hq, rfl⟩
    obtain ⟨n, hn, j, hj, rfl⟩ := (mem_rawP l each q).1 hq
    exact ⟨n, hn, j, hj, rfl⟩
  · rintro ⟨n, hn, j, hj, rfl⟩
    exact ⟨_, (mem_rawP l each _).2 ⟨n, hn, j, hj, rfl⟩, rfl⟩
theorem ptsR_pos {l : List Int} {each : Int} (h : 0 < l.length) (he : 1 ≤ each) : 0 < (ptsR l each).length := by
  obtain ⟨n, hn⟩ := List.exists_mem_of_length_pos h
  exact List.length_pos_of_mem ((mem_ptsR l each _).2 ⟨n, hn, 0, by omega, rfl⟩)
/-- where a word begins: those below it, in a rising row -/
theorem tw_low : ∀ {l : List Pt} {h : Int}, Srt l → (l.takeWhile fun p => decide (p.1 < h)).length = low l h
  | [], h, _ => rfl
  | x :: l, h, hs => by
    obtain ⟨h1, h2⟩ := List.pairwise_cons.1 hs
    unfold low
    by_cases hx : x.1 < h
    · rw [List.takeWhile_cons_of_pos (by simpa using hx), List.filter_cons_of_pos (by simp; omega), List.length_cons, List.length_cons, tw_low h2]
      rfl
    · have hall : l.filter (fun p => !decide (h ≤ p.1)) = [] := List.filter_eq_nil_iff.2 (fun y hy => by
        have := h1 y hy
        unfold lt2 at this
        simp; omega)
      rw [List.takeWhile_cons_of_neg (by simpa using hx), List.filter_cons_of_neg (by simp; omega), hall]
theorem tw_map (h : Int) : ∀ l : List S70, (l.takeWhile fun p => decide (p.f0 < h)).length = ((l.map toPt).takeWhile fun p => decide (p.1 < h)).length
  | [] => rfl
  | x :: l => by
    have ih := tw_map h l
    rw [List.map_cons]
    by_cases hx : x.f0 < h
    · rw [List.takeWhile_cons_of_pos (by simpa using hx), List.takeWhile_cons_of_pos (by unfold toPt; simpa using hx), List.length_cons, List.length_cons, ih]
    · rw [List.takeWhile_cons_of_neg (by simpa using hx), List.takeWhile_cons_of_neg (by unfold toPt; simpa using hx)]
      rfl
theorem firstL_eq (l : List Int) (each h : Int) : firstL (ptsP l each) h = low (ptsR l each) h % (ptsR l each).length := by
  unfold firstL
  rw [tw_map, ptsP_map, tw_low (ptsR_srt l each), ptsP_len]
theorem rotL_eq (l : List Int) (each h : Int) : rotL (ptsP l each) (firstL (ptsP l each) h) = (rotH (ptsR l each) h).map Prod.snd := by
  rw [rotH_mod (ptsR_srt l each) h, ← firstL_eq]
  unfold rotL
  rw [← ptsP_map, ← List.map_drop, ← List.map_take, ← List.map_append, List.map_map]
  rfl
theorem meetS_nat (k : Nat) : ∀ (l acc : List Int), Hs.meetS (k : Int) acc l = Rg.meetS k acc l
  | [], acc => rfl
  | x :: l, acc => by
    unfold Hs.meetS Rg.meetS
    rw [meetS_nat k l acc, meetS_nat k l (acc ++ [x])]
    by_cases h : acc.length + 1 = k
    · rw [if_pos h, if_pos (show (acc.length : Int) + 1 = (k : Int) by omega)]
    · rw [if_neg h, if_neg (show ¬ ((acc.length : Int) + 1 = (k : Int)) by omega)]
/-- who keeps a word of a ring -/
def keepR (l : List Int) (each h : Int) (k : Nat) : List Int := keepers (ptsR l each) h k
theorem points_at {l : List Int} {each keep : Int} (ho : okB l each keep = true) : ring_Points.f l each keep = some (ptsP l each, 0) := by unfold ring_Points.f; rw [if_pos ho]
theorem points_out {l : List Int} {each keep : Int} (ho : okB l each keep = false) : ring_Points.f l each keep = some ([], 2) := by unfold ring_Points.f; rw [ho]; rfl
theorem rawP_small {l : List Int} {each keep : Int} (ho : okB l each keep = true) : (ptsP l each).length ≤ 4096 := by
  obtain ⟨k0, k1, k2, k3, k4, k5, _⟩ := okB_len ho
  refine Nat.le_trans (compP_len _) ?_
  rw [sortP_len, rawP_len]
  exact Nat.le_trans (Nat.mul_le_mul k1 (show each.toNat ≤ 64 by omega)) (by omega)
theorem first_at {l : List Int} {each keep : Int} (ho : okB l each keep = true) (h : Int) : ring_first.f (ptsP l each) h = some ((firstL (ptsP l each) h : Nat) : Int) := by
  obtain ⟨k0, k1, k2, k3, k4, k5, _⟩ := okB_len ho
  unfold ring_first.f
  rw [if_pos]
  refine ⟨by rw [ptsP_len]; exact ptsR_pos k0 k2, by have := rawP_small ho; omega, ?_⟩
  have hs := ptsR_srt l each
  rw [← ptsP_map] at hs
  unfold Srt at hs
  rw [List.pairwise_map] at hs
  refine hs.imp (fun {a b} hab => ?_)
  unfold lt2 toPt at hab
  simp only at hab
  omega
theorem firstL_lt {l : List Int} {each keep : Int} (ho : okB l each keep = true) (h : Int) : firstL (ptsP l each) h < (ptsP l each).length := by
  obtain ⟨k0, k1, k2, k3, k4, k5, _⟩ := okB_len ho
  exact Nat.mod_lt _ (by rw [ptsP_len]; exact ptsR_pos k0 k2)
theorem meet_at {l : List Int} {each keep : Int} (ho : okB l each keep = true) (h : Int) : ring_meet.f (ptsP l each) ((firstL (ptsP l each) h : Nat) : Int) keep = some (keepR l each h keep.toNat) := by
  obtain ⟨k0, k1, k2, k3, k4, k5, _⟩ := okB_len ho
  have hlt := firstL_lt ho h
  have hsm := rawP_small ho
  unfold ring_meet.f
  rw [if_pos ⟨by omega, by omega, by omega⟩]
  have e : ((keep.toNat : Nat) : Int) = keep := by omega
  have := meetS_nat keep.toNat (rotL (ptsP l each) (firstL (ptsP l each) h)) []
  rw [e] at this
  rw [Int.toNat_natCast, this, rotL_eq, meetS_all (by omega)]
  rfl
/-! all nodes stand in the order, each once -/
theorem ord_mem (l : List Int) (each h : Int) (he : 1 ≤ each) (x : Int) : x ∈ ord (ptsR l each) h ↔ x ∈ l := by
  unfold ord rotH
  rw [dd_mem, List.map_append, List.mem_append, List.mem_map, List.mem_map]
  constructor
  · rintro (⟨p, hp, rfl⟩ | ⟨p, hp, rfl⟩)
    all_goals
      obtain ⟨n, hn, j, hj, rfl⟩ := (mem_ptsR l each p).1 (List.mem_filter.1 hp).1
      exact hn
  · intro hx
    have hm := (mem_ptsR l each _).2 ⟨x, hx, 0, by omega, rfl⟩
    by_cases hh : h ≤ ptH x ((0 : Nat) : Int)
    · exact .inl ⟨_, List.mem_filter.2 ⟨hm, by simpa using hh⟩, rfl⟩
    · exact .inr ⟨_, List.mem_filter.2 ⟨hm, by simpa using hh⟩, rfl⟩
theorem rises_lt : ∀ {l : List Int} {last : Int}, risesB last l = true → (∀ x ∈ l, last < x) ∧ l.Pairwise (· < ·)
  | [], _, _ => ⟨fun x hx => absurd hx (List.not_mem_nil), List.Pairwise.nil⟩
  | n :: l, last, h => by
    unfold risesB at h
    simp only [Bool.and_eq_true, Bool.not_eq_true', decide_eq_false_iff_not] at h
    obtain ⟨h1, h2⟩ := rises_lt h.2.2
    refine ⟨fun x hx => ?_, List.pairwise_cons.2 ⟨h1, h2⟩⟩
    rcases List.mem_cons.1 hx with rfl | hx
    · omega
    · have := h1 x hx; omega
theorem nodup_of_lt {l : List Int} (h : l.Pairwise (· < ·)) : l.Nodup := h.imp (fun {a b} hab e => by omega)
theorem ord_len {l : List Int} {each keep : Int} (ho : okB l each keep = true) (h : Int) : (ord (ptsR l each) h).length = l.length := by
  obtain ⟨k0, k1, k2, k3, k4, k5, k6⟩ := okB_len ho
  exact ((List.perm_ext_iff_of_nodup (dd_nodup _) (nodup_of_lt (rises_lt k6).2)).2 (fun x => ord_mem l each h k2 x)).length_eq
theorem keepR_len {l : List Int} {each keep : Int} (ho : okB l each keep = true) (h : Int) (k : Nat) (hk : k ≤ l.length) : (keepR l each h k).length = k := by
  unfold keepR keepers
  rw [List.length_take, ord_len ho]
  omega
theorem keepR_mem {l : List Int} {each : Int} (he : 1 ≤ each) {h : Int} {k : Nat} {x : Int} (hx : x ∈ keepR l each h k) : x ∈ l := by
  unfold keepR keepers at hx
  exact (ord_mem l each h he x).1 (List.mem_of_mem_take hx)
/-! the reference's small ones -/
theorem same_l0 (l m : List Int) (hlm : l.length = m.length) (hl : l.length ≤ 9223372036854775807) : ∀ (n i : Nat), l.length - i = n → i ≤ l.length →
    Since (fun k => icehouseref00_SameInts.l0 k l m (i : Int)) (decide (l.drop i = m.drop i)) := by
  intro n
  induction n with
  | zero =>
    intro i hn hi
    have hf : ¬ ((i : Int) < (l.length : Int)) := by omega
    rw [List.drop_eq_nil_of_le (by omega), List.drop_eq_nil_of_le (by omega)]
    exact Since.none fun k => by simp only [icehouseref00_SameInts.l0, if_neg hf]; rfl
  | succ n ih =>
    intro i hn hi
    have h1 : i < l.length := by omega
    have h2 : i < m.length := by omega
    have f1 : (i : Int) < (l.length : Int) := by omega
    have f2 : (i : Int) < (m.length : Int) := by omega
    have f0 : (0 : Int) ≤ (i : Int) := by omega
    have r1 : rd l (i : Int) = l[i] := by simp [rd, h1]
    have r2 : rd m (i : Int) = m[i] := by simp [rd, h2]
    have d1 := List.drop_eq_getElem_cons h1
    have d2 := List.drop_eq_getElem_cons h2
    by_cases c1 : l[i] = m[i]
    · refine Since.one (ih (i + 1) (by omega) (by omega)) fun k h => ?_
      simp only [icehouseref00_SameInts.l0, if_pos f1, if_pos f0, if_pos f2, r1, r2, if_pos c1, w_succ' i (by omega)]
      rw [h]
      congr 1
      refine decide_eq_decide.2 ?_
      rw [d1, d2, c1]
      exact ⟨fun h => by rw [h], fun h => (List.cons.inj h).2⟩
    · refine Since.none fun k => ?_
      simp only [icehouseref00_SameInts.l0, if_pos f1, if_pos f0, if_pos f2, r1, r2, if_neg c1]
      congr 1
      refine (decide_eq_false (fun h => c1 ?_)).symm
      rw [d1, d2] at h
      exact (List.cons.inj h).1
theorem same_ev (l m : List Int) (hl : l.length ≤ 9223372036854775807) : Since (fun k => icehouseref00_SameInts.f k l m) (decide (l = m)) := by
  by_cases h : l.length = m.length
  · have := same_l0 l m h hl _ 0 rfl (Nat.zero_le _)
    rw [List.drop_zero, List.drop_zero] at this
    refine this.map fun k hk => ?_
    simp only [icehouseref00_SameInts.f]
    rw [if_pos (by omega)]
    exact hk
  · refine ⟨0, fun k _ => ?_⟩
    simp only [icehouseref00_SameInts.f]
    rw [if_neg (by omega)]
    have : l ≠ m := fun e => h (by rw [e])
    simp [this]
end Go.Proofs.Yteocngcojijnkaa.Hs
namespace Go.Proofs.Yteocngcojijnkaa.Hs
open Go.RowKit Go.Proofs.Yteocngcojijnkaa.QH Go.Proofs.Yteocngcojijnkaa.Lex
open Go.Proofs.YteocngcojijnkaaW.PrintWords Go.Proofs.YteocngcojijnkaaW.PrintLast Go.Proofs.YteocngcojijnkaaW.PrintMore
set_option linter.unusedVariables false
set_option linter.unusedSimpArgs false
theorem wu (x : Int) : IntKind.u64.wrap x = x % 18446744073709551616 := by simp [IntKind.wrap, IntKind.bits, IntKind.signed]
theorem wu_in {x : Int} (h0 : 0 ≤ x) (h1 : x < 18446744073709551616) : IntKind.u64.wrap x = x := by rw [wu]; exact Int.emod_eq_of_lt h0 h1
theorem wu_bd (x : Int) : 0 ≤ IntKind.u64.wrap x ∧ IntKind.u64.wrap x < 18446744073709551616 := by rw [wu]; omega
theorem xor_low (a c : Nat) (hc : c < 256) : a ^^^ c = a / 256 * 256 + (a % 256 ^^^ c) := by
  have h1 : (a ^^^ c) / 2 ^ 8 = a / 2 ^ 8 ^^^ c / 2 ^ 8 := Nat.xor_div_two_pow
  have h2 : (a ^^^ c) % 2 ^ 8 = a % 2 ^ 8 ^^^ c % 2 ^ 8 := Nat.xor_mod_two_pow
  rw [Nat.div_eq_of_lt (show c < 2 ^ 8 by omega), Nat.xor_zero] at h1
  rw [Nat.mod_eq_of_lt (show c < 2 ^ 8 by omega)] at h2
  have h3 := Nat.div_add_mod (a ^^^ c) (2 ^ 8)
  rw [h1, h2] at h3
  simp only [show (2 : Nat) ^ 8 = 256 from rfl] at h3
  omega
theorem xor_lt (a c : Nat) (ha : a < 18446744073709551616) (hc : c < 18446744073709551616) : a ^^^ c < 18446744073709551616 := Nat.xor_lt_two_pow (n := 64) ha hc
theorem step_same {h c : Int} (h0 : 0 ≤ h) (h1 : h < 18446744073709551616) (c0 : 0 ≤ c) (c1 : c < 256) : icehouseref04_Step.f h c = some (stepH h c) := by
  obtain ⟨H, rfl⟩ := Int.eq_ofNat_of_zero_le h0
  obtain ⟨C, rfl⟩ := Int.eq_ofNat_of_zero_le c0
  have hx := xor_low H C (by omega)
  have hl := xor_lt H C (by omega) (by omega)
  have hr : H % 256 ^^^ C < 256 := Nat.xor_lt_two_pow (n := 8) (by omega) (by omega)
  have e1 : IntKind.u64.wrap (C : Int) = (C : Int) := wu_in (by omega) (by omega)
  have e2 : Go.bits .xor .u64 (H : Int) (C : Int) = ((H ^^^ C : Nat) : Int) := u64_xor_nat H C (by omega) (by omega)
  have e3 : Int.tmod (H : Int) 256 = ((H % 256 : Nat) : Int) := by rw [Int.tmod_eq_emod_of_nonneg (by omega)]; omega
  have e4 : ((H % 256 : Nat) : Int) % 256 = ((H % 256 : Nat) : Int) := by omega
  have e5 : Go.bits .xor .u8 ((H % 256 : Nat) : Int) (C : Int) = ((H % 256 ^^^ C : Nat) : Int) := u8_xor_nat (H % 256) C (by omega) (by omega)
  unfold icehouseref04_Step.f stepH
  rw [e1, e2, e3, e4, e5]
  congr 1
  generalize H ^^^ C = N at *
  generalize H % 256 ^^^ C = r at *
  have e6 : IntKind.u64.wrap (r : Int) = (r : Int) := wu_in (by omega) (by omega)
  have e7 : IntKind.u64.wrap ((H : Int) - ((H % 256 : Nat) : Int)) = (H : Int) - ((H % 256 : Nat) : Int) := wu_in (by omega) (by omega)
  have e8 : IntKind.u64.wrap ((H : Int) - ((H % 256 : Nat) : Int) + (r : Int)) = (N : Int) := by rw [wu_in (by omega) (by omega)]; omega
  rw [e6, e7, e8, wu, wu, wu, wu]
  omega
theorem stepH_bd (h c : Int) : 0 ≤ stepH h c ∧ stepH h c < 18446744073709551616 := wu_bd _
theorem sumRow_bd : ∀ (l : List Int) (h : Int), 0 ≤ h → h < 18446744073709551616 → 0 ≤ sumRow h l ∧ sumRow h l < 18446744073709551616
  | [], h, h0, h1 => ⟨h0, h1⟩
  | c :: l, h, h0, h1 => sumRow_bd l (stepH h c) (stepH_bd h c).1 (stepH_bd h c).2
theorem rsum_l0 (l : List Int) (hb : ∀ x ∈ l, 0 ≤ x ∧ x < 256) (hl : l.length ≤ 9223372036854775807) : ∀ (n i : Nat) (h : Int), l.length - i = n → i ≤ l.length → 0 ≤ h → h < 18446744073709551616 →
    Since (fun k => icehouseref04_Sum.l0 k l h (i : Int)) (sumRow h (l.drop i)) := by
  intro n
  induction n with
  | zero =>
    intro i h hn hi h0 h1
    have hf : ¬ ((i : Int) < (l.length : Int)) := by omega
    rw [List.drop_eq_nil_of_le (by omega)]
    exact Since.none fun k => by simp only [icehouseref04_Sum.l0, if_neg hf]; rfl
  | succ n ih =>
    intro i h hn hi h0 h1
    have hi1 : i < l.length := by omega
    have f1 : (i : Int) < (l.length : Int) := by omega
    have f0 : (0 : Int) ≤ (i : Int) := by omega
    have r1 : rd l (i : Int) = l[i] := by simp [rd, hi1]
    have hc := hb l[i] (List.getElem_mem hi1)
    refine Since.one (ih (i + 1) (stepH h l[i]) (by omega) (by omega) (stepH_bd _ _).1 (stepH_bd _ _).2) fun k hk => ?_
    simp only [icehouseref04_Sum.l0, if_pos f1, if_pos f0, r1, step_same h0 h1 hc.1 hc.2, Option.bind_some, w_succ' i (by omega)]
    rw [hk, List.drop_eq_getElem_cons hi1]
    rfl
theorem rsum_ev (l : List Int) (hb : ∀ x ∈ l, 0 ≤ x ∧ x < 256) (hl : l.length ≤ 9223372036854775807) : Since (fun k => icehouseref04_Sum.f k l) (sumRow begH l) := by
  have := rsum_l0 l hb hl _ 0 begH rfl (Nat.zero_le _) (by decide) (by decide)
  rw [List.drop_zero] at this
  exact this
theorem fold_same {h : Int} (h0 : 0 ≤ h) (h1 : h < 18446744073709551616) : icehouseref04_fold.f h = hash_fold.f h := by
  unfold icehouseref04_fold.f hash_fold.f
  rw [Int.tdiv_eq_ediv_of_nonneg h0, wu_in (by omega) (by omega)]
theorem fold_bd {h : Int} (h0 : 0 ≤ h) (h1 : h < 18446744073709551616) : ∃ r, hash_fold.f h = some r ∧ 0 ≤ r ∧ r < 18446744073709551616 := by
  obtain ⟨H, rfl⟩ := Int.eq_ofNat_of_zero_le h0
  refine ⟨((H ^^^ (H / 8589934592) : Nat) : Int), ?_, by omega, ?_⟩
  · unfold hash_fold.f
    rw [show ((H : Int) / 8589934592) = ((H / 8589934592 : Nat) : Int) by omega, u64_xor_nat H (H / 8589934592) (by omega) (by omega)]
  · have := xor_lt H (H / 8589934592) (by omega) (by omega)
    omega
theorem stir_same {h : Int} (h0 : 0 ≤ h) (h1 : h < 18446744073709551616) : icehouseref04_Stir.f h = some (stirH h) := by
  rw [← stir_f]
  unfold icehouseref04_Stir.f hash_Stir.f
  obtain ⟨a, ha, a0, a1⟩ := fold_bd h0 h1
  rw [fold_same h0 h1, ha, Option.bind_some, Option.bind_some]
  have hw := wu_bd (a * 18397679294719823053)
  obtain ⟨b, hb, b0, b1⟩ := fold_bd hw.1 hw.2
  rw [fold_same hw.1 hw.2, hb, Option.bind_some, Option.bind_some]
  have hw := wu_bd (b * 14181476777654086739)
  rw [fold_same hw.1 hw.2]
theorem since_mono {α : Type} {f : Nat → Option α} {r : α} (hm : ∀ k, LeO (f k) (f (k + 1))) (K : Nat) (h : f K = some r) : Since f r := by
  refine ⟨K, fun k hk => ?_⟩
  induction k with
  | zero => rw [show (0 : Nat) = K by omega]; exact h
  | succ k ih =>
    by_cases e : k + 1 = K
    · rw [e]; exact h
    · exact hm k r (ih (by omega))
/-- a number's eight bytes -/
def wordU (u : Int) : List Int := [u / 72057594037927936 % 256, u / 281474976710656 % 256, u / 1099511627776 % 256, u / 4294967296 % 256, u / 16777216 % 256, u / 65536 % 256, u / 256 % 256, u % 256]
theorem word_is (n : Int) : hash_word.f 9 n = some (wordU (IntKind.u64.wrap n)) := by
  unfold hash_word.f
  simp [hash_word.l0, wrap64, shr, wordU, IntKind.bits]
theorem bytes_l0 (k : Nat) (x : Int) (L : List Int) (i : Int) (h0 : 0 ≤ x) (h1 : x < 18446744073709551616) (i0 : 0 ≤ i) (i1 : i < (L.length : Int)) (i2 : i ≤ 7) :
    icehouseref04_Bytes.l0 (k + 1) x L i = icehouseref04_Bytes.l0 k (x / 256) (L.set i.toNat (x % 256)) (i - 1) := by
  have hd : IntKind.u64.wrap (Int.tdiv x 256) = x / 256 := by rw [Int.tdiv_eq_ediv_of_nonneg h0, wu_in (by omega) (by omega)]
  have hm : Int.tmod x 256 % 256 = x % 256 := by rw [Int.tmod_eq_emod_of_nonneg h0]; omega
  have hw : wrap64 (i - 1) = i - 1 := by unfold wrap64; omega
  simp only [icehouseref04_Bytes.l0, if_pos (show i ≥ 0 from i0), if_pos i0, if_pos i1, hd, hm, hw]
theorem bytes_is (n : Int) : icehouseref04_Bytes.f 9 n = some (wordU (IntKind.u64.wrap n)) := by
  obtain ⟨u, hu⟩ : ∃ u, IntKind.u64.wrap n = u := ⟨_, rfl⟩
  have hb := wu_bd n
  rw [hu] at hb
  unfold icehouseref04_Bytes.f
  rw [if_pos (by omega), hu]
  rw [bytes_l0 8 _ _ 7 (by omega) (by omega) (by omega) (by simp) (by omega), bytes_l0 7 _ _ _ (by omega) (by omega) (by omega) (by simp) (by omega), bytes_l0 6 _ _ _ (by omega) (by omega) (by omega) (by simp) (by omega), bytes_l0 5 _ _ _ (by omega) (by omega) (by omega) (by simp) (by omega), bytes_l0 4 _ _ _ (by omega) (by omega) (by omega) (by simp) (by omega), bytes_l0 3 _ _ _ (by omega) (by omega) (by omega) (by simp) (by omega), bytes_l0 2 _ _ _ (by omega) (by omega) (by omega) (by simp) (by omega), bytes_l0 1 _ _ _ (by omega) (by omega) (by omega) (by simp) (by omega)]
  simp only [icehouseref04_Bytes.l0]
  rw [if_neg (by omega)]
  simp [wordU, List.replicate]
  omega
theorem wordU_range (u : Int) : ∀ x ∈ wordU u, 0 ≤ x ∧ x < 256 := by
  intro x hx
  unfold wordU at hx
  simp only [List.mem_cons, List.not_mem_nil, or_false] at hx
  omega
theorem sumRow_app (h : Int) (a b : List Int) : sumRow h (a ++ b) = sumRow (sumRow h a) b := by unfold sumRow; rw [List.foldl_append]
theorem ptH_is (n j : Int) : ptH n j = stirH (sumRow begH (wordU (IntKind.u64.wrap n) ++ wordU (IntKind.u64.wrap j))) := by
  simp only [ptH, QP.hash_Point.f, word_is, Option.bind_some, hash_Sum.f, stir_f, Option.getD_some, sumRow_app]
  simp only [sumH, sumFrom, List.foldl]
theorem rpoint_ev (n j : Int) : Since (fun k => icehouseref04_Point.f k n j) (ptH n j) := by
  have h1 := since_mono (fun k => icehouseref04_Bytes.mono n k) 9 (bytes_is n)
  have h2 := since_mono (fun k => icehouseref04_Bytes.mono j k) 9 (bytes_is j)
  have hw : ∀ x ∈ wordU (IntKind.u64.wrap n) ++ wordU (IntKind.u64.wrap j), 0 ≤ x ∧ x < 256 := fun x hx => by
    rcases List.mem_append.1 hx with h | h
    · exact wordU_range _ x h
    · exact wordU_range _ x h
  have h3 := rsum_ev _ hw (by simp [wordU])
  refine ((h1.and h2 (q := (wordU (IntKind.u64.wrap n), wordU (IntKind.u64.wrap j))) (F := fun k => (icehouseref04_Bytes.f k n).bind fun a => (icehouseref04_Bytes.f k j).bind fun b => some (a, b)) fun k a b => by simp only [a, b, Option.bind_some]).and h3 fun k a b => ?_)
  obtain ⟨a1, ha, hh⟩ := Option.bind_eq_some_iff.1 a
  obtain ⟨b1, hb, hh⟩ := Option.bind_eq_some_iff.1 hh
  have hh := Option.some.inj hh
  injection hh with e1 e2
  subst e1; subst e2
  simp only [icehouseref04_Point.f]
  rw [ha, hb, Option.bind_some, Option.bind_some, if_pos (by simp [wordU]), b, Option.bind_some, stir_same (sumRow_bd _ _ (by decide) (by decide)).1 (sumRow_bd _ _ (by decide) (by decide)).2, ptH_is]
  rfl
end Go.Proofs.Yteocngcojijnkaa.Hs
namespace Go.Proofs.Yteocngcojijnkaa.Hs
open Go.RowKit Go.Proofs.Yteocngcojijnkaa.QH Go.Proofs.Yteocngcojijnkaa.Lex Go.Proofs.Yteocngcojijnkaa.Rg
open Go.Proofs.YteocngcojijnkaaW.PrintWords Go.Proofs.YteocngcojijnkaaW.PrintLast Go.Proofs.YteocngcojijnkaaW.PrintMore
set_option linter.unusedVariables false
set_option linter.unusedSimpArgs false
def insS (p : S70) : List S70 → List S70
  | [] => [p]
  | x :: l => if lt2 (toPt x) (toPt p) then x :: insS p l else if x = p then x :: l else p :: x :: l
theorem insS_map (p : S70) : ∀ l : List S70, (insS p l).map toPt = ins (toPt p) (l.map toPt)
  | [] => rfl
  | x :: l => by
    unfold insS
    rw [List.map_cons]
    unfold ins
    by_cases h : lt2 (toPt x) (toPt p)
    · rw [if_pos h, if_pos h, List.map_cons, insS_map p l]
    · rw [if_neg h, if_neg h]
      by_cases e : x = p
      · rw [if_pos e, if_pos (congrArg toPt e)]; rfl
      · rw [if_neg e, if_neg (fun h => e (toPt_inj h))]; rfl
theorem insS_len (p : S70) : ∀ l : List S70, (insS p l).length ≤ l.length + 1
  | [] => Nat.le_refl _
  | x :: l => by
    have := insS_len p l
    unfold insS
    split
    · rw [List.length_cons, List.length_cons]; omega
    · split
      · exact Nat.le_succ _
      · exact Nat.le_refl _
def foldS (acc raw : List S70) : List S70 := raw.foldl (fun a p => insS p a) acc
theorem foldS_map : ∀ (raw acc : List S70), (foldS acc raw).map toPt = (raw.map toPt).foldl (fun a p => ins p a) (acc.map toPt)
  | [], acc => rfl
  | x :: raw, acc => by
    show (foldS (insS x acc) raw).map toPt = _
    rw [foldS_map raw, insS_map]
    rfl
theorem foldS_pts (l : List Int) (each : Int) : foldS [] (rawP l each) = ptsP l each := by
  have h : (foldS [] (rawP l each)).map toPt = (ptsP l each).map toPt := by
    rw [foldS_map, ptsP_map]; rfl
  exact (List.map_inj_right (fun _ _ => toPt_inj)).1 h
theorem foldS_app (a b acc : List S70) : foldS acc (a ++ b) = foldS (foldS acc a) b := by unfold foldS; rw [List.foldl_append]
theorem less_f (a b c d : Int) : icehouseref09_less.f a b c d = some (decide (lt2 (a, b) (c, d))) := by
  unfold icehouseref09_less.f lt2
  by_cases h1 : a < c
  · simp [h1]
  · by_cases h2 : a = c
    · simp [h1, h2]
    · simp [h1, h2]
theorem insS_skip (p : S70) : ∀ (i : Nat) (l : List S70), (∀ m (hm : m < i) (h : m < l.length), lt2 (toPt l[m]) (toPt p)) → insS p l = l.take i ++ insS p (l.drop i)
  | 0, l, _ => by simp
  | i + 1, [], _ => by simp
  | i + 1, x :: l, h => by
    have h0 : lt2 (toPt x) (toPt p) := h 0 (by omega) (by simp)
    rw [insS, if_pos h0, insS_skip p i l (fun m hm hl => h (m + 1) (by omega) (by simpa using hl))]
    rfl
section
variable (nodes : List Int) (each keep : Int) (p : S70) (x4 x5 : Int)
theorem l2_ev (r : List S70) (l : List S70) (hl : l.length ≤ 8796093000000) (hw : wrap64 (x5 + 1) = x5 + 1) (h : Since (fun k => icehouseref09_Points.l1 k (insS p l) x4 (x5 + 1) nodes each keep) r) : ∀ (n i : Nat), l.length - i = n → i ≤ l.length → (∀ m (hm : m < i) (h : m < l.length), lt2 (toPt l[m]) (toPt p)) →
    Since (fun k => icehouseref09_Points.l2 k l x4 x5 (i : Int) nodes each keep p.f0 p.f1) r := by
  intro n
  induction n with
  | zero =>
    intro i hn hi hlt
    obtain rfl : i = l.length := by omega
    have hf : ¬ ((l.length : Int) < (l.length : Int)) := by omega
    have e := insS_skip p l.length l hlt
    rw [List.take_length, List.drop_length] at e
    refine Since.one h fun k hk => ?_
    rw [e] at hk
    simp only [icehouseref09_Points.l2, if_neg hf, if_pos (show (0 : Int) ≤ (l.length : Int) by omega), if_pos (Int.le_refl (l.length : Int)), Option.bind_some, Int.toNat_natCast, List.take_length, List.drop_length, List.nil_append, List.length_append, List.length_nil, Nat.zero_add, hw]
    rw [if_pos (by omega), if_pos (by omega), if_pos (by simp; omega), List.append_nil]
    exact hk
  | succ n ih =>
    intro i hn hi hlt
    have h1 : i < l.length := by omega
    have f1 : (i : Int) < (l.length : Int) := by omega
    have f0 : (0 : Int) ≤ (i : Int) := by omega
    have r1 : rd_T70 l (i : Int) = l[i] := by unfold rd_T70; rw [show (i : Int).toNat = i from rfl]; simp [h1]
    have e := insS_skip p i l hlt
    rw [List.drop_eq_getElem_cons h1, insS] at e
    by_cases c1 : lt2 (toPt l[i]) (toPt p)
    · refine Since.one (ih (i + 1) (by omega) (by omega) (fun m hm hl' => ?_)) fun k hk => ?_
      · by_cases hmi : m = i
        · subst hmi; exact c1
        · exact hlt m (by omega) hl'
      · have c2 : lt2 (l[i].f0, l[i].f1) (p.f0, p.f1) := c1
        simp only [icehouseref09_Points.l2, if_pos f1, if_pos f0, r1, less_f, decide_eq_true c2, Option.bind_some, if_true, w_succ' i (by omega)]
        exact hk
    · have c2 : ¬ lt2 (l[i].f0, l[i].f1) (p.f0, p.f1) := c1
      rw [if_neg c1] at e
      by_cases c3 : l[i] = p
      · rw [if_pos c3, ← List.drop_eq_getElem_cons h1, List.take_append_drop] at e
        rw [e] at h
        refine Since.one h fun k hk => ?_
        have c4 := (same_iff l[i] p).2 c3
        simp only [icehouseref09_Points.l2, if_pos f1, if_pos f0, r1, less_f, decide_eq_false c2, Option.bind_some, hw]
        rw [if_neg (by decide), if_pos c4]
        exact hk
      · rw [if_neg c3, ← List.drop_eq_getElem_cons h1] at e
        refine Since.one h fun k hk => ?_
        rw [e] at hk
        have c4 : ¬ ((l[i].f0 == p.f0 && (l[i].f1 == p.f1)) = true) := fun h => c3 ((same_iff l[i] p).1 h)
        simp only [icehouseref09_Points.l2, if_pos f1, if_pos f0, r1, less_f, decide_eq_false c2, Option.bind_some, hw, if_pos (show (i : Int) ≤ (l.length : Int) by omega), Int.toNat_natCast, List.nil_append, List.length_append, List.length_nil, List.length_cons, Nat.zero_add, List.length_take, List.length_drop]
        rw [if_neg (by decide), if_neg c4, if_pos (by omega), if_pos (by omega), if_pos (by omega), List.append_assoc]
        exact hk
end
/-- one node's points from a place on -/
def restP (n : Int) (j m : Nat) : List S70 := (List.range' j m).map fun j : Nat => ⟨ptH n (j : Int), n⟩
theorem restP_zero (n : Int) (m : Nat) : restP n 0 m = rowP n m := by unfold restP rowP; rw [List.range_eq_range']
theorem restP_succ (n : Int) (j m : Nat) : restP n j (m + 1) = ⟨ptH n (j : Int), n⟩ :: restP n (j + 1) m := by unfold restP; rw [List.range'_succ, List.map_cons]
theorem foldS_cons (p : S70) (raw acc : List S70) : foldS acc (p :: raw) = foldS (insS p acc) raw := rfl
theorem rawP_cons (x : Int) (l : List Int) (each : Int) : rawP (x :: l) each = rowP x each.toNat ++ rawP l each := by unfold rawP; rw [List.flatMap_cons]
theorem foldS_len : ∀ (raw acc : List S70), (foldS acc raw).length ≤ acc.length + raw.length
  | [], acc => Nat.le_refl _
  | x :: raw, acc => by
    have h1 := foldS_len raw (insS x acc)
    have h2 := insS_len x acc
    show (foldS (insS x acc) raw).length ≤ _
    rw [List.length_cons]; omega
theorem l1_ev (nodes : List Int) (each keep : Int) (he : 0 ≤ each) (he2 : each ≤ 64) (i : Nat) (hi : i < nodes.length) (r : List S70) : ∀ (n j : Nat) (acc : List S70), each.toNat - j = n → (j : Int) ≤ each → acc.length + n ≤ 100000 →
    Since (fun k => icehouseref09_Points.l0 k (foldS acc (restP nodes[i] j n)) (wrap64 ((i : Int) + 1)) nodes each keep) r → Since (fun k => icehouseref09_Points.l1 k acc (i : Int) (j : Int) nodes each keep) r := by
  intro n
  induction n with
  | zero =>
    intro j acc hn hj hlen h
    have hf : ¬ ((j : Int) < each) := by omega
    refine Since.one h fun k hk => ?_
    simp only [icehouseref09_Points.l1, if_neg hf]
    exact hk
  | succ n ih =>
    intro j acc hn hj hlen h
    have f1 : (j : Int) < each := by omega
    have g0 : (0 : Int) ≤ (i : Int) := by omega
    have g1 : (i : Int) < (nodes.length : Int) := by omega
    have r1 : rd nodes (i : Int) = nodes[i] := by simp [rd, hi]
    have hw : wrap64 ((j : Int) + 1) = (j : Int) + 1 := by unfold wrap64; omega
    rw [restP_succ, foldS_cons] at h
    have h2 := ih (j + 1) (insS ⟨ptH nodes[i] (j : Int), nodes[i]⟩ acc) (by omega) (by omega) (by have := insS_len ⟨ptH nodes[i] (j : Int), nodes[i]⟩ acc; omega) h
    have h3 := l2_ev nodes each keep ⟨ptH nodes[i] (j : Int), nodes[i]⟩ (i : Int) (j : Int) r acc (by omega) hw h2 _ 0 rfl (Nat.zero_le _) (fun m hm _ => absurd hm (Nat.not_lt_zero m))
    refine Since.two h3 (rpoint_ev nodes[i] (j : Int)) fun k hk hp => ?_
    simp only [icehouseref09_Points.l1, if_pos f1, if_pos g0, if_pos g1, r1]
    rw [hp, Option.bind_some]
    exact hk
theorem l0_ev (nodes : List Int) (each keep : Int) (he : 0 ≤ each) (he2 : each ≤ 64) (hn64 : nodes.length ≤ 64) : ∀ (n i : Nat) (acc : List S70), nodes.length - i = n → i ≤ nodes.length → acc.length ≤ i * 64 →
    Since (fun k => icehouseref09_Points.l0 k acc (i : Int) nodes each keep) (foldS acc (rawP (nodes.drop i) each)) := by
  intro n
  induction n with
  | zero =>
    intro i acc hn hi hlen
    have hf : ¬ ((i : Int) < (nodes.length : Int)) := by omega
    rw [List.drop_eq_nil_of_le (by omega)]
    exact Since.none fun k => by simp only [icehouseref09_Points.l0, if_neg hf]; rfl
  | succ n ih =>
    intro i acc hn hi hlen
    have h1 : i < nodes.length := by omega
    have f1 : (i : Int) < (nodes.length : Int) := by omega
    have hl2 : (foldS acc (restP nodes[i] 0 each.toNat)).length ≤ (i + 1) * 64 := by
      have := foldS_len (restP nodes[i] 0 each.toNat) acc
      rw [restP_zero, rowP_len] at this
      rw [restP_zero]
      omega
    have h2 := ih (i + 1) _ (by omega) (by omega) hl2
    rw [← w_succ' i (by omega)] at h2
    have h3 := l1_ev nodes each keep he he2 i h1 _ each.toNat 0 acc (by omega) (by omega) (by omega) h2
    refine Since.one h3 fun k hk => ?_
    simp only [icehouseref09_Points.l0, if_pos f1]
    rw [show icehouseref09_Points.l1 k acc (i : Int) 0 nodes each keep = _ from hk, restP_zero, List.drop_eq_getElem_cons h1]
    rw [rawP_cons, foldS_app]
theorem rpoints_ev {l : List Int} {each keep : Int} (ho : okB l each keep = true) : Since (fun k => icehouseref09_Points.f k l each keep) (ptsP l each) := by
  obtain ⟨k0, k1, k2, k3, k4, k5, _⟩ := okB_len ho
  have h := l0_ev l each keep (by omega) k3 k1 _ 0 [] rfl (Nat.zero_le _) (by simp)
  rw [List.drop_zero, foldS_pts] at h
  exact h
end Go.Proofs.Yteocngcojijnkaa.Hs
namespace Go.Proofs.Yteocngcojijnkaa.Hs
open Go.RowKit Go.Proofs.Yteocngcojijnkaa.QH Go.Proofs.Yteocngcojijnkaa.Lex Go.Proofs.Yteocngcojijnkaa.Rg
open Go.Proofs.YteocngcojijnkaaW.PrintWords Go.Proofs.YteocngcojijnkaaW.PrintLast Go.Proofs.YteocngcojijnkaaW.PrintMore
set_option linter.unusedVariables false
set_option linter.unusedSimpArgs false
theorem has_l0 (l : List Int) (x : Int) (hl : l.length ≤ 9223372036854775807) : ∀ (n i : Nat), l.length - i = n → i ≤ l.length →
    Since (fun k => icehouseref09_Has.l0 k l x (i : Int)) (decide (x ∈ l.drop i)) := by
  intro n
  induction n with
  | zero =>
    intro i hn hi
    have hf : ¬ ((i : Int) < (l.length : Int)) := by omega
    rw [List.drop_eq_nil_of_le (by omega)]
    exact Since.none fun k => by simp only [icehouseref09_Has.l0, if_neg hf]; rfl
  | succ n ih =>
    intro i hn hi
    have h1 : i < l.length := by omega
    have f1 : (i : Int) < (l.length : Int) := by omega
    have f0 : (0 : Int) ≤ (i : Int) := by omega
    have r1 : rd l (i : Int) = l[i] := by simp [rd, h1]
    have d := List.drop_eq_getElem_cons h1
    by_cases he : l[i] = x
    · refine Since.none fun k => ?_
      simp only [icehouseref09_Has.l0, if_pos f1, if_pos f0, r1, if_pos he]
      congr 1
      exact (decide_eq_true (by rw [d, he]; exact List.mem_cons_self)).symm
    · refine Since.one (ih (i + 1) (by omega) (by omega)) fun k h => ?_
      simp only [icehouseref09_Has.l0, if_pos f1, if_pos f0, r1, if_neg he, w_succ' i (by omega)]
      rw [h]
      congr 1
      refine decide_eq_decide.2 ?_
      rw [d, List.mem_cons]
      exact ⟨.inr, fun h => h.resolve_left (fun e => he e.symm)⟩
theorem has_ev (l : List Int) (x : Int) (hl : l.length ≤ 9223372036854775807) : Since (fun k => icehouseref09_Has.f k l x) (decide (x ∈ l)) := by
  have := has_l0 l x hl _ 0 rfl (Nat.zero_le _)
  rw [List.drop_zero] at this
  exact this
end Go.Proofs.Yteocngcojijnkaa.Hs
namespace Go.Proofs.Yteocngcojijnkaa.Hs
open Go.RowKit Go.Proofs.Yteocngcojijnkaa.QH Go.Proofs.Yteocngcojijnkaa.Lex Go.Proofs.Yteocngcojijnkaa.Rg
open Go.Proofs.YteocngcojijnkaaW.PrintWords Go.Proofs.YteocngcojijnkaaW.PrintLast Go.Proofs.YteocngcojijnkaaW.PrintMore
set_option linter.unusedVariables false
set_option linter.unusedSimpArgs false
theorem rfirst_l0 (q : List S70) (h : Int) (hl : q.length ≤ 9223372036854775807) : ∀ (n i : Nat), q.length - i = n → i ≤ q.length →
    Since (fun k => icehouseref09_First.l0 k q h (i : Int)) ((if i + ((q.drop i).takeWhile fun p => decide (p.f0 < h)).length < q.length then i + ((q.drop i).takeWhile fun p => decide (p.f0 < h)).length else 0 : Nat) : Int) := by
  intro n
  induction n with
  | zero =>
    intro i hn hi
    have hf : ¬ ((i : Int) < (q.length : Int)) := by omega
    rw [List.drop_eq_nil_of_le (by omega)]
    refine Since.none fun k => ?_
    simp only [icehouseref09_First.l0, if_neg hf]
    rw [if_neg (by simp; omega)]
    rfl
  | succ n ih =>
    intro i hn hi
    have h1 : i < q.length := by omega
    have f1 : (i : Int) < (q.length : Int) := by omega
    have f0 : (0 : Int) ≤ (i : Int) := by omega
    have r1 : rd_T70 q (i : Int) = q[i] := by unfold rd_T70; rw [show (i : Int).toNat = i from rfl]; simp [h1]
    rw [List.drop_eq_getElem_cons h1]
    by_cases c1 : q[i].f0 ≥ h
    · refine Since.none fun k => ?_
      simp only [icehouseref09_First.l0, if_pos f1, if_pos f0, r1, if_pos c1]
      rw [List.takeWhile_cons_of_neg (by simpa using c1), List.length_nil, Nat.add_zero, if_pos h1]
    · refine Since.one (ih (i + 1) (by omega) (by omega)) fun k hk => ?_
      simp only [icehouseref09_First.l0, if_pos f1, if_pos f0, r1, if_neg c1, w_succ' i (by omega)]
      rw [hk, List.takeWhile_cons_of_pos (by simp; omega), List.length_cons]
      congr 2
      rw [show i + (((q.drop (i + 1)).takeWhile fun p => decide (p.f0 < h)).length + 1) = i + 1 + ((q.drop (i + 1)).takeWhile fun p => decide (p.f0 < h)).length by omega]
theorem tw_le {α : Type} (p : α → Bool) : ∀ l : List α, (l.takeWhile p).length ≤ l.length
  | [] => Nat.le_refl _
  | x :: l => by
    have := tw_le p l
    cases h : p x
    · rw [List.takeWhile_cons_of_neg (by rw [h]; decide)]; exact Nat.zero_le _
    · rw [List.takeWhile_cons_of_pos h, List.length_cons, List.length_cons]; omega
theorem rfirst_ev {l : List Int} {each keep : Int} (ho : okB l each keep = true) (h : Int) : Since (fun k => icehouseref09_First.f k (ptsP l each) h) ((firstL (ptsP l each) h : Nat) : Int) := by
  have hsm := rawP_small ho
  have hlt := firstL_lt ho h
  have h1 := rfirst_l0 (ptsP l each) h (by omega) _ 0 rfl (Nat.zero_le _)
  rw [List.drop_zero, Nat.zero_add] at h1
  have hle := tw_le (fun p : S70 => decide (p.f0 < h)) (ptsP l each)
  have e : (if ((ptsP l each).takeWhile fun p => decide (p.f0 < h)).length < (ptsP l each).length then ((ptsP l each).takeWhile fun p => decide (p.f0 < h)).length else 0) = firstL (ptsP l each) h := by
    unfold firstL
    split
    · rename_i h'; exact (Nat.mod_eq_of_lt h').symm
    · rename_i h'
      rw [show ((ptsP l each).takeWhile fun p => decide (p.f0 < h)).length = (ptsP l each).length by omega, Nat.mod_self]
  rw [e] at h1
  exact h1
theorem rat_l0 (l0 : List Int) (each : Int) (q : List S70) (i0 keep : Nat) (hi0 : i0 < q.length) (hq : q.length ≤ 4096) (R : List Int) (hR : R.length = keep) : ∀ (n t : Nat) (out : List Int), q.length - t = n → t ≤ q.length → out.length ≤ t → out.length < keep → Rg.meetS keep out ((rotL q i0).drop t) = R →
    Since (fun k => icehouseref09_At.l0 k q (((i0 + t) % q.length : Nat) : Int) out l0 each (keep : Int)) R := by
  intro n
  induction n with
  | zero =>
    intro t out hn ht hot hok hm
    rw [List.drop_eq_nil_of_le (by rw [rotL_len q i0 (by omega)]; omega)] at hm
    have : out = R := hm
    rw [this] at hok
    omega
  | succ n ih =>
    intro t out hn ht hot hok hm
    have h1 : t < q.length := by omega
    have hmod : (i0 + t) % q.length < q.length := Nat.mod_lt _ (by omega)
    have g1 : (out.length : Int) < (keep : Int) := by omega
    have g2 : (0 : Int) ≤ (((i0 + t) % q.length : Nat) : Int) := by omega
    have g3 : (((i0 + t) % q.length : Nat) : Int) < (q.length : Int) := by omega
    have g4 : ¬ ((q.length : Int) = 0) := by omega
    have r1 : rd_T70 q (((i0 + t) % q.length : Nat) : Int) = q[(i0 + t) % q.length] := by unfold rd_T70; rw [Int.toNat_natCast]; simp [hmod]
    have hw : Int.tmod (wrap64 ((((i0 + t) % q.length : Nat) : Int) + 1)) (q.length : Int) = (((i0 + (t + 1)) % q.length : Nat) : Int) := by
      rw [w_succ' _ (by omega), Int.tmod_eq_emod_of_nonneg (by omega)]
      have e : ((i0 + t) % q.length + 1) % q.length = (i0 + (t + 1)) % q.length := by
        rw [Nat.mod_add_mod, Nat.add_assoc]
      rw [← e]
      omega
    have hx := rotL_at q i0 t hi0 h1
    rw [List.drop_eq_getElem_cons (by rw [rotL_len q i0 (by omega)]; exact h1), hx] at hm
    unfold Rg.meetS at hm
    by_cases hin : (q[(i0 + t) % q.length]).f1 ∈ out
    · rw [if_pos hin] at hm
      refine Since.two (ih (t + 1) out (by omega) (by omega) (by omega) hok hm) (has_ev out (q[(i0 + t) % q.length]).f1 (by omega)) fun k hk hh => ?_
      simp only [icehouseref09_At.l0, if_pos g1, if_pos g2, if_pos g3, r1]
      rw [hh, Option.bind_some, decide_eq_true hin, if_pos rfl, if_neg g4, hw]
      exact hk
    · rw [if_neg hin] at hm
      have hlen : (out ++ [(q[(i0 + t) % q.length]).f1]).length = out.length + 1 := by rw [List.length_append]; rfl
      by_cases hk1 : out.length + 1 = keep
      · rw [if_pos hk1] at hm
        have hstop : Since (fun k => icehouseref09_At.l0 k q (((i0 + (t + 1)) % q.length : Nat) : Int) (out ++ [(q[(i0 + t) % q.length]).f1]) l0 each (keep : Int)) R := by
          refine Since.none fun k => ?_
          simp only [icehouseref09_At.l0]
          rw [if_neg (by rw [hlen]; omega), hm]
        refine Since.two hstop (has_ev out (q[(i0 + t) % q.length]).f1 (by omega)) fun k hk hh => ?_
        simp only [icehouseref09_At.l0, if_pos g1, if_pos g2, if_pos g3, r1]
        rw [hh, Option.bind_some, decide_eq_false hin, if_neg (by decide), if_pos (by omega), if_neg g4, hw]
        exact hk
      · rw [if_neg hk1] at hm
        refine Since.two (ih (t + 1) (out ++ [(q[(i0 + t) % q.length]).f1]) (by omega) (by omega) (by rw [hlen]; omega) (by rw [hlen]; omega) hm) (has_ev out (q[(i0 + t) % q.length]).f1 (by omega)) fun k hk hh => ?_
        simp only [icehouseref09_At.l0, if_pos g1, if_pos g2, if_pos g3, r1]
        rw [hh, Option.bind_some, decide_eq_false hin, if_neg (by decide), if_pos (by omega), if_neg g4, hw]
        exact hk
theorem rat_ev {l : List Int} {each keep : Int} (ho : okB l each keep = true) (h : Int) : Since (fun k => icehouseref09_At.f k l each keep h) (keepR l each h keep.toNat) := by
  obtain ⟨k0, k1, k2, k3, k4, k5, _⟩ := okB_len ho
  have hsm := rawP_small ho
  have hlt := firstL_lt ho h
  have hR := keepR_len ho h keep.toNat (by omega)
  have hm : Rg.meetS keep.toNat [] ((rotL (ptsP l each) (firstL (ptsP l each) h)).drop 0) = keepR l each h keep.toNat := by
    rw [List.drop_zero, rotL_eq, meetS_all (by omega)]
    rfl
  have h1 := rat_l0 l each (ptsP l each) (firstL (ptsP l each) h) keep.toNat hlt hsm _ hR _ 0 [] rfl (Nat.zero_le _) (Nat.le_refl _) (by show 0 < keep.toNat; omega) hm
  rw [Nat.add_zero, Nat.mod_eq_of_lt hlt, show ((keep.toNat : Nat) : Int) = keep by omega] at h1
  refine ((rpoints_ev ho).and (rfirst_ev ho h) (q := (ptsP l each, ((firstL (ptsP l each) h : Nat) : Int))) (F := fun k => (icehouseref09_Points.f k l each keep).bind fun p => (icehouseref09_First.f k p h).bind fun f => some (p, f)) (fun k a b => by simp only [a, Option.bind_some, b])).and h1 fun k a b => ?_
  obtain ⟨p, hp, hh⟩ := Option.bind_eq_some_iff.1 a
  obtain ⟨f, hf, hh⟩ := Option.bind_eq_some_iff.1 hh
  have hh := Option.some.inj hh
  injection hh with e1 e2
  subst e1; subst e2
  simp only [icehouseref09_At.f]
  rw [hp, Option.bind_some, hf, Option.bind_some]
  exact b
end Go.Proofs.Yteocngcojijnkaa.Hs
namespace Go.Proofs.Yteocngcojijnkaa.QR
open Go.Proofs.Yteocngcojijnkaa.QH
open Go.RowKit Go.Proofs.YteocngcojijnkaaW.PrintWords Go.Proofs.YteocngcojijnkaaW.PrintLast Go.Proofs.YteocngcojijnkaaW.PrintMore
attribute [local go_sem] max2_int min2_int max_two min_two max_three min_three max_four min_four   -- for this text's walks alone
set_option linter.unusedVariables false
set_option linter.unusedSimpArgs false



-- the values' own types
/-! #### struct type 70 -/
end Go.Proofs.Yteocngcojijnkaa.QR
namespace Go.Proofs.Yteocngcojijnkaa.QR
open Go.Proofs.Yteocngcojijnkaa.QH
open Go.RowKit Go.Proofs.YteocngcojijnkaaW.PrintWords Go.Proofs.YteocngcojijnkaaW.PrintLast Go.Proofs.YteocngcojijnkaaW.PrintMore
attribute [local go_sem] max2_int min2_int max_two min_two max_three min_three max_four min_four   -- for this text's walks alone
set_option linter.unusedVariables false
set_option linter.unusedSimpArgs false
/-! ### ring_Lists: function 37 -/
def ring_Lists.l0 : Nat → List (S70) → Int → List (List Int) → List (S70) → Int → Int → List Int → Int → Int → Option ((List (List Int)) × Int)
  | 0, _, _, _, _, _, _, _, _, _ => none
  | k + 1, x4, x5, x6, x14, x15, x16, x102000, x102001, x102002 => if x16 < x15 then (if 0 ≤ x16 then (if x16 < (x14.length : Int) then ((Hs.ring_first.f x4 ((rd_T70 x14 x16).f0)).bind fun t108 => ((Hs.ring_meet.f x4 t108 x102002).bind fun t109 => (if x6.length < 5864062014805 then (ring_Lists.l0 k x4 x5 (x6 ++ [t109]) x14 x15 (wrap64 (x16 + 1)) x102000 x102001 x102002) else (none)))) else (none)) else (none)) else (some (x6, x5))
def ring_Lists.f (k : Nat) (l0_0 : List Int) (a0_1 : Int) (a0_2 : Int) : Option ((List (List Int)) × Int) := (Hs.ring_Points.f l0_0 a0_1 a0_2).bind fun bt102 => (ring_Lists.l0 k bt102.1 bt102.2 ([] : List (List Int)) bt102.1 (bt102.1.length : Int) 0 l0_0 a0_1 a0_2)
theorem ring_Lists.mono_l : ∀ k, (∀ y0 y1 y2 y3 y4 y5 y6 y7 y8, LeO (ring_Lists.l0 k y0 y1 y2 y3 y4 y5 y6 y7 y8) (ring_Lists.l0 (k + 1) y0 y1 y2 y3 y4 y5 y6 y7 y8))
  | 0 => fun _ _ _ _ _ _ _ _ _ r h => by simp [ring_Lists.l0] at h
  | k + 1 => by
    have ih0 := ring_Lists.mono_l k
    · intro y0 y1 y2 y3 y4 y5 y6 y7 y8
      unfold ring_Lists.l0
      repeat' first
      | (with_reducible exact ih0 _ _ _ _ _ _ _ _ _)
      | (with_reducible exact LeO.refl _)
      | (with_reducible exact LeO.none _)
      | (with_reducible refine LeO.ite ?_ ?_)
      | (with_reducible refine LeO.bind ?_ (fun _ => ?_))
      | exact ih0 _ _ _ _ _ _ _ _ _
      | exact LeO.none _
      | refine LeO.ite ?_ ?_
      | refine LeO.bind ?_ (fun _ => ?_)
theorem ring_Lists.mono : ∀ a0 a1 a2 k, LeO (ring_Lists.f k a0 a1 a2) (ring_Lists.f (k + 1) a0 a1 a2) := by
  intro a0 a1 a2 k
  have ih0 := ring_Lists.mono_l k
  unfold ring_Lists.f
  repeat' first
      | (with_reducible exact ih0 _ _ _ _ _ _ _ _ _)
      | (with_reducible exact LeO.refl _)
      | (with_reducible exact LeO.none _)
      | (with_reducible refine LeO.ite ?_ ?_)
      | (with_reducible refine LeO.bind ?_ (fun _ => ?_))
      | exact ih0 _ _ _ _ _ _ _ _ _
      | exact LeO.none _
      | refine LeO.ite ?_ ?_
      | refine LeO.bind ?_ (fun _ => ?_)
def ring_Lists.T6 : Bool × List (List Nat × List Nat) := (true, [([], []), ([], []), ([], []), ([], []), ([3], [3]), ([2, 4], [2, 4]), ([], []), ([6], [6]), ([1, 5, 7, 5], [1, 5, 7]), ([8], [8]), ([0, 9, 8], [0, 9]), ([10, 10, 0, 1, 2, 3, 4, 5, 6, 7, 8, 9, 10], [0, 10])])
def ring_Lists.B6 : List Nat := [0, 0, 0, 0, 8, 28, 0, 64, 254, 510, 1023, 2047]
theorem ring_Lists.tab6 : rtab .any (opsOf Try.f37 6) = ring_Lists.T6 := by kernel_rfl
theorem ring_Lists.bits6 : waitsOk ring_Lists.T6.2 ring_Lists.B6 = true := by kernel_rfl
set_option maxHeartbeats 8000000 in
set_option maxRecDepth 100000 in
theorem ring_Lists.calls (k : Nat) (A0_0 : Option Addr) (c0_0 : Nat) (l0_0 : List Int) (a0_1 : Int) (a0_2 : Int) (r1 : List (List Int)) (r2 : Int) (w : World) (hr0_0 : Kd.C (Kd.int .i64) w A0_0 l0_0.length l0_0) (hc0_0 : l0_0.length ≤ c0_0) (h : ring_Lists.f k l0_0 a0_1 a0_2 = some (r1, r2)) :
    Calls Try.prog 37 #[.agg #[.slice A0_0 l0_0.length c0_0, .int .i64 a0_1, .int .i64 a0_2]] w fun e w' => ∃ v0_ : Value, e = .returned (.tuple #[v0_, .int .i64 r2]) ∧ Kd.S (Kd.slice 3 (Kd.int .i64)) 22 w' w.heap.size (fun _ => True) v0_ r1 ∧ Below w.heap.size w w' := by
  have hu42 := Try.underlying42
  have hu70 := Try.underlying70
  have HR0_0 := Aside0.mk hr0_0
  have HC0_0 := Aside0.mk hc0_0
  clear hr0_0 hc0_0
  have HB := Aside0.mk (Below.refl w.heap.size w)
  have H : ((Hs.ring_Points.f l0_0 a0_1 a0_2).bind fun bt102 => (ring_Lists.l0 k bt102.1 bt102.2 ([] : List (List Int)) bt102.1 (bt102.1.length : Int) 0 l0_0 a0_1 a0_2)) = some (r1, r2) := h
  clear h
  replace H := Option.bind_eq_some_iff.mp H
  obtain ⟨⟨t102, t105⟩, A20, H⟩ := H
  replace H : (ring_Lists.l0 k t102 t105 ([] : List (List Int)) t102 (t102.length : Int) 0 l0_0 a0_1 a0_2) = some (r1, r2) := H
  have A2 := Aside0.mk A20
  clear A20
  have H' := Aside0.mk H
  clear H
  go_enter Try.func37, Try.ntmps37
  go_wp2_with (first | ((with_reducible refine gate_dst (N := 1) rfl ?_); refine box_event ?hg (N := 1) ?hd (cs := #[.slice A0_0 l0_0.length c0_0, .int .i64 a0_1, .int .i64 a0_2]) (t := 42) ?hr ?_; (case hd => rfl); (case hg => rfl); (case hr => first | (go_simp; done) | (go_simp; rfl)); intro gb101 hg w3 hbox hb; have n0_ := Aside0.mk (below_step (by repeat (first | (with_reducible first | exact HB.out | apply below_alloc | apply pw_below_drewN | apply below_drew1) | exact HB.out)) hb); have n1_ := Aside0.mk (hbox); have n2_ := Aside0.mk ((by rw [hg]; exact (below_size (by repeat (first | (with_reducible first | exact HB.out | apply below_alloc | apply pw_below_drewN | apply below_drew1) | exact HB.out))) : w.heap.size ≤ gb101)); have n3_ := Aside0.mk ((by rw [hg]; exact (below_size (by repeat (first | (with_reducible first | exact HB.out | apply below_alloc | apply pw_below_drewN | apply below_drew1) | exact HB.out))) : w.heap.size ≤ gb101)); clear HB; have HB := n0_; have BK101 := n1_; have GW101 := n2_; have GE101 := n3_; clear n0_ n1_ n2_ n3_; clear hb hbox hg; have hcz4_0 : w3.cell? ⟨gb101, 0, none⟩ = some (.slice A0_0 l0_0.length c0_0) := (blk_cell BK101.out 0).trans rfl; have hcz4_1 : w3.cell? ⟨gb101, 1, none⟩ = some (.int .i64 a0_1) := (blk_cell BK101.out 1).trans rfl; have hcz4_2 : w3.cell? ⟨gb101, 2, none⟩ = some (.int .i64 a0_2) := (blk_cell BK101.out 2).trans rfl; have hfz4_0 := blk_frozen BK101.out 0; have hfz4_1 := blk_frozen BK101.out 1; have hfz4_2 := blk_frozen BK101.out 2) | ((with_reducible refine gate_callee (f := 43) rfl ?_); refine goesL_ (some 11) rfl rfl Try.func43 (by kernel_rfl) rfl #[.agg #[.slice A0_0 l0_0.length c0_0, .int .i64 a0_1, .int .i64 a0_2]] rfl (by (try simp only [List.map_toArray, List.map_cons, List.map_nil]); first | done | rfl | (simp only [List.length_drop, List.length_take]; rfl)) ?_; (with_reducible refine (Hs.ring_Points.calls _ _ l0_0 a0_1 a0_2 t102 t105 _ ?side1 ?side2 A2.out).mono ?_); (case side1 => repeat (first | exact (Kd.C_below HR0_0.out HB.out) | (with_reducible refine Kd.C_alloc ?_ _) | (with_reducible refine Kd.C_drewN ?_ _) | (with_reducible refine Kd.C_drew ?_))); (case side2 => exact HC0_0.out); rintro e w5 ⟨v103, rfl, ho0, hb⟩; refine ⟨_, rfl, ?_⟩; have n0_ := Aside0.mk (Kd.R_lower ho0 (below_size (by repeat (first | (with_reducible first | exact HB.out | apply below_alloc | apply pw_below_drewN | apply below_drew1 | refine below_set ?_ GE101.out) | exact HB.out)))); have n1_ := Aside0.mk (blk_below (g := gb101) (o := .cells #[.slice A0_0 l0_0.length c0_0, .int .i64 a0_1, .int .i64 a0_2] 42 (0, 0)) (by (with_reducible repeat (first | refine blk_drewN ?_ _ | refine blk_drew ?_ | refine blk_alloc ?_ _)); exact BK101.out) hb); have n2_ := Aside0.mk (below_step (by repeat (first | (with_reducible first | exact HB.out | apply below_alloc | apply pw_below_drewN | apply below_drew1 | refine below_set ?_ GE101.out) | exact HB.out)) hb); clear BK101; clear HB; have HO104 := n0_; have BK101 := n1_; have HB := n2_; clear n0_ n1_ n2_; (try clear hb); (try clear hb2); (try clear hk); (try clear hi); (try clear ho0); obtain ⟨Ao6, co6, eo6⟩ := Kd.R_slice HO104.out; subst eo6))
  go_loopg [6, 16] k (fun kq v6 v16 w' => ∃ (x6_1 : List (List Int)) (x16_1 : Int), v16 = .int .i64 x16_1 ∧ Aside0 (ring_Lists.l0 kq t102 t105 x6_1 t102 (t102.length : Int) x16_1 l0_0 a0_1 a0_2 = some (r1, r2)) ∧ Aside0 (kq ≤ k) ∧ Aside0 (Kd.R k70 70 w' w.heap.size (fun _ => True) (.slice Ao6 t102.length co6) t102) ∧ Aside0 (Kd.S (Kd.slice 3 (Kd.int .i64)) 22 w' w.heap.size (fun _ => True) v6 x6_1) ∧ Aside0 (Kd.R k70 70 w' w.heap.size (fun _ => True) (.slice Ao6 t102.length co6) t102) ∧ Aside0 (w'.heap[gb101]? = some (.cells #[(.slice A0_0 l0_0.length c0_0), .int .i64 a0_1, .int .i64 a0_2] 42 (0, 0))) ∧ Aside0 (Below w.heap.size w w'))
  case atStart => exact ⟨(([] : List (List Int))), (0), (by first | rfl | (simp; done) | (simp [*]; done)), H', ⟨Nat.le_refl _⟩, ⟨by (with_reducible repeat (first | apply Kd.R_alloc | apply Kd.R_drewN | apply Kd.R_drew)); exact HO104.out⟩, ⟨by first | exact Kd.S_nil _ _ _ _ _ | exact Kd.N_nil _ _ _ _ _ | exact Kd.V_nil _ _ _ _ _ | exact Kd.Q_nil _ _ _ _ _ | exact Kd.R_nil _ _ _ _ _⟩, ⟨by (with_reducible repeat (first | apply Kd.R_alloc | apply Kd.R_drewN | apply Kd.R_drew)); exact HO104.out⟩, ⟨by (with_reducible repeat (first | refine blk_drewN ?_ _ | refine blk_drew ?_ | refine blk_alloc ?_ _)); exact BK101.out⟩, ⟨by repeat (first | (with_reducible first | exact HB.out | apply below_alloc | apply pw_below_drewN | apply below_drew1 | refine below_set ?_ GE101.out) | exact HB.out)⟩⟩
  case round =>
    clear H'
    try clear p2
    try clear c3
    try clear c4
    try clear hcz4_0
    try clear hcz4_1
    try clear hcz4_2
    try clear hfz4_0
    try clear hfz4_1
    try clear hfz4_2
    obtain ⟨x6_1, x16_1, rfl, HA, HK1, HO_4, HO_6, HO_14, BK101, HB⟩ := hrel
    cases gk with
    | zero => exact absurd HA.out (by simp [ring_Lists.l0])
    | succ k1 =>
      have H := HA.out
      clear HA
      simp only [ring_Lists.l0] at H
      by_cases c7 : x16_1 < (t102.length : Int)
      · rw [if_pos c7] at H
        have c7b0 : decide (x16_1 < (t102.length : Int)) = true := decide_eq_true c7
        clear c7
        by_cases c8 : 0 ≤ x16_1
        · rw [if_pos c8] at H
          have c8b0 : decide (0 ≤ x16_1) = true := decide_eq_true c8
          clear c8
          by_cases c9 : x16_1 < (t102.length : Int)
          · rw [if_pos c9] at H
            have c9b0 : decide (x16_1 < (t102.length : Int)) = true := decide_eq_true c9
            clear c9
            replace H := Option.bind_eq_some_iff.mp H
            obtain ⟨t108, A100, H⟩ := H
            replace H : ((Hs.ring_meet.f t102 t108 a0_2).bind fun t109 => (if x6_1.length < 5864062014805 then (ring_Lists.l0 k1 t102 t105 (x6_1 ++ [t109]) t102 (t102.length : Int) (wrap64 (x16_1 + 1)) l0_0 a0_1 a0_2) else (none))) = some (r1, r2) := H
            have A10 := Aside0.mk A100
            clear A100
            replace H := Option.bind_eq_some_iff.mp H
            obtain ⟨t109, A110, H⟩ := H
            replace H : (if x6_1.length < 5864062014805 then (ring_Lists.l0 k1 t102 t105 (x6_1 ++ [t109]) t102 (t102.length : Int) (wrap64 (x16_1 + 1)) l0_0 a0_1 a0_2) else (none)) = some (r1, r2) := H
            have A11 := Aside0.mk A110
            clear A110
            by_cases c12 : x6_1.length < 5864062014805
            · rw [if_pos c12] at H
              have LMc12 := Aside0.mk c12
              clear c12
              obtain ⟨y112, hy112⟩ : ∃ y_ : List (List Int), y_ = (x6_1 ++ [t109]) := ⟨_, rfl⟩
              replace H : (ring_Lists.l0 k1 t102 t105 y112 t102 (t102.length : Int) (wrap64 (x16_1 + 1)) l0_0 a0_1 a0_2) = some (r1, r2) := by first | (rw [hy112]; with_reducible exact H) | (have H2_ := (Option.bind_some _ _).symm.trans H; rw [hy112]; with_reducible exact H2_) | (have H2_ := (Option.bind_some _ _).symm.trans H; with_reducible exact H2_) | with_reducible exact H | (rw [hy112]; exact H) | exact H
              have Ny112 := Aside0.mk hy112
              clear hy112
              have H' := Aside0.mk H
              clear H
              have p106 : 0 ≤ (x16_1 : Int) := of_decide_eq_true (by first | (with_reducible assumption) | assumption)
              have q106 : x16_1 < (t102.length : Int) := of_decide_eq_true (by first | (with_reducible assumption) | assumption)
              obtain ⟨ad106, e106, hx106_0, hx106_1⟩ := at_T70 (Kd.R_reads' HO_14.out).2.2 x16_1 p106 q106
              cases e106
              replace p106 := eq_true p106
              replace q106 := eq_true q106
              try go_wp2_with (first | ((with_reducible refine gate_dst (N := 8) rfl ?_); refine box_event ?hg (N := 8) ?hd (cs := #[.int .u64 0, .int .i64 0]) (t := 70) ?hr ?_; (case hd => rfl); (case hg => rfl); (case hr => first | (go_simp; done) | (go_simp; rfl)); intro gb107 hg w13 hbox hb; have n0_ := Aside0.mk (Kd.R_below (Kd.R_elderB (by (with_reducible repeat (first | apply Kd.R_alloc | apply Kd.R_drewN | apply Kd.R_drew)); exact HO_4.out) gb107 (Nat.le_of_eq hg.symm)) hb); have n1_ := Aside0.mk (Kd.S_below (by (with_reducible repeat (first | apply Kd.S_alloc | apply Kd.S_drewN | apply Kd.S_drew)); exact HO_6.out) hb); have n2_ := Aside0.mk (Kd.R_below (Kd.R_elderB (by (with_reducible repeat (first | apply Kd.R_alloc | apply Kd.R_drewN | apply Kd.R_drew)); exact HO_14.out) gb107 (Nat.le_of_eq hg.symm)) hb); have n3_ := Aside0.mk (blk_below (g := gb101) (o := .cells #[.slice A0_0 l0_0.length c0_0, .int .i64 a0_1, .int .i64 a0_2] 42 (0, 0)) (by (with_reducible repeat (first | refine blk_drewN ?_ _ | refine blk_drew ?_ | refine blk_alloc ?_ _)); exact BK101.out) hb); have n4_ := Aside0.mk (below_step (by repeat (first | (with_reducible first | exact HB.out | apply below_alloc | apply pw_below_drewN | apply below_drew1 | refine below_set ?_ GE101.out) | exact HB.out)) hb); have n5_ := Aside0.mk (hbox); have n6_ := Aside0.mk ((by rw [hg]; exact (below_size (by repeat (first | (with_reducible first | exact HB.out | apply below_alloc | apply pw_below_drewN | apply below_drew1 | refine below_set ?_ GE101.out) | exact HB.out))) : w.heap.size ≤ gb107)); have n7_ := Aside0.mk ((by rw [hg]; exact (below_size (by repeat (first | (with_reducible first | exact HB.out | apply below_alloc | apply pw_below_drewN | apply below_drew1 | refine below_set ?_ GE101.out) | exact HB.out))) : w.heap.size ≤ gb107)); have n8_ := Aside0.mk ((by rw [hg]; exact Nat.ne_of_lt (blk_lt (g := gb101) (o := .cells #[.slice A0_0 l0_0.length c0_0, .int .i64 a0_1, .int .i64 a0_2] 42 (0, 0)) (by (with_reducible repeat (first | refine blk_drewN ?_ _ | refine blk_drew ?_ | refine blk_alloc ?_ _)); exact BK101.out)) : gb101 ≠ gb107)); have n9_ := Aside0.mk ((by rw [hg]; exact Nat.ne_of_gt (blk_lt (g := gb101) (o := .cells #[.slice A0_0 l0_0.length c0_0, .int .i64 a0_1, .int .i64 a0_2] 42 (0, 0)) (by (with_reducible repeat (first | refine blk_drewN ?_ _ | refine blk_drew ?_ | refine blk_alloc ?_ _)); exact BK101.out)) : gb107 ≠ gb101)); clear HO_4; clear HO_6; clear HO_14; clear BK101; clear HB; have HO_4 := n0_; have HO_6 := n1_; have HO_14 := n2_; have BK101 := n3_; have HB := n4_; have BK107 := n5_; have GW107 := n6_; have GE107 := n7_; have NB101_107 := n8_; have NB107_101 := n9_; clear n0_ n1_ n2_ n3_ n4_ n5_ n6_ n7_ n8_ n9_; clear hb hbox hg; have hnb14 := NB107_101.out; have hnc14 := NB101_107.out; have hcz15_0 : w13.cell? ⟨gb107, 0, none⟩ = some (.int .u64 0) := (blk_cell BK107.out 0).trans rfl; have hcz15_1 : w13.cell? ⟨gb107, 1, none⟩ = some (.int .i64 0) := (blk_cell BK107.out 1).trans rfl; have hfz15_0 := blk_frozen BK107.out 0; have hfz15_1 := blk_frozen BK107.out 1))
              have n0_ : Aside0 (Kd.R k70 70 ((w13.setCell ⟨gb107, 0, none⟩ (.int .u64 ((rd_T70 t102 x16_1).f0))).setCell ⟨gb107, 1, none⟩ (.int .i64 ((rd_T70 t102 x16_1).f1))) w.heap.size (fun k_ => k_ ≠ gb107) (.slice (some ad106) t102.length co6) t102) := ⟨by (with_reducible repeat (first | apply Kd.R_alloc | apply Kd.R_drewN | apply Kd.R_drew)); exact Kd.R_mono (Kd.R_far (p := ⟨gb107, 1, none⟩) (Kd.R_far (p := ⟨gb107, 0, none⟩) (Kd.R_mono HO_4.out (fun k_ hk => (⟨hk, hk.2⟩ : _ ∧ k_ ≠ gb107))) (fun _ hk => hk.2) (.int .u64 ((rd_T70 t102 x16_1).f0))) (fun _ hk => hk.2) (.int .i64 ((rd_T70 t102 x16_1).f1))) (fun _ hk => hk.1.2)⟩
              have n1_ : Aside0 (Kd.S (Kd.slice 3 (Kd.int .i64)) 22 ((w13.setCell ⟨gb107, 0, none⟩ (.int .u64 ((rd_T70 t102 x16_1).f0))).setCell ⟨gb107, 1, none⟩ (.int .i64 ((rd_T70 t102 x16_1).f1))) w.heap.size (fun _ => True) u6 x6_1) := ⟨by (with_reducible repeat (first | apply Kd.S_alloc | apply Kd.S_drewN | apply Kd.S_drew)); exact Kd.S_mono (Kd.S_far (p := ⟨gb107, 1, none⟩) (Kd.S_far (p := ⟨gb107, 0, none⟩) (Kd.S_types HO_6.out BK107.out (by decide)) (fun _ hk => hk.2) (.int .u64 ((rd_T70 t102 x16_1).f0))) (fun _ hk => hk.2) (.int .i64 ((rd_T70 t102 x16_1).f1))) (fun _ hk => trivial)⟩
              have n2_ : Aside0 (Kd.R k70 70 ((w13.setCell ⟨gb107, 0, none⟩ (.int .u64 ((rd_T70 t102 x16_1).f0))).setCell ⟨gb107, 1, none⟩ (.int .i64 ((rd_T70 t102 x16_1).f1))) w.heap.size (fun k_ => k_ ≠ gb107) (.slice (some ad106) t102.length co6) t102) := ⟨by (with_reducible repeat (first | apply Kd.R_alloc | apply Kd.R_drewN | apply Kd.R_drew)); exact Kd.R_mono (Kd.R_far (p := ⟨gb107, 1, none⟩) (Kd.R_far (p := ⟨gb107, 0, none⟩) (Kd.R_mono HO_14.out (fun k_ hk => (⟨hk, hk.2⟩ : _ ∧ k_ ≠ gb107))) (fun _ hk => hk.2) (.int .u64 ((rd_T70 t102 x16_1).f0))) (fun _ hk => hk.2) (.int .i64 ((rd_T70 t102 x16_1).f1))) (fun _ hk => hk.1.2)⟩
              have n3_ : Aside0 (((w13.setCell ⟨gb107, 0, none⟩ (.int .u64 ((rd_T70 t102 x16_1).f0))).setCell ⟨gb107, 1, none⟩ (.int .i64 ((rd_T70 t102 x16_1).f1))).heap[gb101]? = some (.cells #[.slice A0_0 l0_0.length c0_0, .int .i64 a0_1, .int .i64 a0_2] 42 (0, 0))) := ⟨by (with_reducible repeat (first | refine blk_drewN ?_ _ | refine blk_drew ?_ | refine blk_alloc ?_ _)); refine blk_far ?_ NB101_107.out _; (with_reducible repeat (first | refine blk_drewN ?_ _ | refine blk_drew ?_ | refine blk_alloc ?_ _)); refine blk_far ?_ NB101_107.out _; (with_reducible repeat (first | refine blk_drewN ?_ _ | refine blk_drew ?_ | refine blk_alloc ?_ _)); exact BK101.out⟩
              have n4_ : Aside0 (((w13.setCell ⟨gb107, 0, none⟩ (.int .u64 ((rd_T70 t102 x16_1).f0))).setCell ⟨gb107, 1, none⟩ (.int .i64 ((rd_T70 t102 x16_1).f1))).heap[gb107]? = some (.cells #[.int .u64 ((rd_T70 t102 x16_1).f0), .int .i64 ((rd_T70 t102 x16_1).f1)] 70 (0, 0))) := ⟨by (with_reducible repeat (first | refine blk_drewN ?_ _ | refine blk_drew ?_ | refine blk_alloc ?_ _)); refine blk_put (cs := #[.int .u64 ((rd_T70 t102 x16_1).f0), .int .i64 0]) ?_ 1 _ rfl; (with_reducible repeat (first | refine blk_drewN ?_ _ | refine blk_drew ?_ | refine blk_alloc ?_ _)); refine blk_put (cs := #[.int .u64 0, .int .i64 0]) ?_ 0 _ rfl; (with_reducible repeat (first | refine blk_drewN ?_ _ | refine blk_drew ?_ | refine blk_alloc ?_ _)); exact BK107.out⟩
              have n5_ : Aside0 (Below w.heap.size w ((w13.setCell ⟨gb107, 0, none⟩ (.int .u64 ((rd_T70 t102 x16_1).f0))).setCell ⟨gb107, 1, none⟩ (.int .i64 ((rd_T70 t102 x16_1).f1)))) := ⟨by repeat (first | (with_reducible first | exact HB.out | apply below_alloc | apply pw_below_drewN | apply below_drew1 | refine below_set ?_ GE101.out | refine below_set ?_ GE107.out) | exact HB.out)⟩
              (try clear HO_4)
              (try clear HO_6)
              (try clear HO_14)
              (try clear BK101)
              (try clear BK107)
              (try clear HB)
              generalize ((w13.setCell ⟨gb107, 0, none⟩ (.int .u64 ((rd_T70 t102 x16_1).f0))).setCell ⟨gb107, 1, none⟩ (.int .i64 ((rd_T70 t102 x16_1).f1))) = w16 at n0_ n1_ n2_ n3_ n4_ n5_ ⊢
              have HO_4 := n0_
              have HO_6 := n1_
              have HO_14 := n2_
              have BK101 := n3_
              have BK107 := n4_
              have HB := n5_
              clear n0_ n1_ n2_ n3_ n4_ n5_
              have n0_ := Aside0.mk (Kd.R_drew HO_4.out)
              have n1_ := Aside0.mk (Kd.S_drew HO_6.out)
              have n2_ := Aside0.mk (Kd.R_drew HO_14.out)
              have n3_ := Aside0.mk (blk_drew BK101.out)
              have n4_ := Aside0.mk (blk_drew BK107.out)
              have n5_ := Aside0.mk (below_drew1 HB.out)
              clear HO_4
              clear HO_6
              clear HO_14
              clear BK101
              clear BK107
              clear HB
              have HO_4 := n0_
              have HO_6 := n1_
              have HO_14 := n2_
              have BK101 := n3_
              have BK107 := n4_
              have HB := n5_
              clear n0_ n1_ n2_ n3_ n4_ n5_
              refine start_ (n := 12) (S := fun w' => w'.cell? ⟨gb107, 0, none⟩ = some (.int .u64 ((rd_T70 t102 x16_1).f0)) ∧ w'.cell? ⟨gb107, 1, none⟩ = some (.int .i64 ((rd_T70 t102 x16_1).f1)) ∧ w'.cell? ⟨gb101, 0, none⟩ = some (.slice A0_0 l0_0.length c0_0) ∧ w'.cell? ⟨gb101, 1, none⟩ = some (.int .i64 a0_1) ∧ w'.cell? ⟨gb101, 2, none⟩ = some (.int .i64 a0_2)) (ds := []) #[false, false, false, false, false, false, false, false, false, false, false, false] (by kernel_rfl) rfl rfl ⟨(blk_cell BK107.out 0).trans rfl, (blk_cell BK107.out 1).trans rfl, (blk_cell BK101.out 0).trans rfl, (blk_cell BK101.out 1).trans rfl, (blk_cell BK101.out 2).trans rfl⟩ (fun hHeld => ?_); refine with_tabW ring_Lists.tab6 ring_Lists.bits6 (fun HT_ HW_ => ?_)
              generalize w16.drew = w17 at HO_4 HO_6 HO_14 BK101 BK107 HB hHeld ⊢
              refine pure_ (i := 0) (N := some 20) (v := ?_) (a' := ?_) #[true, false, false, false, false, false, false, false, false, false, false, false] rfl rfl (any_of HT_.out (by kernel_rfl)) (fun _ _ _ h => h) (Or.inl ⟨by rfl, ?_⟩) ?_ ?_
              rotate_left
              · intro w'
                go_simp
                with_reducible rfl
              rotate_left
              · simp only [Act.put, List.setIfInBounds_toArray, List.set_cons_zero, List.set_cons_succ, i64_w, i32_w]
                rfl
              refine pure_ (i := 1) (N := some 21) (v := ?_) (a' := ?_) #[true, true, false, false, false, false, false, false, false, false, false, false] rfl rfl (any_of HT_.out (by kernel_rfl)) (fun _ _ _ h => h) (Or.inl ⟨by rfl, ?_⟩) ?_ ?_
              rotate_left
              · intro w'
                go_simp
                with_reducible rfl
              rotate_left
              · simp only [Act.put, List.setIfInBounds_toArray, List.set_cons_zero, List.set_cons_succ, i64_w, i32_w]
                rfl
              refine pure_ (i := 2) (N := some 22) (v := ?_) (a' := ?_) #[true, true, true, false, false, false, false, false, false, false, false, false] rfl rfl (any_of HT_.out (by kernel_rfl)) (fun _ _ _ h => h) (Or.inl ⟨by rfl, ?_⟩) ?_ ?_
              rotate_left
              · intro w'
                go_simp
                with_reducible rfl
              rotate_left
              · simp only [Act.put, List.setIfInBounds_toArray, List.set_cons_zero, List.set_cons_succ, i64_w, i32_w]
                rfl
              refine pure_ (i := 3) (N := some 23) (v := ?_) (a' := ?_) #[true, true, true, true, false, false, false, false, false, false, false, false] rfl rfl (any_of HT_.out (by kernel_rfl)) (fun _ _ _ h => h) (Or.inl ⟨by rfl, ?_⟩) ?_ ?_
              rotate_left
              · intro w'
                go_simp
                with_reducible rfl
              rotate_left
              · simp only [Act.put, List.setIfInBounds_toArray, List.set_cons_zero, List.set_cons_succ, i64_w, i32_w]
                rfl
              refine pure_ (i := 6) (N := some 26) (v := ?_) (a' := ?_) #[true, true, true, true, false, false, true, false, false, false, false, false] rfl rfl (any_of HT_.out (by kernel_rfl)) (fun _ _ _ h => h) (Or.inl ⟨by rfl, ?_⟩) ?_ ?_
              rotate_left
              · intro w'
                go_simp
                with_reducible rfl
              rotate_left
              · simp only [Act.put, List.setIfInBounds_toArray, List.set_cons_zero, List.set_cons_succ, i64_w, i32_w]
                rfl
              refine take_ (i := 4) (N := some 24) (v := ?_) (a' := ?_) #[true, true, true, true, true, false, true, false, false, false, false, false] rfl rfl (take_ofW HT_.out HW_.out (by kernel_rfl)) (fun _ _ _ h => h) (Or.inl ⟨by rfl, ?_⟩) hHeld ?_ ?_
              rotate_left
              · rintro w' ⟨s0, s1, s2, s3, s4⟩
                go_simp
                with_reducible rfl
              rotate_left
              · simp only [Act.put, List.setIfInBounds_toArray, List.set_cons_zero, List.set_cons_succ, i64_w, i32_w]
                rfl
              refine take_ (i := 7) (N := some 27) (v := ?_) (a' := ?_) #[true, true, true, true, true, false, true, true, false, false, false, false] rfl rfl (take_ofW HT_.out HW_.out (by kernel_rfl)) (fun _ _ _ h => h) (Or.inl ⟨by rfl, ?_⟩) hHeld ?_ ?_
              rotate_left
              · rintro w' ⟨s0, s1, s2, s3, s4⟩
                go_simp
                with_reducible rfl
              rotate_left
              · simp only [Act.put, List.setIfInBounds_toArray, List.set_cons_zero, List.set_cons_succ, i64_w, i32_w]
                rfl
              refine one_ (i := 5) (N := some 25) #[true, true, true, true, true, true, true, true, false, false, false, false] rfl rfl (one_of HT_.out (by kernel_rfl)) (by decide) (fun K hK => ?_)
              refine goes_ Try.func45 (by kernel_rfl) rfl #[.slice (some ad106) t102.length co6, .int .u64 ((rd_T70 t102 x16_1).f0)] (by rfl) rfl rfl (by (try simp only [List.map_toArray, List.map_cons, List.map_nil]); first | done | rfl | (simp only [List.length_drop, List.length_take]; rfl)) ?_
              with_reducible refine (Hs.ring_first.calls _ _ t102 ((rd_T70 t102 x16_1).f0) t108 _ ?side1 ?side2 A10.out).mono ?_
              (case side1 => repeat (first | exact (Kd.R_reads' HO_4.out).2.2 | (with_reducible refine Kd.C_alloc ?_ _) | (with_reducible refine Kd.C_drewN ?_ _) | (with_reducible refine Kd.C_drew ?_)))
              (case side2 => exact (Kd.R_reads' HO_4.out).2.1)
              rintro e w18 ⟨rfl, hb⟩
              refine ⟨_, rfl, ?_⟩
              have n0_ := Aside0.mk (Kd.R_below (by (with_reducible repeat (first | apply Kd.R_alloc | apply Kd.R_drewN | apply Kd.R_drew)); exact HO_4.out) hb)
              have n1_ := Aside0.mk (Kd.S_below (by (with_reducible repeat (first | apply Kd.S_alloc | apply Kd.S_drewN | apply Kd.S_drew)); exact HO_6.out) hb)
              have n2_ := Aside0.mk (Kd.R_below (by (with_reducible repeat (first | apply Kd.R_alloc | apply Kd.R_drewN | apply Kd.R_drew)); exact HO_14.out) hb)
              have n3_ := Aside0.mk (blk_below (g := gb101) (o := .cells #[.slice A0_0 l0_0.length c0_0, .int .i64 a0_1, .int .i64 a0_2] 42 (0, 0)) (by (with_reducible repeat (first | refine blk_drewN ?_ _ | refine blk_drew ?_ | refine blk_alloc ?_ _)); exact BK101.out) hb)
              have n4_ := Aside0.mk (blk_below (g := gb107) (o := .cells #[.int .u64 ((rd_T70 t102 x16_1).f0), .int .i64 ((rd_T70 t102 x16_1).f1)] 70 (0, 0)) (by (with_reducible repeat (first | refine blk_drewN ?_ _ | refine blk_drew ?_ | refine blk_alloc ?_ _)); exact BK107.out) hb)
              have n5_ := Aside0.mk (below_step (by repeat (first | (with_reducible first | exact HB.out | apply below_alloc | apply pw_below_drewN | apply below_drew1 | refine below_set ?_ GE101.out | refine below_set ?_ GE107.out) | exact HB.out)) hb)
              clear HO_4
              clear HO_6
              clear HO_14
              clear BK101
              clear BK107
              clear HB
              have HO_4 := n0_
              have HO_6 := n1_
              have HO_14 := n2_
              have BK101 := n3_
              have BK107 := n4_
              have HB := n5_
              clear n0_ n1_ n2_ n3_ n4_ n5_
              (try clear hb)
              (try clear hb2)
              (try clear hk)
              (try clear hi)
              refine hK.out _ _ ⟨(blk_cell BK107.out 0).trans rfl, (blk_cell BK107.out 1).trans rfl, (blk_cell BK101.out 0).trans rfl, (blk_cell BK101.out 1).trans rfl, (blk_cell BK101.out 2).trans rfl⟩ (fun hHeld => ?_)
              clear hK K
              refine norm_ (a' := ?_) ?_ ?_
              rotate_left
              · show Act.put _ (some 25) _ = _
                simp only [Act.put, List.setIfInBounds_toArray, List.set_cons_zero, List.set_cons_succ, i64_w, i32_w]
                rfl
              refine one_ (i := 8) (N := some 28) #[true, true, true, true, true, true, true, true, true, false, false, false] rfl rfl (one_of HT_.out (by kernel_rfl)) (by decide) (fun K hK => ?_)
              refine goes_ Try.func44 (by kernel_rfl) rfl #[.slice (some ad106) t102.length co6, .int .i64 t108, .int .i64 a0_2] (by rfl) rfl rfl (by (try simp only [List.map_toArray, List.map_cons, List.map_nil]); first | done | rfl | (simp only [List.length_drop, List.length_take]; rfl)) ?_
              with_reducible refine (Hs.ring_meet.calls _ _ t102 t108 a0_2 t109 _ ?side1 ?side2 A11.out).mono ?_
              (case side1 => repeat (first | exact (Kd.R_reads' HO_4.out).2.2 | (with_reducible refine Kd.C_alloc ?_ _) | (with_reducible refine Kd.C_drewN ?_ _) | (with_reducible refine Kd.C_drew ?_)))
              (case side2 => exact (Kd.R_reads' HO_4.out).2.1)
              rintro e w19 ⟨v110, rfl, ho0, hb⟩
              refine ⟨_, rfl, ?_⟩
              have n0_ := Aside0.mk (Kd.R_below (by (with_reducible repeat (first | apply Kd.R_alloc | apply Kd.R_drewN | apply Kd.R_drew)); exact HO_4.out) hb)
              have n1_ := Aside0.mk (Kd.S_elder' (by (with_reducible repeat (first | apply Kd.S_alloc | apply Kd.S_drewN | apply Kd.S_drew)); exact HO_6.out) (Kd.R_base ho0) hb)
              have n2_ := Aside0.mk (Kd.R_below (by (with_reducible repeat (first | apply Kd.R_alloc | apply Kd.R_drewN | apply Kd.R_drew)); exact HO_14.out) hb)
              have n3_ := Aside0.mk (Kd.R_lower ho0 (below_size (by repeat (first | (with_reducible first | exact HB.out | apply below_alloc | apply pw_below_drewN | apply below_drew1 | refine below_set ?_ GE101.out | refine below_set ?_ GE107.out) | exact HB.out))))
              have n4_ := Aside0.mk (blk_below (g := gb101) (o := .cells #[.slice A0_0 l0_0.length c0_0, .int .i64 a0_1, .int .i64 a0_2] 42 (0, 0)) (by (with_reducible repeat (first | refine blk_drewN ?_ _ | refine blk_drew ?_ | refine blk_alloc ?_ _)); exact BK101.out) hb)
              have n5_ := Aside0.mk (blk_below (g := gb107) (o := .cells #[.int .u64 ((rd_T70 t102 x16_1).f0), .int .i64 ((rd_T70 t102 x16_1).f1)] 70 (0, 0)) (by (with_reducible repeat (first | refine blk_drewN ?_ _ | refine blk_drew ?_ | refine blk_alloc ?_ _)); exact BK107.out) hb)
              have n6_ := Aside0.mk (below_step (by repeat (first | (with_reducible first | exact HB.out | apply below_alloc | apply pw_below_drewN | apply below_drew1 | refine below_set ?_ GE101.out | refine below_set ?_ GE107.out) | exact HB.out)) hb)
              clear HO_4
              clear HO_6
              clear HO_14
              clear BK101
              clear BK107
              clear HB
              have HO_4 := n0_
              have HO_6 := n1_
              have HO_14 := n2_
              have HO111 := n3_
              have BK101 := n4_
              have BK107 := n5_
              have HB := n6_
              clear n0_ n1_ n2_ n3_ n4_ n5_ n6_
              (try clear hb)
              (try clear hb2)
              (try clear hk)
              (try clear hi)
              (try clear ho0)
              obtain ⟨Ao21, co21, eo21⟩ := Kd.R_slice HO111.out
              (first | subst eo21 | (injection eo21 with f1_ f2_ f3_; have f4_ := f1_.symm; have f5_ := f3_.symm; clear f1_ f2_ f3_; subst f4_; subst f5_))
              refine hK.out _ _ ⟨(blk_cell BK107.out 0).trans rfl, (blk_cell BK107.out 1).trans rfl, (blk_cell BK101.out 0).trans rfl, (blk_cell BK101.out 1).trans rfl, (blk_cell BK101.out 2).trans rfl⟩ (fun hHeld => ?_)
              clear hK K
              refine norm_ (a' := ?_) ?_ ?_
              rotate_left
              · show Act.put _ (some 28) _ = _
                simp only [Act.put, List.setIfInBounds_toArray, List.set_cons_zero, List.set_cons_succ, i64_w, i32_w]
                rfl
              refine one_ (i := 9) (N := some 29) #[true, true, true, true, true, true, true, true, true, true, false, false] rfl rfl (one_of HT_.out (by kernel_rfl)) (by decide) (fun K hK => ?_)
              refine value_ (w1 := ?_) (v := ?_) (by rfl) rfl ?_ ?_
              rotate_left 2
              · go_simp
                constructor
                · rfl
                · rfl
              refine hK.out _ _ ⟨(blk_cell (blk_alloc BK107.out _) 0).trans rfl, (blk_cell (blk_alloc BK107.out _) 1).trans rfl, (blk_cell (blk_alloc BK101.out _) 0).trans rfl, (blk_cell (blk_alloc BK101.out _) 1).trans rfl, (blk_cell (blk_alloc BK101.out _) 2).trans rfl⟩ (fun hHeld => ?_)
              clear hK K
              refine norm_ (a' := ?_) ?_ ?_
              rotate_left
              · show Act.put _ (some 29) _ = _
                simp only [Act.put, List.setIfInBounds_toArray, List.set_cons_zero, List.set_cons_succ, i64_w, i32_w]
                rfl
              refine one_ (i := 10) (N := some 30) #[true, true, true, true, true, true, true, true, true, true, true, false] rfl rfl (one_of HT_.out (by kernel_rfl)) (by decide) (fun K hK => ?_)
              refine Kd.S_append_step (Kd.slice 3 (Kd.int .i64)) (w0 := w) w.heap.size (by rfl) (.tmp 20) (.tmp 29) 58 22 (.slice none 0 0) 24 rfl Try.underlying58 info22 rfl (by decide) (by omega) u6 x6_1 t109 [.slice Ao21 t109.length co21] (fun _ => True) (fun k_ => some k_ = (.slice Ao21 t109.length co21 : Value).ownBlock) rfl rfl ?aP (fun k_ hk_ => ((Kd.R_mono (ok' := fun k_ => ((fun _ => True)) k_ ∧ some k_ ≠ (u6 : Value).ownBlock) (Kd.R_apart' (HO111.out) (Kd.S_typed HO_6.out) (by decide)) (fun k_ hk => ⟨trivial, hk.2⟩))).1 k_ hk_.symm) ?aF ?aO ?aB ?aS ?aL ?_
              (case aP => exact Kd.M_row (Kd.R_mono (Kd.R_tight rfl (Kd.R_mono (ok' := fun k_ => ((fun _ => True)) k_ ∧ some k_ ≠ (u6 : Value).ownBlock) (Kd.R_apart' (HO111.out) (Kd.S_typed HO_6.out) (by decide)) (fun k_ hk => ⟨trivial, hk.2⟩))) (fun _ h_ => h_)))
              (case aB => exact (by repeat (first | (with_reducible first | exact HB.out | apply below_alloc | apply pw_below_drewN | apply below_drew1 | refine below_set ?_ GE101.out | refine below_set ?_ GE107.out) | exact HB.out)))
              (case aF => exact (fun _ _ => trivial))
              (case aO => exact (by (with_reducible repeat (first | apply Kd.S_alloc | apply Kd.S_drewN | apply Kd.S_drew)); exact Kd.S_mono HO_6.out (fun k_ hk => ⟨trivial, fun e_ => hk.2 e_⟩)))
              (case aS => exact (below_size (by repeat (first | (with_reducible first | exact HB.out | apply below_alloc | apply pw_below_drewN | apply below_drew1 | refine below_set ?_ GE101.out | refine below_set ?_ GE107.out) | exact HB.out))))
              (case aL => have := LMc12.out; omega)
              intro v113 w20 ho hb hg hat
              rw [← Ny112.out] at ho
              have n0_ := Aside0.mk (Kd.R_over' (by (with_reducible repeat (first | apply Kd.R_alloc | apply Kd.R_drewN | apply Kd.R_drew)); exact HO_4.out) (Kd.S_typed (by (with_reducible repeat (first | apply Kd.S_alloc | apply Kd.S_drewN | apply Kd.S_drew)); exact HO_6.out)) (by decide) hg)
              have n1_ := Aside0.mk (Kd.R_over' (by (with_reducible repeat (first | apply Kd.R_alloc | apply Kd.R_drewN | apply Kd.R_drew)); exact HO_14.out) (Kd.S_typed (by (with_reducible repeat (first | apply Kd.S_alloc | apply Kd.S_drewN | apply Kd.S_drew)); exact HO_6.out)) (by decide) hg)
              have n2_ := Aside0.mk (blk_grown (g := gb101) (o := .cells #[.slice A0_0 l0_0.length c0_0, .int .i64 a0_1, .int .i64 a0_2] 42 (0, 0)) (by (with_reducible repeat (first | refine blk_drewN ?_ _ | refine blk_drew ?_ | refine blk_alloc ?_ _)); exact BK101.out) hg (Kd.S_ne HO_6.out BK101.out (by decide)))
              have n3_ := Aside0.mk (blk_grown (g := gb107) (o := .cells #[.int .u64 ((rd_T70 t102 x16_1).f0), .int .i64 ((rd_T70 t102 x16_1).f1)] 70 (0, 0)) (by (with_reducible repeat (first | refine blk_drewN ?_ _ | refine blk_drew ?_ | refine blk_alloc ?_ _)); exact BK107.out) hg (Kd.S_ne HO_6.out BK107.out (by decide)))
              have n4_ := Aside0.mk (hb)
              have n5_ := Aside0.mk (ho)
              clear HO_4
              clear HO_14
              clear BK101
              clear BK107
              clear HB
              clear HO_6
              clear HO111
              have HO_4 := n0_
              have HO_14 := n1_
              have BK101 := n2_
              have BK107 := n3_
              have HB := n4_
              have HO114 := n5_
              clear n0_ n1_ n2_ n3_ n4_ n5_
              clear ho hb hg hat
              refine hK.out _ _ ⟨(blk_cell BK107.out 0).trans rfl, (blk_cell BK107.out 1).trans rfl, (blk_cell BK101.out 0).trans rfl, (blk_cell BK101.out 1).trans rfl, (blk_cell BK101.out 2).trans rfl⟩ (fun hHeld => ?_)
              clear hK K
              refine norm_ (a' := ?_) ?_ ?_
              rotate_left
              · show Act.put _ (some 30) _ = _
                simp only [Act.put, List.setIfInBounds_toArray, List.set_cons_zero, List.set_cons_succ, i64_w, i32_w]
                rfl
              refine pure_ (i := 11) (N := some 6) (v := ?_) (a' := ?_) #[true, true, true, true, true, true, true, true, true, true, true, true] rfl rfl (any_of HT_.out (by kernel_rfl)) (fun _ _ _ h => h) (Or.inl ⟨by rfl, ?_⟩) ?_ ?_
              rotate_left
              · intro w'
                go_simp
                with_reducible rfl
              rotate_left
              · simp only [Act.put, List.setIfInBounds_toArray, List.set_cons_zero, List.set_cons_succ, i64_w, i32_w]
                rfl
              refine done_ (done_of HT_.out (by kernel_rfl)) ?_
              try go_wp2
              go_roundg k1
              case measure => have := HK1.out; omega
              case rel => exact ⟨(y112), (wrap64 (x16_1 + 1)), (by first | rfl | (simp; done) | (simp [*]; done)), H', ⟨by have := HK1.out; omega⟩, ⟨by (with_reducible repeat (first | apply Kd.R_alloc | apply Kd.R_drewN | apply Kd.R_drew)); exact Kd.R_mono HO_4.out (fun _ hk => trivial)⟩, ⟨by (with_reducible repeat (first | apply Kd.S_alloc | apply Kd.S_drewN | apply Kd.S_drew)); exact HO114.out⟩, ⟨by (with_reducible repeat (first | apply Kd.R_alloc | apply Kd.R_drewN | apply Kd.R_drew)); exact Kd.R_mono HO_14.out (fun _ hk => trivial)⟩, ⟨by (with_reducible repeat (first | refine blk_drewN ?_ _ | refine blk_drew ?_ | refine blk_alloc ?_ _)); exact BK101.out⟩, ⟨by repeat (first | (with_reducible first | exact HB.out | apply below_alloc | apply pw_below_drewN | apply below_drew1 | refine below_set ?_ GE101.out | refine below_set ?_ GE107.out) | exact HB.out)⟩⟩
            · rw [if_neg c12] at H
              exact absurd H (by simp)
          · rw [if_neg c9] at H
            exact absurd H (by simp)
        · rw [if_neg c8] at H
          exact absurd H (by simp)
      · rw [if_neg c7] at H
        have c7b0 : decide (x16_1 < (t102.length : Int)) = false := decide_eq_false c7
        clear c7
        simp only [Option.some.injEq, Prod.mk.injEq] at H
        obtain ⟨rfl, rfl⟩ := H
        go_wp2
        go_ret2
        exact ⟨_, by first | rfl | (simp [errW_none, errW_some] <;> rfl) | (simp [*, errW_none, errW_some] <;> rfl), by (with_reducible repeat (first | apply Kd.S_alloc | apply Kd.S_drewN | apply Kd.S_drew)); exact HO_6.out, by repeat (first | (with_reducible first | exact HB.out | apply below_alloc | apply pw_below_drewN | apply below_drew1 | refine below_set ?_ GE101.out) | exact HB.out)⟩
end Go.Proofs.Yteocngcojijnkaa.QR
namespace Go.Proofs.Yteocngcojijnkaa.QR
open Go.Proofs.Yteocngcojijnkaa.QH
open Go.RowKit Go.Proofs.YteocngcojijnkaaW.PrintWords Go.Proofs.YteocngcojijnkaaW.PrintLast Go.Proofs.YteocngcojijnkaaW.PrintMore
attribute [local go_sem] max2_int min2_int max_two min_two max_three min_three max_four min_four   -- for this text's walks alone
set_option linter.unusedVariables false
set_option linter.unusedSimpArgs false
end Go.Proofs.Yteocngcojijnkaa.QR
namespace Go.Proofs.Yteocngcojijnkaa.Hs
open Go.RowKit Go.Proofs.Yteocngcojijnkaa.QH Go.Proofs.Yteocngcojijnkaa.Lex Go.Proofs.Yteocngcojijnkaa.Rg
open Go.Proofs.YteocngcojijnkaaW.PrintWords Go.Proofs.YteocngcojijnkaaW.PrintLast Go.Proofs.YteocngcojijnkaaW.PrintMore
set_option linter.unusedVariables false
set_option linter.unusedSimpArgs false
def listsP (l : List Int) (each keep : Int) : List (List Int) := (ptsP l each).map fun p => keepR l each p.f0 keep.toNat
theorem lists_l0 {l : List Int} {each keep : Int} (ho : okB l each keep = true) : ∀ (n i : Nat) (acc : List (List Int)), (ptsP l each).length - i = n → i ≤ (ptsP l each).length → acc.length = i →
    Since (fun k => QR.ring_Lists.l0 k (ptsP l each) 0 acc (ptsP l each) ((ptsP l each).length : Int) (i : Int) l each keep) (acc ++ ((ptsP l each).drop i).map fun p => keepR l each p.f0 keep.toNat, 0) := by
  have hsm := rawP_small ho
  intro n
  induction n with
  | zero =>
    intro i acc hn hi ha
    have hf : ¬ ((i : Int) < ((ptsP l each).length : Int)) := by omega
    rw [List.drop_eq_nil_of_le (by omega)]
    exact Since.none fun k => by simp only [QR.ring_Lists.l0, if_neg hf, List.map_nil, List.append_nil]
  | succ n ih =>
    intro i acc hn hi ha
    have h1 : i < (ptsP l each).length := by omega
    have f1 : (i : Int) < ((ptsP l each).length : Int) := by omega
    have f0 : (0 : Int) ≤ (i : Int) := by omega
    have r1 : QH.rd_T70 (ptsP l each) (i : Int) = (ptsP l each)[i] := by unfold QH.rd_T70; rw [show (i : Int).toNat = i from rfl]; simp [h1]
    refine Since.one (ih (i + 1) (acc ++ [keepR l each (ptsP l each)[i].f0 keep.toNat]) (by omega) (by omega) (by rw [List.length_append, ha]; rfl)) fun k hk => ?_
    simp only [QR.ring_Lists.l0, if_pos f1, if_pos f0, r1, first_at ho, meet_at ho, Option.bind_some, w_succ' i (by omega)]
    rw [if_pos (by omega), hk, List.drop_eq_getElem_cons h1, List.map_cons, List.append_assoc]
    rfl
theorem lists_ok {l : List Int} {each keep : Int} (ho : okB l each keep = true) : Since (fun k => QR.ring_Lists.f k l each keep) (listsP l each keep, 0) := by
  have h := lists_l0 ho _ 0 [] rfl (Nat.zero_le _) rfl
  rw [List.drop_zero, List.nil_append] at h
  refine h.map fun k hk => ?_
  simp only [QR.ring_Lists.f, points_at ho, Option.bind_some]
  exact hk
theorem lists_out {l : List Int} {each keep : Int} (ho : okB l each keep = false) : Since (fun k => QR.ring_Lists.f k l each keep) ([], 2) := by
  refine Since.none fun k => ?_
  simp only [QR.ring_Lists.f, points_out ho, Option.bind_some, QR.ring_Lists.l0]
  rfl
theorem rlists_l0 {l : List Int} {each keep : Int} (ho : okB l each keep = true) : ∀ (n i : Nat) (acc : List (List Int)), (ptsP l each).length - i = n → i ≤ (ptsP l each).length → acc.length = i →
    Since (fun k => icehouseref09_Lists.l0 k (ptsP l each) acc (i : Int) l each keep) (acc ++ ((ptsP l each).drop i).map fun p => keepR l each p.f0 keep.toNat) := by
  have hsm := rawP_small ho
  intro n
  induction n with
  | zero =>
    intro i acc hn hi ha
    have hf : ¬ ((i : Int) < ((ptsP l each).length : Int)) := by omega
    rw [List.drop_eq_nil_of_le (by omega)]
    exact Since.none fun k => by simp only [icehouseref09_Lists.l0, if_neg hf, List.map_nil, List.append_nil]
  | succ n ih =>
    intro i acc hn hi ha
    have h1 : i < (ptsP l each).length := by omega
    have f1 : (i : Int) < ((ptsP l each).length : Int) := by omega
    have f0 : (0 : Int) ≤ (i : Int) := by omega
    have r1 : QH.rd_T70 (ptsP l each) (i : Int) = (ptsP l each)[i] := by unfold QH.rd_T70; rw [show (i : Int).toNat = i from rfl]; simp [h1]
    refine Since.two (ih (i + 1) (acc ++ [keepR l each (ptsP l each)[i].f0 keep.toNat]) (by omega) (by omega) (by rw [List.length_append, ha]; rfl)) (rat_ev ho (ptsP l each)[i].f0) fun k hk ha => ?_
    simp only [icehouseref09_Lists.l0, if_pos f1, if_pos f0, r1, w_succ' i (by omega)]
    rw [ha, Option.bind_some, if_pos (by omega), hk, List.drop_eq_getElem_cons h1, List.map_cons, List.append_assoc]
    rfl
theorem rlists_ev {l : List Int} {each keep : Int} (ho : okB l each keep = true) : Since (fun k => icehouseref09_Lists.f k l each keep) (listsP l each keep) := by
  have h := rlists_l0 ho _ 0 [] rfl (Nat.zero_le _) rfl
  rw [List.drop_zero, List.nil_append] at h
  refine (rpoints_ev ho).and h fun k hp hk => ?_
  simp only [icehouseref09_Lists.f]
  rw [hp, Option.bind_some]
  exact hk
end Go.Proofs.Yteocngcojijnkaa.Hs
namespace Go.Proofs.Yteocngcojijnkaa.QO
open Go.RowKit Go.Proofs.YteocngcojijnkaaW.PrintWords Go.Proofs.YteocngcojijnkaaW.PrintLast Go.Proofs.YteocngcojijnkaaW.PrintMore
attribute [local go_sem] max2_int min2_int max_two min_two max_three min_three max_four min_four   -- for this text's walks alone
set_option linter.unusedVariables false
set_option linter.unusedSimpArgs false
def errW : Option Int → Value
  | none => .nilIface
  | some c => .iface 0 (.int .i64 c)
theorem errW_none : errW none = .nilIface := rfl
theorem errW_some (c : Int) : errW (some c) = .iface 0 (.int .i64 c) := rfl
theorem info3 : (Try.prog.info? 3).map (fun i => (i.zero, i.size, i.bytes)) = some (some (.int .i64 0), 1, 8) := by kernel_rfl
-- the values' own types
end Go.Proofs.Yteocngcojijnkaa.QO
namespace Go.Proofs.Yteocngcojijnkaa.QO
open Go.RowKit Go.Proofs.YteocngcojijnkaaW.PrintWords Go.Proofs.YteocngcojijnkaaW.PrintLast Go.Proofs.YteocngcojijnkaaW.PrintMore
attribute [local go_sem] max2_int min2_int max_two min_two max_three min_three max_four min_four   -- for this text's walks alone
set_option linter.unusedVariables false
set_option linter.unusedSimpArgs false
/-! ### slices_Index_int_int: function 36 -/
def slices_Index_int_int.l0 : Nat → List Int → Int → Int → Int → Option (Int)
  | 0, _, _, _, _ => none
  | k + 1, x0, x1, x7, x8 => if x8 < x7 then (if 0 ≤ x8 then (if x8 < (x0.length : Int) then (if x1 = (rd x0 x8) then (some x8) else (slices_Index_int_int.l0 k x0 x1 x7 (wrap64 (x8 + 1)))) else (none)) else (none)) else (some (-1))
def slices_Index_int_int.f (k : Nat) (l0 : List Int) (a1 : Int) : Option (Int) := slices_Index_int_int.l0 k l0 a1 (l0.length : Int) 0
theorem slices_Index_int_int.mono_l : ∀ k, (∀ y0 y1 y2 y3, LeO (slices_Index_int_int.l0 k y0 y1 y2 y3) (slices_Index_int_int.l0 (k + 1) y0 y1 y2 y3))
  | 0 => fun _ _ _ _ r h => by simp [slices_Index_int_int.l0] at h
  | k + 1 => by
    have ih0 := slices_Index_int_int.mono_l k
    · intro y0 y1 y2 y3
      unfold slices_Index_int_int.l0
      repeat' first
      | (with_reducible exact ih0 _ _ _ _)
      | (with_reducible exact LeO.refl _)
      | (with_reducible exact LeO.none _)
      | (with_reducible refine LeO.ite ?_ ?_)
      | (with_reducible refine LeO.bind ?_ (fun _ => ?_))
      | exact ih0 _ _ _ _
      | exact LeO.none _
      | refine LeO.ite ?_ ?_
      | refine LeO.bind ?_ (fun _ => ?_)
theorem slices_Index_int_int.mono : ∀ a0 a1 k, LeO (slices_Index_int_int.f k a0 a1) (slices_Index_int_int.f (k + 1) a0 a1) := by
  intro a0 a1 k
  have ih0 := slices_Index_int_int.mono_l k
  unfold slices_Index_int_int.f
  repeat' first
      | (with_reducible exact ih0 _ _ _ _)
      | (with_reducible exact LeO.refl _)
      | (with_reducible exact LeO.none _)
      | (with_reducible refine LeO.ite ?_ ?_)
      | (with_reducible refine LeO.bind ?_ (fun _ => ?_))
      | exact ih0 _ _ _ _
      | exact LeO.none _
      | refine LeO.ite ?_ ?_
      | refine LeO.bind ?_ (fun _ => ?_)
set_option maxHeartbeats 8000000 in
set_option maxRecDepth 100000 in
theorem slices_Index_int_int.calls (k : Nat) (A0 : Option Addr) (c0 : Nat) (l0 : List Int) (a1 : Int) (r : Int) (w : World) (hr0 : Kd.C (Kd.int .i64) w A0 l0.length l0) (hc0 : l0.length ≤ c0) (h : slices_Index_int_int.f k l0 a1 = some r) :
    Calls Try.prog 36 #[.slice A0 l0.length c0, .int .i64 a1] w fun e w' => e = .returned (.int .i64 r) ∧ Drawn0 w w' := by
  have HR0 := Aside0.mk hr0
  have HC0 := Aside0.mk hc0
  clear hr0 hc0
  have H : (slices_Index_int_int.l0 k l0 a1 (l0.length : Int) 0) = some r := h
  clear h
  have H' := Aside0.mk H
  clear H
  go_enter Try.func36, Try.ntmps36
  go_wp2
  go_loopg [8] k (fun kq v8 w' => ∃ (x8_1 : Int), v8 = .int .i64 x8_1 ∧ Aside0 (slices_Index_int_int.l0 kq l0 a1 (l0.length : Int) x8_1 = some r) ∧ Aside0 (kq ≤ k) ∧ Drawn0 w w')
  case atStart => exact ⟨(0), (by first | rfl | (simp; done) | (simp [*]; done)), H', ⟨Nat.le_refl _⟩, by repeat (first | exact Drawn0.refl _ | apply Drawn0.step)⟩
  case round =>
    clear H'
    try clear p2
    obtain ⟨x8_1, rfl, HA, HK1, ⟨m1, rfl⟩⟩ := hrel
    cases gk with
    | zero => exact absurd HA.out (by simp [slices_Index_int_int.l0])
    | succ k1 =>
      have H := HA.out
      clear HA
      simp only [slices_Index_int_int.l0] at H
      by_cases c3 : x8_1 < (l0.length : Int)
      · rw [if_pos c3] at H
        have c3b0 : decide (x8_1 < (l0.length : Int)) = true := decide_eq_true c3
        clear c3
        by_cases c4 : 0 ≤ x8_1
        · rw [if_pos c4] at H
          have c4b0 : decide (0 ≤ x8_1) = true := decide_eq_true c4
          clear c4
          by_cases c5 : x8_1 < (l0.length : Int)
          · rw [if_pos c5] at H
            have c5b0 : decide (x8_1 < (l0.length : Int)) = true := decide_eq_true c5
            clear c5
            by_cases c6 : a1 = (rd l0 x8_1)
            · rw [if_pos c6] at H
              have c6b0 : (a1 == (rd l0 x8_1)) = true := beq_iff_eq.mpr c6
              have c6b1 : (a1 != (rd l0 x8_1)) = false := bne_eq_false_iff_eq.mpr c6
              clear c6
              obtain rfl := Option.some.inj H
              have p101 : 0 ≤ (x8_1 : Int) := of_decide_eq_true (by first | (with_reducible assumption) | assumption)
              have q101 : x8_1 < (l0.length : Int) := of_decide_eq_true (by first | (with_reducible assumption) | assumption)
              obtain ⟨ad101, e101, hx101_0⟩ := Kd.at_int HR0.out x8_1 p101 q101
              cases e101
              replace p101 := eq_true p101
              replace q101 := eq_true q101
              go_wp2
              go_ret
              exact ⟨by first | rfl | (simp; done) | (simp [*]; done), by repeat (first | exact Drawn0.refl _ | apply Drawn0.step)⟩
            · rw [if_neg c6] at H
              have c6b0 : (a1 == (rd l0 x8_1)) = false := beq_eq_false_iff_ne.mpr c6
              have c6b1 : (a1 != (rd l0 x8_1)) = true := bne_iff_ne.mpr c6
              have H' := Aside0.mk H
              clear H
              have p101 : 0 ≤ (x8_1 : Int) := of_decide_eq_true (by first | (with_reducible assumption) | assumption)
              have q101 : x8_1 < (l0.length : Int) := of_decide_eq_true (by first | (with_reducible assumption) | assumption)
              obtain ⟨ad101, e101, hx101_0⟩ := Kd.at_int HR0.out x8_1 p101 q101
              cases e101
              replace p101 := eq_true p101
              replace q101 := eq_true q101
              go_wp2
              go_roundg k1
              case measure => have := HK1.out; omega
              case rel => exact ⟨(wrap64 (x8_1 + 1)), (by first | rfl | (simp; done) | (simp [*]; done)), H', ⟨by have := HK1.out; omega⟩, by repeat (first | exact Drawn0.refl _ | apply Drawn0.step)⟩
          · rw [if_neg c5] at H
            exact absurd H (by simp)
        · rw [if_neg c4] at H
          exact absurd H (by simp)
      · rw [if_neg c3] at H
        have c3b0 : decide (x8_1 < (l0.length : Int)) = false := decide_eq_false c3
        clear c3
        obtain rfl := Option.some.inj H
        go_wp2
        go_ret
        exact ⟨by first | rfl | (simp; done) | (simp [*]; done), by repeat (first | exact Drawn0.refl _ | apply Drawn0.step)⟩
/-! ### slices_Contains_int_int: function 34 -/
def slices_Contains_int_int.f (k : Nat) (l0 : List Int) (a1 : Int) : Option (Bool) := (slices_Index_int_int.f k l0 a1).bind fun t102 => (some (decide (t102 ≥ 0)))
theorem slices_Contains_int_int.mono : ∀ a0 a1 k, LeO (slices_Contains_int_int.f k a0 a1) (slices_Contains_int_int.f (k + 1) a0 a1) := by
  intro a0 a1 k
  unfold slices_Contains_int_int.f
  repeat' first
      | (with_reducible exact slices_Index_int_int.mono _ _ _)
      | (with_reducible exact LeO.refl _)
      | (with_reducible exact LeO.none _)
      | (with_reducible refine LeO.ite ?_ ?_)
      | (with_reducible refine LeO.bind ?_ (fun _ => ?_))
      | exact slices_Index_int_int.mono _ _ _
      | exact LeO.none _
      | refine LeO.ite ?_ ?_
      | refine LeO.bind ?_ (fun _ => ?_)
set_option maxHeartbeats 8000000 in
set_option maxRecDepth 100000 in
theorem slices_Contains_int_int.calls (k : Nat) (A0 : Option Addr) (c0 : Nat) (l0 : List Int) (a1 : Int) (r : Bool) (w : World) (hr0 : Kd.C (Kd.int .i64) w A0 l0.length l0) (hc0 : l0.length ≤ c0) (h : slices_Contains_int_int.f k l0 a1 = some r) :
    Calls Try.prog 34 #[.slice A0 l0.length c0, .int .i64 a1] w fun e w' => e = .returned (.bool r) ∧ Drawn0 w w' := by
  have HR0 := Aside0.mk hr0
  have HC0 := Aside0.mk hc0
  clear hr0 hc0
  have H : ((slices_Index_int_int.f k l0 a1).bind fun t102 => (some (decide (t102 ≥ 0)))) = some r := h
  clear h
  replace H := Option.bind_eq_some_iff.mp H
  obtain ⟨t102, A30, H⟩ := H
  replace H : (some (decide (t102 ≥ 0))) = some r := H
  have A3 := Aside0.mk A30
  clear A30
  obtain rfl := Option.some.inj H
  go_enter Try.func34, Try.ntmps34
  go_wp2_with (first | ((with_reducible refine gate_callee (f := 36) rfl ?_); refine goesL_ (some 7) rfl rfl Try.func36 (by kernel_rfl) rfl #[.slice A0 l0.length c0, .int .i64 a1] rfl (by (try simp only [List.map_toArray, List.map_cons, List.map_nil]); first | done | rfl | (simp only [List.length_drop, List.length_take]; rfl)) ?_; (with_reducible refine (slices_Index_int_int.calls k _ _ l0 a1 t102 _ ?side1 ?side2 A3.out).mono ?_); (case side1 => repeat (first | exact HR0.out | (with_reducible refine Kd.C_alloc ?_ _) | (with_reducible refine Kd.C_drewN ?_ _) | (with_reducible refine Kd.C_drew ?_))); (case side2 => exact HC0.out); rintro e w' ⟨rfl, ⟨nd, rfl⟩⟩; refine ⟨_, rfl, ?_⟩))
  go_ret
  exact ⟨by first | rfl | (simp; done) | (simp [*]; done), by repeat (first | exact Drawn0.refl _ | apply Drawn0.step)⟩
/-- THE ONE PURE STATEMENT of slices_Contains_int_int: yours. -/
def slices_Contains_int_int.Pure : Prop := ∀ (l0 : List Int) (a1 : Int), l0.length ≤ maxLen → l0.length * 8 ≤ 140737488351232 → (∀ x ∈ l0, (Lit.int .i64 x).wf = true) → (Lit.int .i64 a1).wf = true → ∃ k, slices_Contains_int_int.f k l0 a1 = some true
/-! ### quorum_once: function 31 -/
def quorum_once.l0 : Nat → List Int → List Int → Int → Int → Option (List Int)
  | 0, _, _, _, _ => none
  | k + 1, x3, x6, x7, x8 => if x8 < x7 then (if 0 ≤ x8 then (if x8 < (x6.length : Int) then ((slices_Contains_int_int.f k x3 (rd x6 x8)).bind fun t104 => (if t104 = true then (quorum_once.l0 k x3 x6 x7 (wrap64 (x8 + 1))) else (if x3.length < 17592186044416 then (quorum_once.l0 k (x3 ++ [rd x6 x8]) x6 x7 (wrap64 (x8 + 1))) else (none)))) else (none)) else (none)) else (some x3)
def quorum_once.f (k : Nat) (l0 : List Int) : Option (List Int) := quorum_once.l0 k ([] : List Int) l0 (l0.length : Int) 0
theorem quorum_once.mono_l : ∀ k, (∀ y0 y1 y2 y3, LeO (quorum_once.l0 k y0 y1 y2 y3) (quorum_once.l0 (k + 1) y0 y1 y2 y3))
  | 0 => fun _ _ _ _ r h => by simp [quorum_once.l0] at h
  | k + 1 => by
    have ih0 := quorum_once.mono_l k
    · intro y0 y1 y2 y3
      unfold quorum_once.l0
      repeat' first
      | (with_reducible exact ih0 _ _ _ _)
      | (with_reducible exact slices_Contains_int_int.mono _ _ _)
      | (with_reducible exact LeO.refl _)
      | (with_reducible exact LeO.none _)
      | (with_reducible refine LeO.ite ?_ ?_)
      | (with_reducible refine LeO.bind ?_ (fun _ => ?_))
      | exact ih0 _ _ _ _
      | exact slices_Contains_int_int.mono _ _ _
      | exact LeO.none _
      | refine LeO.ite ?_ ?_
      | refine LeO.bind ?_ (fun _ => ?_)
theorem quorum_once.mono : ∀ a0 k, LeO (quorum_once.f k a0) (quorum_once.f (k + 1) a0) := by
  intro a0 k
  have ih0 := quorum_once.mono_l k
  unfold quorum_once.f
  repeat' first
      | (with_reducible exact ih0 _ _ _ _)
      | (with_reducible exact slices_Contains_int_int.mono _ _ _)
      | (with_reducible exact LeO.refl _)
      | (with_reducible exact LeO.none _)
      | (with_reducible refine LeO.ite ?_ ?_)
      | (with_reducible refine LeO.bind ?_ (fun _ => ?_))
      | exact ih0 _ _ _ _
      | exact slices_Contains_int_int.mono _ _ _
      | exact LeO.none _
      | refine LeO.ite ?_ ?_
      | refine LeO.bind ?_ (fun _ => ?_)
set_option maxHeartbeats 8000000 in
set_option maxRecDepth 100000 in
theorem quorum_once.calls (k : Nat) (A0 : Option Addr) (c0 : Nat) (l0 : List Int) (r : List Int) (w : World) (hr0 : Kd.C (Kd.int .i64) w A0 l0.length l0) (hc0 : l0.length ≤ c0) (h : quorum_once.f k l0 = some r) :
    Calls Try.prog 31 #[.slice A0 l0.length c0] w fun e w' => ∃ v0_ : Value, e = .returned (v0_) ∧ Kd.R (Kd.int .i64) 3 w' w.heap.size (fun _ => True) v0_ r ∧ Below w.heap.size w w' := by
  have HR0 := Aside0.mk hr0
  have HC0 := Aside0.mk hc0
  clear hr0 hc0
  have HB := Aside0.mk (Below.refl w.heap.size w)
  have H : (quorum_once.l0 k ([] : List Int) l0 (l0.length : Int) 0) = some r := h
  clear h
  have H' := Aside0.mk H
  clear H
  go_enter Try.func31, Try.ntmps31
  go_wp2
  go_loopg [3, 8] k (fun kq v3 v8 w' => ∃ (x3_1 : List Int) (x8_1 : Int), v8 = .int .i64 x8_1 ∧ Aside0 (quorum_once.l0 kq x3_1 l0 (l0.length : Int) x8_1 = some r) ∧ Aside0 (kq ≤ k) ∧ Aside0 (Kd.R (Kd.int .i64) 3 w' w.heap.size (fun _ => True) v3 x3_1) ∧ Aside0 (Below w.heap.size w w'))
  case atStart => exact ⟨(([] : List Int)), (0), (by first | rfl | (simp; done) | (simp [*]; done)), H', ⟨Nat.le_refl _⟩, ⟨by first | exact Kd.R_nil _ _ _ _ _ | exact Kd.N_nil _ _ _ _ _ | exact Kd.V_nil _ _ _ _ _ | exact Kd.Q_nil _ _ _ _ _ | exact Kd.S_nil _ _ _ _ _⟩, ⟨by repeat (first | (with_reducible first | exact HB.out | apply below_alloc | apply pw_below_drewN | apply below_drew1) | exact HB.out)⟩⟩
  case round =>
    clear H'
    obtain ⟨x3_1, x8_1, rfl, HA, HK1, HO_3, HB⟩ := hrel
    cases gk with
    | zero => exact absurd HA.out (by simp [quorum_once.l0])
    | succ k1 =>
      have H := HA.out
      clear HA
      simp only [quorum_once.l0] at H
      by_cases c2 : x8_1 < (l0.length : Int)
      · rw [if_pos c2] at H
        have c2b0 : decide (x8_1 < (l0.length : Int)) = true := decide_eq_true c2
        clear c2
        by_cases c3 : 0 ≤ x8_1
        · rw [if_pos c3] at H
          have c3b0 : decide (0 ≤ x8_1) = true := decide_eq_true c3
          clear c3
          by_cases c4 : x8_1 < (l0.length : Int)
          · rw [if_pos c4] at H
            have c4b0 : decide (x8_1 < (l0.length : Int)) = true := decide_eq_true c4
            clear c4
            replace H := Option.bind_eq_some_iff.mp H
            obtain ⟨t104, A50, H⟩ := H
            replace H : (if t104 = true then (quorum_once.l0 k1 x3_1 l0 (l0.length : Int) (wrap64 (x8_1 + 1))) else (if x3_1.length < 17592186044416 then (quorum_once.l0 k1 (x3_1 ++ [rd l0 x8_1]) l0 (l0.length : Int) (wrap64 (x8_1 + 1))) else (none))) = some r := H
            have A5 := Aside0.mk A50
            clear A50
            by_cases c6 : t104 = true
            · subst c6
              have H1 : (quorum_once.l0 k1 x3_1 l0 (l0.length : Int) (wrap64 (x8_1 + 1))) = some r := by rw [if_pos rfl] at H; exact H
              clear H
              have H := H1
              clear H1
              have H' := Aside0.mk H
              clear H
              have p103 : 0 ≤ (x8_1 : Int) := of_decide_eq_true (by first | (with_reducible assumption) | assumption)
              have q103 : x8_1 < (l0.length : Int) := of_decide_eq_true (by first | (with_reducible assumption) | assumption)
              obtain ⟨ad103, e103, hx103_0⟩ := Kd.at_int HR0.out x8_1 p103 q103
              cases e103
              replace hx103_0 := (HB.out.cell (World.block_lt_of_cell? w _ hx103_0)).trans hx103_0
              replace p103 := eq_true p103
              replace q103 := eq_true q103
              obtain ⟨Ao7, co7, eo7⟩ := Kd.R_slice HO_3.out
              subst eo7
              go_wp2_with (first | ((with_reducible refine gate_callee (f := 34) rfl ?_); refine goesL_ (some 14) rfl rfl Try.func34 (by kernel_rfl) rfl #[.slice Ao7 x3_1.length co7, .int .i64 (rd l0 x8_1)] rfl (by (try simp only [List.map_toArray, List.map_cons, List.map_nil]); first | done | rfl | (simp only [List.length_drop, List.length_take]; rfl)) ?_; (with_reducible refine (slices_Contains_int_int.calls k1 _ _ x3_1 (rd l0 x8_1) true _ ?side1 ?side2 A5.out).mono ?_); (case side1 => repeat (first | exact (Kd.R_reads' HO_3.out).2.2 | (with_reducible refine Kd.C_alloc ?_ _) | (with_reducible refine Kd.C_drewN ?_ _) | (with_reducible refine Kd.C_drew ?_))); (case side2 => exact (Kd.R_reads' HO_3.out).2.1); rintro e w' ⟨rfl, ⟨nd, rfl⟩⟩; refine ⟨_, rfl, ?_⟩))
              go_roundg k1
              case measure => have := HK1.out; omega
              case rel => exact ⟨(x3_1), (wrap64 (x8_1 + 1)), (by first | rfl | (simp; done) | (simp [*]; done)), H', ⟨by have := HK1.out; omega⟩, ⟨by (with_reducible repeat (first | apply Kd.R_alloc | apply Kd.R_drewN | apply Kd.R_drew)); exact HO_3.out⟩, ⟨by repeat (first | (with_reducible first | exact HB.out | apply below_alloc | apply pw_below_drewN | apply below_drew1) | exact HB.out)⟩⟩
            · replace c6 := Bool.eq_false_iff.mpr c6
              subst c6
              have H1 : (if x3_1.length < 17592186044416 then (quorum_once.l0 k1 (x3_1 ++ [rd l0 x8_1]) l0 (l0.length : Int) (wrap64 (x8_1 + 1))) else (none)) = some r := by rw [if_neg (show ¬ (false = true) by decide)] at H; exact H
              clear H
              have H := H1
              clear H1
              by_cases c8 : x3_1.length < 17592186044416
              · rw [if_pos c8] at H
                have LMc8 := Aside0.mk c8
                clear c8
                obtain ⟨y105, hy105⟩ : ∃ y_ : List Int, y_ = (x3_1 ++ [rd l0 x8_1]) := ⟨_, rfl⟩
                replace H : (quorum_once.l0 k1 y105 l0 (l0.length : Int) (wrap64 (x8_1 + 1))) = some r := by first | (rw [hy105]; with_reducible exact H) | (have H2_ := (Option.bind_some _ _).symm.trans H; rw [hy105]; with_reducible exact H2_) | (have H2_ := (Option.bind_some _ _).symm.trans H; with_reducible exact H2_) | with_reducible exact H | (rw [hy105]; exact H) | exact H
                have Ny105 := Aside0.mk hy105
                clear hy105
                have H' := Aside0.mk H
                clear H
                have p103 : 0 ≤ (x8_1 : Int) := of_decide_eq_true (by first | (with_reducible assumption) | assumption)
                have q103 : x8_1 < (l0.length : Int) := of_decide_eq_true (by first | (with_reducible assumption) | assumption)
                obtain ⟨ad103, e103, hx103_0⟩ := Kd.at_int HR0.out x8_1 p103 q103
                cases e103
                replace hx103_0 := (HB.out.cell (World.block_lt_of_cell? w _ hx103_0)).trans hx103_0
                replace p103 := eq_true p103
                replace q103 := eq_true q103
                obtain ⟨Ao9, co9, eo9⟩ := Kd.R_slice HO_3.out
                subst eo9
                go_wp2_with (first | ((with_reducible refine gate_callee (f := 34) rfl ?_); refine goesL_ (some 14) rfl rfl Try.func34 (by kernel_rfl) rfl #[.slice Ao9 x3_1.length co9, .int .i64 (rd l0 x8_1)] rfl (by (try simp only [List.map_toArray, List.map_cons, List.map_nil]); first | done | rfl | (simp only [List.length_drop, List.length_take]; rfl)) ?_; (with_reducible refine (slices_Contains_int_int.calls k1 _ _ x3_1 (rd l0 x8_1) false _ ?side1 ?side2 A5.out).mono ?_); (case side1 => repeat (first | exact (Kd.R_reads' HO_3.out).2.2 | (with_reducible refine Kd.C_alloc ?_ _) | (with_reducible refine Kd.C_drewN ?_ _) | (with_reducible refine Kd.C_drew ?_))); (case side2 => exact (Kd.R_reads' HO_3.out).2.1); rintro e w' ⟨rfl, ⟨nd, rfl⟩⟩; refine ⟨_, rfl, ?_⟩) | ((with_reducible refine gate_builtin (b := .append) (xs := #[.tmp 16, .tmp 18]) rfl ?_); at_builtin; refine Kd.R_append (Kd.int .i64) (w0 := w) w.heap.size rfl (.tmp 16) (.tmp 18) 22 3 (.int .i64 0) 8 rfl Try.underlying22 info3 rfl (by decide) (by omega) (.slice Ao9 x3_1.length co9) x3_1 (rd l0 x8_1) [.int .i64 (rd l0 x8_1)] (fun _ => True) (fun _ => False) rfl rfl ?aP (fun _ hk => hk.elim) ?aF ?aO ?aB ?aS ?aL ?_; (case aP => exact rfl); (case aB => exact (by repeat (first | (with_reducible first | exact HB.out | apply below_alloc | apply pw_below_drewN | apply below_drew1) | exact HB.out))); (case aF => exact (fun _ _ => trivial)); (case aO => exact (by (with_reducible repeat (first | apply Kd.R_alloc | apply Kd.R_drewN | apply Kd.R_drew)); exact HO_3.out)); (case aS => exact (below_size (by repeat (first | (with_reducible first | exact HB.out | apply below_alloc | apply pw_below_drewN | apply below_drew1) | exact HB.out)))); (case aL => have := LMc8.out; omega); intro v106 w10 ho hb hg hat; rw [← Ny105.out] at ho; have n0_ := Aside0.mk (hb); have n1_ := Aside0.mk (ho); clear HB; clear HO_3; have HB := n0_; have HO107 := n1_; clear n0_ n1_; clear ho hb hg hat))
                go_roundg k1
                case measure => have := HK1.out; omega
                case rel => exact ⟨(y105), (wrap64 (x8_1 + 1)), (by first | rfl | (simp; done) | (simp [*]; done)), H', ⟨by have := HK1.out; omega⟩, ⟨by (with_reducible repeat (first | apply Kd.R_alloc | apply Kd.R_drewN | apply Kd.R_drew)); exact HO107.out⟩, ⟨by repeat (first | (with_reducible first | exact HB.out | apply below_alloc | apply pw_below_drewN | apply below_drew1) | exact HB.out)⟩⟩
              · rw [if_neg c8] at H
                exact absurd H (by simp)
          · rw [if_neg c4] at H
            exact absurd H (by simp)
        · rw [if_neg c3] at H
          exact absurd H (by simp)
      · rw [if_neg c2] at H
        have c2b0 : decide (x8_1 < (l0.length : Int)) = false := decide_eq_false c2
        clear c2
        obtain rfl := Option.some.inj H
        go_wp2
        go_ret
        exact ⟨_, by first | rfl | (simp [errW_none, errW_some] <;> rfl) | (simp [*, errW_none, errW_some] <;> rfl), by (with_reducible repeat (first | apply Kd.R_alloc | apply Kd.R_drewN | apply Kd.R_drew)); exact HO_3.out, by repeat (first | (with_reducible first | exact HB.out | apply below_alloc | apply pw_below_drewN | apply below_drew1) | exact HB.out)⟩
/-! ### quorum_Need: function 12 -/
def quorum_Need.f (a0 : Int) : Option (Int) := if a0 < 1 then (some 0) else (some (wrap64 ((wrap64 (Int.tdiv a0 2)) + 1)))
set_option maxHeartbeats 8000000 in
set_option maxRecDepth 100000 in
theorem quorum_Need.calls (a0 : Int) (r : Int) (w : World) (h : quorum_Need.f a0 = some r) :
    Calls Try.prog 12 #[.int .i64 a0] w fun e w' => e = .returned (.int .i64 r) ∧ Drawn0 w w' := by
  have H : (if a0 < 1 then (some 0) else (some (wrap64 ((wrap64 (Int.tdiv a0 2)) + 1)))) = some r := h
  clear h
  by_cases c2 : a0 < 1
  · rw [if_pos c2] at H
    have c2b0 : decide (a0 < 1) = true := decide_eq_true c2
    clear c2
    obtain rfl := Option.some.inj H
    go_enter Try.func12, Try.ntmps12
    go_wp2
    go_ret
    exact ⟨by first | rfl | (simp; done) | (simp [*]; done), by repeat (first | exact Drawn0.refl _ | apply Drawn0.step)⟩
  · rw [if_neg c2] at H
    have c2b0 : decide (a0 < 1) = false := decide_eq_false c2
    clear c2
    obtain rfl := Option.some.inj H
    go_enter Try.func12, Try.ntmps12
    go_wp2
    go_ret
    exact ⟨by first | rfl | (simp; done) | (simp [*]; done), by repeat (first | exact Drawn0.refl _ | apply Drawn0.step)⟩
end Go.Proofs.Yteocngcojijnkaa.QO
namespace Go.Proofs.Yteocngcojijnkaa.QO
open Go.RowKit Go.Proofs.YteocngcojijnkaaW.PrintWords Go.Proofs.YteocngcojijnkaaW.PrintLast Go.Proofs.YteocngcojijnkaaW.PrintMore
attribute [local go_sem] max2_int min2_int max_two min_two max_three min_three max_four min_four   -- for this text's walks alone
set_option linter.unusedVariables false
set_option linter.unusedSimpArgs false
end Go.Proofs.Yteocngcojijnkaa.QO
namespace Go.Proofs.Yteocngcojijnkaa.Cm
open Go.ChangeShapes Go.WideShapes Go.RowKit Go.Proofs.Yteocngcojijnkaa.QO
open Go.Proofs.YteocngcojijnkaaW.PrintWords Go.Proofs.YteocngcojijnkaaW.PrintLast Go.Proofs.YteocngcojijnkaaW.PrintMore
set_option linter.unusedVariables false
set_option linter.unusedSimpArgs false
open Go.Proofs.Yteocngcojijnkaa.Lex
theorem w_succ (i : Nat) (h : i < 9223372036854775807) : wrap64 ((i : Int) + 1) = ((i + 1 : Nat) : Int) := by unfold wrap64; omega
theorem index_l0 (l : List Int) (x : Int) (hl : l.length ≤ 9223372036854775807) : ∀ (n i : Nat), l.length - i = n → i ≤ l.length →
    ∃ r, Since (fun k => slices_Index_int_int.l0 k l x (l.length : Int) (i : Int)) r ∧ (r ≥ 0 ↔ x ∈ l.drop i) := by
  intro n
  induction n with
  | zero =>
    intro i hn hi
    have hf : ¬ ((i : Int) < (l.length : Int)) := by omega
    exact ⟨-1, Since.none fun k => by simp only [slices_Index_int_int.l0, if_neg hf], by rw [List.drop_eq_nil_of_le (by omega)]; simp⟩
  | succ n ih =>
    intro i hn hi
    have h1 : i < l.length := by omega
    have f1 : (i : Int) < (l.length : Int) := by omega
    have f0 : (0 : Int) ≤ (i : Int) := by omega
    have r1 : rd l (i : Int) = l[i] := by simp [rd, h1]
    obtain ⟨r, hr, hm⟩ := ih (i + 1) (by omega) (by omega)
    have d := List.drop_eq_getElem_cons h1
    by_cases he : x = l[i]
    · exact ⟨i, Since.none fun k => by simp only [slices_Index_int_int.l0, if_pos f1, if_pos f0, r1, if_pos he], by rw [d, ← he]; simp⟩
    · refine ⟨r, Since.one hr fun k h => ?_, by rw [hm, d, List.mem_cons]; simp [he]⟩
      simp only [slices_Index_int_int.l0, if_pos f1, if_pos f0, r1, if_neg he, w_succ i (by omega)]
      exact h
theorem contains_ev (l : List Int) (x : Int) (hl : l.length ≤ 9223372036854775807) : Since (fun k => slices_Contains_int_int.f k l x) (decide (x ∈ l)) := by
  obtain ⟨r, hr, hm⟩ := index_l0 l x hl _ 0 rfl (Nat.zero_le _)
  rw [List.drop_zero] at hm
  refine hr.map fun k h => ?_
  simp only [slices_Contains_int_int.f, slices_Index_int_int.f]
  rw [show slices_Index_int_int.l0 k l x (l.length : Int) 0 = some r from h, Option.bind_some]
  congr 1
  exact decide_eq_decide.2 hm
theorem clo_ {w : World} {g : Nat} {A : Option Addr} {c : Nat} {l : List Int} (x : Int) (hg : w.heap[g]? = some (.cells #[.slice A l.length c] 22 (0, 0))) (hr : Kd.C (Kd.int .i64) w A l.length l) (hc : l.length ≤ c) :
    Calls Try.prog 33 #[.int .i64 x, .pointer (some ⟨g, 0, none⟩)] w fun e w' => e = .returned (.bool (!decide (x ∈ l))) ∧ Drawn0 w w' := by
  have h0 : w.cell? ⟨g, 0, none⟩ = some (.slice A l.length c) := (blk_cell hg 0).trans rfl
  have HR := Aside0.mk hr
  obtain ⟨K, hK⟩ := contains_ev l x hr.2.1
  have HK := Aside0.mk (hK K (Nat.le_refl K))
  have HC := Aside0.mk hc
  clear hr hg hK hc
  go_enter Try.func33, Try.ntmps33
  go_wp2_with fail
  (with_reducible refine (slices_Contains_int_int.calls K A c l x _ w HR.out HC.out HK.out).mono ?_)
  rintro e w1 ⟨rfl, hd⟩
  go_wp2_with fail
  go_ret
  exact ⟨rfl, hd⟩
end Go.Proofs.Yteocngcojijnkaa.Cm
namespace Go.Proofs.Yteocngcojijnkaa.Cm
open Go.ChangeShapes Go.WideShapes Go.ChangeAt Go.RowKit Go.Proofs.Yteocngcojijnkaa.QO Go.Proofs.Yteocngcojijnkaa.Lex
open Go.Proofs.YteocngcojijnkaaW.PrintWords Go.Proofs.YteocngcojijnkaaW.PrintLast Go.Proofs.YteocngcojijnkaaW.PrintMore
set_option linter.unusedVariables false
set_option linter.unusedSimpArgs false
theorem drawn_trans {w w1 w2 : World} (h : Drawn0 w w1) (k : Drawn0 w1 w2) : Drawn0 w w2 := by
  obtain ⟨n, rfl⟩ := k
  exact h.step n
/-- the first that is not in l, or -1 -/
def idxP (l m : List Int) (r : Int) : Prop := (r = -1 ∧ ∀ x ∈ m, x ∈ l) ∨ ∃ (i : Nat) (h : i < m.length), r = (i : Int) ∧ m[i] ∉ l ∧ ∀ x ∈ m.take i, x ∈ l
set_option maxHeartbeats 2000000 in
theorem index_ {w : World} {g : Nat} {A : Option Addr} {c : Nat} {l : List Int} {A1 : Option Addr} {c1 : Nat} {m : List Int} (hg : w.heap[g]? = some (.cells #[.slice A l.length c] 22 (0, 0))) (hr : Kd.C (Kd.int .i64) w A l.length l) (hc : l.length ≤ c)
    (hr1 : Kd.C (Kd.int .i64) w A1 m.length m) (hc1 : m.length ≤ c1) :
    Calls Try.prog 42 #[.slice A1 m.length c1, .func (.func 33) #[] #[.pointer (some ⟨g, 0, none⟩)]] w fun e w' => ∃ r, e = .returned (.int .i64 r) ∧ idxP l m r ∧ Drawn0 w w' := by
  have HG := Aside0.mk hg
  have HR := Aside0.mk hr
  have HC := Aside0.mk hc
  have HR1 := Aside0.mk hr1
  have hm := hr1.2.1
  clear hg hr hc hr1
  go_enter Try.func42, Try.ntmps42
  go_wp2_with fail
  go_loopg [8] m.length (fun n v w' => ∃ k : Nat, k ≤ m.length ∧ v = .int .i64 k ∧ n = m.length - k ∧ (∀ x ∈ m.take k, x ∈ l) ∧ Drawn0 w w')
  case atStart => exact ⟨0, Nat.zero_le _, rfl, by simp, by simp, Drawn0.refl w⟩
  case round =>
    obtain ⟨k, hk, rfl, rfl, hall, hd⟩ := hrel
    have HD := Aside0.mk hd
    have HAL := Aside0.mk hall
    by_cases hlt : k < m.length
    · obtain ⟨b, off, hA, hcl⟩ := Hlp.C_block HR1.out (by omega)
      have hcell := hcl k hlt
      subst hA
      have t7 : decide ((k : Int) < (m.length : Int)) = true := decide_eq_true (by omega)
      have hcellr := pw_cell_below HD.out.below hcell
      clear hcl hall hd hcell
      obtain ⟨x, hx⟩ : ∃ x, m[k] = x := ⟨_, rfl⟩
      have HX := Aside0.mk hx
      rw [hx] at hcellr
      clear hx
      have HGr := Aside0.mk (blk_below HG.out HD.out.below)
      have HRr := Aside0.mk (Kd.C_below HR.out HD.out.below)
      by_cases hin : x ∈ l
      · have HIN := Aside0.mk hin
        have hv : (!decide (x ∈ l)) = false := by simp [hin]
        have HV := Aside0.mk hv
        clear hin hv
        go_wp2_with fail
        (with_reducible refine (clo_ x HGr.out HRr.out HC.out).mono ?_)
        rw [HV.out]
        rintro e w1 ⟨rfl, hd1⟩
        have HD1 := Aside0.mk hd1
        clear hd1
        go_wp2_with fail
        go_roundg (m.length - (k + 1))
        case measure => omega
        case rel => exact ⟨k + 1, by omega, by go_num, rfl, by
          intro y hy
          rw [List.take_succ_eq_append_getElem hlt] at hy
          rcases List.mem_append.1 hy with h | h
          · exact HAL.out y h
          · rw [List.mem_singleton.1 h, HX.out]; exact HIN.out, drawn_trans HD.out HD1.out⟩
      · have HIN := Aside0.mk hin
        have hv : (!decide (x ∈ l)) = true := by simp [hin]
        have HV := Aside0.mk hv
        clear hin hv
        go_wp2_with fail
        (with_reducible refine (clo_ x HGr.out HRr.out HC.out).mono ?_)
        rw [HV.out]
        rintro e w1 ⟨rfl, hd1⟩
        have HD1 := Aside0.mk hd1
        clear hd1
        go_wp2_with fail
        go_ret
        exact ⟨_, rfl, .inr ⟨k, hlt, rfl, by rw [HX.out]; exact HIN.out, HAL.out⟩, drawn_trans HD.out HD1.out⟩
    · obtain rfl : k = m.length := by omega
      have t7 : decide ((m.length : Int) < (m.length : Int)) = false := decide_eq_false (by omega)
      rw [List.take_length] at HAL
      clear hall hd
      go_wp2_with fail
      go_ret
      exact ⟨_, rfl, .inl ⟨rfl, HAL.out⟩, HD.out⟩
end Go.Proofs.Yteocngcojijnkaa.Cm
namespace Go.Proofs.Yteocngcojijnkaa.Cm
open Go.ChangeShapes Go.WideShapes Go.ChangeAt Go.RowKit Go.Proofs.Yteocngcojijnkaa.QO Go.Proofs.Yteocngcojijnkaa.Lex
open Go.Proofs.YteocngcojijnkaaW.PrintWords Go.Proofs.YteocngcojijnkaaW.PrintLast Go.Proofs.YteocngcojijnkaaW.PrintMore
set_option linter.unusedVariables false
set_option linter.unusedSimpArgs false
def keep (l m : List Int) : List Int := m.filter (fun x => decide (x ∈ l))
theorem keep_all {l m : List Int} (h : ∀ x ∈ m, x ∈ l) : keep l m = m := by
  unfold keep
  rw [List.filter_eq_self]
  intro x hx
  exact decide_eq_true (h x hx)
theorem keep_app (l m n : List Int) : keep l (m ++ n) = keep l m ++ keep l n := List.filter_append ..
/-- one more is looked at, and kept -/
theorem keep_in {l m ys : List Int} {i j : Nat} (hj : j < m.length) (hij : i ≤ j) (hlen : ys.length = m.length) (h1 : ys.take i = keep l (m.take j)) (h2 : ys.drop j = m.drop j) (hin : m[j] ∈ l) :
    (ys.set i m[j]).take (i + 1) = keep l (m.take (j + 1)) ∧ (ys.set i m[j]).drop (j + 1) = m.drop (j + 1) := by
  constructor
  · rw [List.take_succ_eq_append_getElem hj, keep_app, ← h1]
    have hi : i < (ys.set i m[j]).length := by rw [List.length_set]; omega
    rw [List.take_succ_eq_append_getElem hi, List.getElem_set_self, List.take_set_of_le (Nat.le_refl i)]
    congr 1
    simp [keep, hin]
  · rw [List.drop_set_of_lt (by omega)]
    have := congrArg (List.drop 1) h2
    rwa [List.drop_drop, List.drop_drop] at this
theorem keep_out {l m ys : List Int} {i j : Nat} (hj : j < m.length) (h1 : ys.take i = keep l (m.take j)) (h2 : ys.drop j = m.drop j) (hin : m[j] ∉ l) :
    ys.take i = keep l (m.take (j + 1)) ∧ ys.drop (j + 1) = m.drop (j + 1) := by
  constructor
  · rw [List.take_succ_eq_append_getElem hj, keep_app, ← h1]
    simp [keep, hin]
  · have := congrArg (List.drop 1) h2
    rwa [List.drop_drop, List.drop_drop] at this
/-- the rest is cleared: what stands ahead of it stays -/
theorem clear_rest {e base : Nat} {ok : Nat → Prop} {g c n : Nat} {w0 : World} {B : Nat} (hg : B ≤ g) : ∀ (k o : Nat) (W : World) (xs : List Int),
    (Kd.int .i64).R e W base ok (.slice (some ⟨g, 0, none⟩) n c) xs → Below B w0 W → B ≤ W.heap.size →
    ∃ ys, (Kd.int .i64).R e (W.setCells g o (List.replicate k (.int .i64 0))) base ok (.slice (some ⟨g, 0, none⟩) n c) ys ∧ ys.length = xs.length ∧ ys.take o = xs.take o ∧ Below B w0 (W.setCells g o (List.replicate k (.int .i64 0))) := by
  intro k
  induction k with
  | zero => intro o W xs h hb _; exact ⟨xs, h, rfl, rfl, hb⟩
  | succ k ih =>
    intro o W xs h hb hs
    have hp := Kd.R_putg h (o : Int) 0
    rw [show (o : Int).toNat = o from rfl] at hp
    obtain ⟨ys, h1, h2, h3, h4⟩ := ih (o + 1) _ _ hp.1 (pw_below_grown hb _ hs hp.2 (by intro k hk; injection hk with hk; subst hk; exact hg)) (Nat.le_trans hs hp.2.size)
    refine ⟨ys, h1, by rw [h2, List.length_set], ?_, h4⟩
    have := congrArg (List.take o) h3
    rw [List.take_take, List.take_take, Nat.min_eq_left (Nat.le_succ o), List.take_set_of_le (Nat.le_refl o)] at this
    exact this
set_option maxHeartbeats 4000000 in
set_option maxRecDepth 100000 in
theorem delete_ {w0 w : World} {g : Nat} {A : Option Addr} {c : Nat} {l : List Int} {v : Value} {m : List Int} (hg : w0.heap[g]? = some (.cells #[.slice A l.length c] 22 (0, 0))) (hr : Kd.C (Kd.int .i64) w0 A l.length l) (hc : l.length ≤ c)
    (ho : Kd.R (Kd.int .i64) 3 w w0.heap.size (fun _ => True) v m) (hb : Below w0.heap.size w0 w) :
    Calls Try.prog 32 #[v, .func (.func 33) #[] #[.pointer (some ⟨g, 0, none⟩)]] w fun e w' => ∃ v', e = .returned v' ∧ Kd.R (Kd.int .i64) 3 w' w0.heap.size (fun _ => True) v' (keep l m) ∧ Below w0.heap.size w0 w' := by
  obtain ⟨A1, c1, rfl, hc1, hr1⟩ := Kd.R_reads ho
  have HG := Aside0.mk hg
  have HR := Aside0.mk hr
  have HC := Aside0.mk hc
  have HO := Aside0.mk ho
  have HB := Aside0.mk hb
  have HR1 := Aside0.mk hr1
  have HF := Aside0.mk (fun (h : 0 < m.length) => Kd.R_form ho h)
  have HC1 := Aside0.mk hc1
  have hm := hr1.2.1
  clear hg hr hc ho hb hr1 hc1
  go_enter Try.func32, Try.ntmps32
  go_wp2_with fail
  (with_reducible refine (index_ (blk_below HG.out HB.out) (Kd.C_below HR.out HB.out) HC.out HR1.out HC1.out).mono ?_)
  rintro e w1 ⟨r, rfl, hr, hd⟩
  have HO1 := Aside0.mk (Kd.R_below HO.out hd.below)
  have HB1 := Aside0.mk (below_then HB.out HB.out.size hd.below)
  clear hd
  rcases hr with ⟨rfl, hall⟩ | ⟨i, hi, rfl, hni, hpre⟩
  · have HK := Aside0.mk (keep_all hall)
    clear hall
    go_wp2_with fail
    go_ret
    exact ⟨_, rfl, by rw [HK.out]; exact HO1.out, HB1.out⟩
  · have HP := Aside0.mk hpre
    have HN := Aside0.mk hni
    have t1 : ((i : Int) == -1) = false := beq_eq_false_iff_ne.2 (by omega)
    clear hpre hni
    obtain ⟨g2, cap, hv, hg2, _, _⟩ := HF.out (by omega)
    injection hv with hv1 hv2 hv3
    subst hv1 hv3
    have HG2 := Aside0.mk hg2
    clear hg2
    go_wp2_with fail
    go_loopg [5, 6] (m.length - (i + 1)) (fun n vi vj w' => ∃ (ic jc : Nat) (ys : List Int), vi = .int .i64 ic ∧ vj = .int .i64 jc ∧ ic < jc ∧ jc ≤ m.length ∧ n = m.length - jc ∧ Aside0 (ys.length = m.length ∧ ys.take ic = keep l (m.take jc) ∧ ys.drop jc = m.drop jc) ∧ Aside0 (Kd.R (Kd.int .i64) 3 w' w0.heap.size (fun _ => True) (.slice (some ⟨g2, 0, none⟩) m.length c1) ys) ∧ Aside0 (Below w0.heap.size w0 w'))
    case atStart =>
      exact ⟨i, i + 1, m, rfl, by go_num, Nat.lt_succ_self _, hi, rfl, ⟨rfl, (keep_out hi (keep_all HP.out).symm rfl HN.out).1, rfl⟩, HO1, HB1⟩
    case round =>
      obtain ⟨ic, jc, ys, rfl, rfl, hij, hjm, rfl, HY, HOr, HBr⟩ := hrel
      clear HP HN HO1 HB1
      by_cases hlt : jc < m.length
      · have t2 : decide ((jc : Int) < (m.length : Int)) = true := decide_eq_true (by omega)
        have hly := HY.out.1
        have hjy : jc < ys.length := by omega
        have hyx : ys[jc] = m[jc] := by
          have h := HY.out.2.2
          rw [List.drop_eq_getElem_cons hjy, List.drop_eq_getElem_cons hlt] at h
          exact (List.cons.inj h).1
        obtain ⟨hcell0, _⟩ := Kd.R_cell (0 : Int) (by rw [hly]; exact HOr.out) (jc : Int) (by omega) (by omega)
        have hcell : wr.cell? ⟨g2, jc, none⟩ = some (.int .i64 m[jc]) := by
          rw [show (jc : Int).toNat = jc from rfl] at hcell0
          rw [hcell0, ← hyx]
          simp [rdOf, hjy]
        have HGr := Aside0.mk (blk_below HG.out HBr.out)
        have HRr := Aside0.mk (Kd.C_below HR.out HBr.out)
        clear hcell0 hyx hly hjy
        by_cases hin : m[jc] ∈ l
        · have HIN := Aside0.mk hin
          have HV := Aside0.mk (show (!decide (m[jc] ∈ l)) = false by simp [hin])
          obtain ⟨x, hx⟩ : ∃ x, m[jc] = x := ⟨_, rfl⟩
          have HX := Aside0.mk hx
          rw [hx] at hcell HV
          clear hin hx
          go_wp2_with fail
          (with_reducible refine (clo_ x HGr.out HRr.out HC.out).mono ?_)
          rw [HV.out]
          rintro e w1 ⟨rfl, hd1⟩
          have HO2 := Aside0.mk (Kd.R_below HOr.out hd1.below)
          have HB2 := Aside0.mk (below_then HBr.out HBr.out.size hd1.below)
          clear hd1
          obtain ⟨hci, hfi⟩ := Kd.R_cell (0 : Int) (by rw [HY.out.1]; exact HO2.out) (ic : Int) (by omega) (by have := HY.out.1; omega)
          rw [show (ic : Int).toNat = ic from rfl] at hci hfi
          have t3 : decide ((ic : Int) < (m.length : Int)) = true := decide_eq_true (by omega)
          go_wp2_with fail
          go_roundg (m.length - (jc + 1))
          case measure => omega
          case rel =>
            have hp := Kd.R_putg HO2.out (ic : Int) x
            have hk := keep_in hlt (Nat.le_of_lt hij) HY.out.1 HY.out.2.1 HY.out.2.2 (by rw [HX.out]; rw [HX.out] at HIN; exact HIN.out)
            rw [HX.out] at hk
            exact ⟨ic + 1, jc + 1, ys.set ic x, by go_num, by go_num, by omega, hlt, rfl, ⟨by rw [List.length_set]; exact HY.out.1, hk.1, hk.2⟩, ⟨hp.1⟩, ⟨pw_below_grown HB2.out _ HB2.out.size hp.2 (by intro k hk; injection hk with hk; subst hk; exact HG2.out)⟩⟩
        · have HIN := Aside0.mk hin
          have HV := Aside0.mk (show (!decide (m[jc] ∈ l)) = true by simp [hin])
          obtain ⟨x, hx⟩ : ∃ x, m[jc] = x := ⟨_, rfl⟩
          rw [hx] at hcell HV
          clear hin hx
          go_wp2_with fail
          (with_reducible refine (clo_ x HGr.out HRr.out HC.out).mono ?_)
          rw [HV.out]
          rintro e w1 ⟨rfl, hd1⟩
          have HO2 := Aside0.mk (Kd.R_below HOr.out hd1.below)
          have HB2 := Aside0.mk (below_then HBr.out HBr.out.size hd1.below)
          clear hd1
          go_wp2_with fail
          go_roundg (m.length - (jc + 1))
          case measure => omega
          case rel =>
            have hk := keep_out hlt HY.out.2.1 HY.out.2.2 HIN.out
            exact ⟨ic, jc + 1, ys, rfl, by go_num, by omega, hlt, rfl, ⟨HY.out.1, hk.1, hk.2⟩, HO2, HB2⟩
      · obtain rfl : jc = m.length := by omega
        have t2 : decide ((m.length : Int) < (m.length : Int)) = false := decide_eq_false (by omega)
        have hc9 := HC1.out
        have t4 : (c1 == ic) = false := beq_eq_false_iff_ne.2 (by omega)
        have t8 : ¬ (c1 = ic) := by omega
        have t9 : ic ≤ c1 := by omega
        have t10 : decide ((c1 : Int) < (ic : Int)) = false := decide_eq_false (by omega)
        have t5 : decide ((ic : Int) < 0) = false := decide_eq_false (by omega)
        have t6 : decide ((m.length : Int) < (ic : Int)) = false := decide_eq_false (by omega)
        have t7 : decide (m.length < ic) = false := decide_eq_false (by omega)
        have HIJ := Aside0.mk hij
        clear hc9
        have hz : ∀ w, (zeroValue 3).run Try.prog w = .ok (.int .i64 0) w := fun w => by first | rfl | (simp [zeroValue]; rfl)
        have hcl := Go.Lib.run_clear_slice wr 22 3 0 (.int .i64 0) Try.underlying22 hz rfl rfl g2 ic (m.length - ic) (c1 - ic) (by omega) (fun j hj => by
          obtain ⟨h, _⟩ := Kd.R_cell (0 : Int) (by rw [HY.out.1]; exact HOr.out) ((ic + j : Nat) : Int) (by omega) (by have := HY.out.1; omega)
          rw [show ((ic + j : Nat) : Int).toNat = ic + j from rfl] at h
          rw [h]; rfl) (fun j hj => by
          obtain ⟨_, h⟩ := Kd.R_cell (0 : Int) (by rw [HY.out.1]; exact HOr.out) ((ic + j : Nat) : Int) (by omega) (by have := HY.out.1; omega)
          exact h)
        go_wp2_with fail
        go_ret
        obtain ⟨zs, z1, z2, z3, z4⟩ := clear_rest HG2.out (m.length - ic) ic wr ys HOr.out HBr.out HBr.out.size
        have hk := HY.out.2.1
        rw [List.take_length] at hk
        rw [← hk, ← z3]
        exact ⟨_, rfl, Kd.R_take z1 (by rw [z2, HY.out.1]; omega), z4⟩
end Go.Proofs.Yteocngcojijnkaa.Cm
namespace Go.Proofs.Yteocngcojijnkaa.Cm
open Go.ChangeShapes Go.WideShapes Go.ChangeAt Go.RowKit Go.Proofs.Yteocngcojijnkaa.QO Go.Proofs.Yteocngcojijnkaa.Lex
open Go.Proofs.YteocngcojijnkaaW.PrintWords Go.Proofs.YteocngcojijnkaaW.PrintLast Go.Proofs.YteocngcojijnkaaW.PrintMore
set_option linter.unusedVariables false
set_option linter.unusedSimpArgs false
def common.f (k : Nat) (a b : List Int) : Option (List Int) := (quorum_once.f k a).bind fun o => some (keep b o)
theorem common.mono : ∀ a0 a1 k, LeO (common.f k a0 a1) (common.f (k + 1) a0 a1) := by
  intro a b k
  exact LeO.bind (quorum_once.mono a k) (fun _ => LeO.refl _)
set_option maxHeartbeats 4000000 in
set_option maxRecDepth 100000 in
theorem common.calls (k : Nat) (A0 : Option Addr) (c0 : Nat) (l0 : List Int) (A1 : Option Addr) (c1 : Nat) (l1 : List Int) (r : List Int) (w : World) (hr0 : Kd.C (Kd.int .i64) w A0 l0.length l0) (hc0 : l0.length ≤ c0) (hr1 : Kd.C (Kd.int .i64) w A1 l1.length l1) (hc1 : l1.length ≤ c1) (h : common.f k l0 l1 = some r) :
    Calls Try.prog 16 #[.slice A0 l0.length c0, .slice A1 l1.length c1] w fun e w' => ∃ v0_ : Value, e = .returned (v0_) ∧ Kd.R (Kd.int .i64) 3 w' w.heap.size (fun _ => True) v0_ r ∧ Below w.heap.size w w' := by
  obtain ⟨o, ho, hr⟩ := Option.bind_eq_some_iff.1 h
  obtain rfl := Option.some.inj hr
  have HR0 := Aside0.mk hr0
  have HC0 := Aside0.mk hc0
  have HR1 := Aside0.mk hr1
  have HC1 := Aside0.mk hc1
  have HO := Aside0.mk ho
  clear hr0 hc0 hr1 hc1 h ho hr
  have hmf : ∀ (fn : Fn) (first cap : Array Value) (w : World), (Instr.makeFunc fn first cap).run Try.prog w = .ok (.func fn first cap) w := fun _ _ _ _ => rfl
  go_enter Try.func16, Try.ntmps16
  go_wp2_with fail
  obtain ⟨W, hW⟩ : ∃ W, W = w.alloc (.cells #[.slice A1 l1.length c1] 22) := ⟨_, rfl⟩
  have HG : Aside0 (W.heap[w.heap.size]? = some (.cells #[.slice A1 l1.length c1] 22 (0, 0))) := ⟨by rw [hW]; exact Array.getElem?_push_size⟩
  have HRa := Aside0.mk (show Kd.C (Kd.int .i64) W A0 l0.length l0 by rw [hW]; exact Kd.C_alloc HR0.out _)
  have HRb := Aside0.mk (show Kd.C (Kd.int .i64) W A1 l1.length l1 by rw [hW]; exact Kd.C_alloc HR1.out _)
  have HBW : Aside0 (Below w.heap.size w W) := ⟨by rw [hW]; exact below_alloc (Below.refl _ _) _⟩
  rw [← hW]
  clear hW
  (with_reducible refine (quorum_once.calls k A0 c0 l0 _ W HRa.out HC0.out HO.out).mono ?_)
  rintro e w1 ⟨v, rfl, hv, hb⟩
  have HV := Aside0.mk hv
  have HB := Aside0.mk hb
  clear hv hb
  go_wp2_with fail
  (with_reducible refine (delete_ HG.out HRb.out HC1.out HV.out HB.out).mono ?_)
  rintro e w2 ⟨v', rfl, hv', hb'⟩
  have HV' := Aside0.mk hv'
  have HB' := Aside0.mk hb'
  clear hv' hb'
  go_wp2_with fail
  go_ret
  exact ⟨_, rfl, Kd.R_lower HV'.out HBW.out.size, below_then HBW.out HBW.out.size HB'.out⟩
end Go.Proofs.Yteocngcojijnkaa.Cm
namespace Go.Proofs.Yteocngcojijnkaa.QE
open Go.RowKit Go.Proofs.YteocngcojijnkaaW.PrintWords Go.Proofs.YteocngcojijnkaaW.PrintLast Go.Proofs.YteocngcojijnkaaW.PrintMore
attribute [local go_sem] max2_int min2_int max_two min_two max_three min_three max_four min_four   -- for this text's walks alone
set_option linter.unusedVariables false
set_option linter.unusedSimpArgs false
def errW : Option Int → Value
  | none => .nilIface
  | some c => .iface 0 (.int .i64 c)
theorem errW_none : errW none = .nilIface := rfl
theorem errW_some (c : Int) : errW (some c) = .iface 0 (.int .i64 c) := rfl

-- the values' own types
end Go.Proofs.Yteocngcojijnkaa.QE
namespace Go.Proofs.Yteocngcojijnkaa.QE
open Go.RowKit Go.Proofs.YteocngcojijnkaaW.PrintWords Go.Proofs.YteocngcojijnkaaW.PrintLast Go.Proofs.YteocngcojijnkaaW.PrintMore
attribute [local go_sem] max2_int min2_int max_two min_two max_three min_three max_four min_four   -- for this text's walks alone
set_option linter.unusedVariables false
set_option linter.unusedSimpArgs false
/-! ### quorum_Enough: function 13 -/
def quorum_Enough.f (k : Nat) (l0 : List Int) (l1 : List Int) : Option (Bool) := (QO.quorum_once.f k l0).bind fun t101 => (if (t101.length : Int) > 0 then ((Cm.common.f k l0 l1).bind fun t104 => ((QO.quorum_Need.f (t101.length : Int)).bind fun t107 => (some (decide ((t104.length : Int) ≥ t107))))) else (some false))
theorem quorum_Enough.mono : ∀ a0 a1 k, LeO (quorum_Enough.f k a0 a1) (quorum_Enough.f (k + 1) a0 a1) := by
  intro a0 a1 k
  unfold quorum_Enough.f
  repeat' first
      | (with_reducible exact Cm.common.mono _ _ _)
      | (with_reducible exact QO.quorum_once.mono _ _)
      | (with_reducible exact LeO.refl _)
      | (with_reducible exact LeO.none _)
      | (with_reducible refine LeO.ite ?_ ?_)
      | (with_reducible refine LeO.bind ?_ (fun _ => ?_))
      | exact Cm.common.mono _ _ _
      | exact QO.quorum_once.mono _ _
      | exact LeO.none _
      | refine LeO.ite ?_ ?_
      | refine LeO.bind ?_ (fun _ => ?_)
set_option maxHeartbeats 8000000 in
set_option maxRecDepth 100000 in
theorem quorum_Enough.calls (k : Nat) (A0 : Option Addr) (c0 : Nat) (l0 : List Int) (A1 : Option Addr) (c1 : Nat) (l1 : List Int) (r : Bool) (w : World) (hr0 : Kd.C (Kd.int .i64) w A0 l0.length l0) (hc0 : l0.length ≤ c0) (hr1 : Kd.C (Kd.int .i64) w A1 l1.length l1) (hc1 : l1.length ≤ c1) (h : quorum_Enough.f k l0 l1 = some r) :
    Calls Try.prog 13 #[.slice A0 l0.length c0, .slice A1 l1.length c1] w fun e w' => e = .returned (.bool r) ∧ Below w.heap.size w w' := by
  have HR0 := Aside0.mk hr0
  have HC0 := Aside0.mk hc0
  clear hr0 hc0
  have HR1 := Aside0.mk hr1
  have HC1 := Aside0.mk hc1
  clear hr1 hc1
  have HB := Aside0.mk (Below.refl w.heap.size w)
  have H : ((QO.quorum_once.f k l0).bind fun t101 => (if (t101.length : Int) > 0 then ((Cm.common.f k l0 l1).bind fun t104 => ((QO.quorum_Need.f (t101.length : Int)).bind fun t107 => (some (decide ((t104.length : Int) ≥ t107))))) else (some false))) = some r := h
  clear h
  replace H := Option.bind_eq_some_iff.mp H
  obtain ⟨t101, A30, H⟩ := H
  replace H : (if (t101.length : Int) > 0 then ((Cm.common.f k l0 l1).bind fun t104 => ((QO.quorum_Need.f (t101.length : Int)).bind fun t107 => (some (decide ((t104.length : Int) ≥ t107))))) else (some false)) = some r := H
  have A3 := Aside0.mk A30
  clear A30
  by_cases c4 : (t101.length : Int) > 0
  · rw [if_pos c4] at H
    have c4b0 : decide (0 < (t101.length : Int)) = true := decide_eq_true c4
    have c4b1 : decide (0 < t101.length) = true := decide_eq_true (by omega)
    clear c4
    replace H := Option.bind_eq_some_iff.mp H
    obtain ⟨t104, A50, H⟩ := H
    replace H : ((QO.quorum_Need.f (t101.length : Int)).bind fun t107 => (some (decide ((t104.length : Int) ≥ t107)))) = some r := H
    have A5 := Aside0.mk A50
    clear A50
    replace H := Option.bind_eq_some_iff.mp H
    obtain ⟨t107, A60, H⟩ := H
    replace H : (some (decide ((t104.length : Int) ≥ t107))) = some r := H
    have A6 := Aside0.mk A60
    clear A60
    obtain rfl := Option.some.inj H
    go_enter Try.func13, Try.ntmps13
    go_wp2_with (first | ((with_reducible refine gate_callee (f := 31) rfl ?_); refine goesL_ (some 7) rfl rfl Try.func31 (by kernel_rfl) rfl #[.slice A0 l0.length c0] rfl (by (try simp only [List.map_toArray, List.map_cons, List.map_nil]); first | done | rfl | (simp only [List.length_drop, List.length_take]; rfl)) ?_; (with_reducible refine (QO.quorum_once.calls k _ _ l0 t101 _ ?side1 ?side2 A3.out).mono ?_); (case side1 => repeat (first | exact HR0.out | (with_reducible refine Kd.C_alloc ?_ _) | (with_reducible refine Kd.C_drewN ?_ _) | (with_reducible refine Kd.C_drew ?_))); (case side2 => exact HC0.out); rintro e w7 ⟨v102, rfl, ho0, hb⟩; refine ⟨_, rfl, ?_⟩; have n0_ := Aside0.mk (Kd.R_lower ho0 (below_size (by repeat (first | (with_reducible first | exact HB.out | apply below_alloc | apply pw_below_drewN | apply below_drew1) | exact HB.out)))); have n1_ := Aside0.mk (below_step (by repeat (first | (with_reducible first | exact HB.out | apply below_alloc | apply pw_below_drewN | apply below_drew1) | exact HB.out)) hb); clear HB; have HO103 := n0_; have HB := n1_; clear n0_ n1_; (try clear hb); (try clear hb2); (try clear hk); (try clear hi); (try clear ho0); obtain ⟨Ao8, co8, eo8⟩ := Kd.R_slice HO103.out; subst eo8) | (go_at_call 16; (with_reducible refine (Cm.common.calls k _ _ l0 _ _ l1 t104 _ ?side1 ?side2 ?side3 ?side4 A5.out).mono ?_); (case side1 => repeat (first | exact (Kd.C_below HR0.out HB.out) | (with_reducible refine Kd.C_alloc ?_ _) | (with_reducible refine Kd.C_drewN ?_ _) | (with_reducible refine Kd.C_drew ?_))); (case side2 => exact HC0.out); (case side3 => repeat (first | exact (Kd.C_below HR1.out HB.out) | (with_reducible refine Kd.C_alloc ?_ _) | (with_reducible refine Kd.C_drewN ?_ _) | (with_reducible refine Kd.C_drew ?_))); (case side4 => exact HC1.out); rintro e w9 ⟨v105, rfl, ho0, hb⟩; have n0_ := Aside0.mk (Kd.R_elder' (by (with_reducible repeat (first | apply Kd.R_alloc | apply Kd.R_drewN | apply Kd.R_drew)); exact HO103.out) (Kd.R_base ho0) hb); have n1_ := Aside0.mk (Kd.R_lower (Kd.R_new' ho0 (Kd.R_lt (by (with_reducible repeat (first | apply Kd.R_alloc | apply Kd.R_drewN | apply Kd.R_drew)); exact HO103.out))) (below_size (by repeat (first | (with_reducible first | exact HB.out | apply below_alloc | apply pw_below_drewN | apply below_drew1) | exact HB.out)))); have n2_ := Aside0.mk (below_step (by repeat (first | (with_reducible first | exact HB.out | apply below_alloc | apply pw_below_drewN | apply below_drew1) | exact HB.out)) hb); clear HO103; clear HB; have HO103 := n0_; have HO106 := n1_; have HB := n2_; clear n0_ n1_ n2_; (try clear hb); (try clear hb2); (try clear hk); (try clear hi); (try clear ho0); obtain ⟨Ao10, co10, eo10⟩ := Kd.R_slice HO106.out; subst eo10) | (go_at_call 12; (with_reducible refine (QO.quorum_Need.calls (t101.length : Int) t107 _ A6.out).mono ?_); rintro e w' ⟨rfl, ⟨nd, rfl⟩⟩))
    go_ret
    exact ⟨by first | rfl | (simp [errW_none, errW_some] <;> rfl) | (simp [*, errW_none, errW_some] <;> rfl), by repeat (first | (with_reducible first | exact HB.out | apply below_alloc | apply pw_below_drewN | apply below_drew1) | exact HB.out)⟩
  · rw [if_neg c4] at H
    have c4b0 : decide (0 < (t101.length : Int)) = false := decide_eq_false c4
    have c4b1 : decide (0 < t101.length) = false := decide_eq_false (by omega)
    clear c4
    obtain rfl := Option.some.inj H
    go_enter Try.func13, Try.ntmps13
    go_wp2_with (first | ((with_reducible refine gate_callee (f := 31) rfl ?_); refine goesL_ (some 7) rfl rfl Try.func31 (by kernel_rfl) rfl #[.slice A0 l0.length c0] rfl (by (try simp only [List.map_toArray, List.map_cons, List.map_nil]); first | done | rfl | (simp only [List.length_drop, List.length_take]; rfl)) ?_; (with_reducible refine (QO.quorum_once.calls k _ _ l0 t101 _ ?side1 ?side2 A3.out).mono ?_); (case side1 => repeat (first | exact HR0.out | (with_reducible refine Kd.C_alloc ?_ _) | (with_reducible refine Kd.C_drewN ?_ _) | (with_reducible refine Kd.C_drew ?_))); (case side2 => exact HC0.out); rintro e w11 ⟨v102, rfl, ho0, hb⟩; refine ⟨_, rfl, ?_⟩; have n0_ := Aside0.mk (Kd.R_lower ho0 (below_size (by repeat (first | (with_reducible first | exact HB.out | apply below_alloc | apply pw_below_drewN | apply below_drew1) | exact HB.out)))); have n1_ := Aside0.mk (below_step (by repeat (first | (with_reducible first | exact HB.out | apply below_alloc | apply pw_below_drewN | apply below_drew1) | exact HB.out)) hb); clear HB; have HO103 := n0_; have HB := n1_; clear n0_ n1_; (try clear hb); (try clear hb2); (try clear hk); (try clear hi); (try clear ho0); obtain ⟨Ao12, co12, eo12⟩ := Kd.R_slice HO103.out; subst eo12))
    go_ret
    exact ⟨by first | rfl | (simp [errW_none, errW_some] <;> rfl) | (simp [*, errW_none, errW_some] <;> rfl), by repeat (first | (with_reducible first | exact HB.out | apply below_alloc | apply pw_below_drewN | apply below_drew1) | exact HB.out)⟩
/-- THE ONE PURE STATEMENT of quorum_Enough: yours. -/
def quorum_Enough.Pure : Prop := ∀ (l0 : List Int) (l1 : List Int), l0.length ≤ maxLen → l0.length * 8 ≤ 140737488351232 → (∀ x ∈ l0, (Lit.int .i64 x).wf = true) → l1.length ≤ maxLen → l1.length * 8 ≤ 140737488351232 → (∀ x ∈ l1, (Lit.int .i64 x).wf = true) → ∃ k, quorum_Enough.f k l0 l1 = some true
/-! ### quorum_Meet: function 18 -/
def quorum_Meet.f (a0 : Int) (a1 : Int) (a2 : Int) : Option (Bool) := if a1 ≥ 0 then (if a2 ≥ 0 then (if a1 ≤ a0 then (if a2 ≤ a0 then (some (decide (a1 > (wrap64 (a0 - a2))))) else (some false)) else (some false)) else (some false)) else (some false)
/-- THE ONE PURE STATEMENT of quorum_Meet: yours. -/
def quorum_Meet.Pure : Prop := ∀ (a0 : Int) (a1 : Int) (a2 : Int), (Lit.int .i64 a0).wf = true → (Lit.int .i64 a1).wf = true → (Lit.int .i64 a2).wf = true → quorum_Meet.f a0 a1 a2 = some true
end Go.Proofs.Yteocngcojijnkaa.QE
namespace Go.Proofs.Yteocngcojijnkaa.QE
open Go.RowKit Go.Proofs.YteocngcojijnkaaW.PrintWords Go.Proofs.YteocngcojijnkaaW.PrintLast Go.Proofs.YteocngcojijnkaaW.PrintMore
attribute [local go_sem] max2_int min2_int max_two min_two max_three min_three max_four min_four   -- for this text's walks alone
set_option linter.unusedVariables false
set_option linter.unusedSimpArgs false
end Go.Proofs.Yteocngcojijnkaa.QE
namespace Go.Proofs.Yteocngcojijnkaa.Ql
open Go.RowKit Go.Proofs.Yteocngcojijnkaa.QO Go.Proofs.Yteocngcojijnkaa.QE Go.Proofs.Yteocngcojijnkaa.Lex Go.Proofs.Yteocngcojijnkaa.Cm
open Go.Proofs.YteocngcojijnkaaW.PrintWords
set_option linter.unusedVariables false
def dd : List Int → List Int → List Int
  | out, [] => out
  | out, x :: t => if x ∈ out then dd out t else dd (out ++ [x]) t
def cm (b : List Int) : List Int → List Int → List Int
  | out, [] => out
  | out, x :: t => if x ∈ b then (if x ∈ out then cm b out t else cm b (out ++ [x]) t) else cm b out t
def once (l : List Int) : List Int := dd [] l
def com (a b : List Int) : List Int := cm b [] a
theorem mem_dd {x : Int} : ∀ (l out : List Int), x ∈ dd out l ↔ x ∈ out ∨ x ∈ l
  | [], out => by simp [dd]
  | y :: t, out => by
    unfold dd
    split
    · rename_i h
      rw [mem_dd t out]
      constructor
      · rintro (h | h)
        · exact .inl h
        · exact .inr (List.mem_cons_of_mem _ h)
      · rintro (h1 | h1)
        · exact .inl h1
        · rcases List.mem_cons.1 h1 with rfl | h1
          · exact .inl h
          · exact .inr h1
    · rw [mem_dd t, List.mem_append, List.mem_singleton, List.mem_cons, or_assoc]
theorem mem_once {x : Int} {l : List Int} : x ∈ once l ↔ x ∈ l := by rw [once, mem_dd]; simp
theorem dd_len : ∀ (l out : List Int), (dd out l).length ≤ out.length + l.length ∧ out.length ≤ (dd out l).length
  | [], out => by simp [dd]
  | y :: t, out => by
    unfold dd
    split
    · have := dd_len t out; simp only [List.length_cons]; omega
    · have := dd_len t (out ++ [y]); simp only [List.length_cons, List.length_append, List.length_nil] at *; omega
theorem once_len (l : List Int) : (once l).length ≤ l.length := by have := (dd_len l []).1; simpa [once] using this
theorem once_pos {l : List Int} (h : 0 < l.length) : 0 < (once l).length := by
  obtain ⟨x, hx⟩ := List.exists_mem_of_length_pos h
  exact List.length_pos_of_mem (mem_once.2 hx)
theorem dd_nodup : ∀ (l out : List Int), out.Nodup → (dd out l).Nodup
  | [], out, h => h
  | y :: t, out, h => by
    unfold dd
    split
    · exact dd_nodup t out h
    · rename_i hn
      refine dd_nodup t _ ?_
      rw [List.nodup_append]
      refine ⟨h, by simp, ?_⟩
      intro a ha b hb
      rw [List.mem_singleton.1 hb]
      rintro rfl
      exact hn ha
theorem mem_keep {b m : List Int} {x : Int} : x ∈ keep b m ↔ x ∈ m ∧ x ∈ b := by unfold keep; rw [List.mem_filter, decide_eq_true_iff]
theorem keep_dd (b : List Int) : ∀ (l out : List Int), keep b (dd out l) = cm b (keep b out) l
  | [], out => rfl
  | x :: t, out => by
    unfold dd cm
    by_cases hb : x ∈ b
    · rw [if_pos hb]
      by_cases ho : x ∈ out
      · rw [if_pos ho, if_pos (mem_keep.2 ⟨ho, hb⟩)]; exact keep_dd b t out
      · rw [if_neg ho, if_neg (fun h => ho (mem_keep.1 h).1), keep_dd b t, keep_app]
        congr 1
        simp [keep, hb]
    · rw [if_neg hb]
      by_cases ho : x ∈ out
      · rw [if_pos ho]; exact keep_dd b t out
      · rw [if_neg ho, keep_dd b t, keep_app]
        congr 1
        simp [keep, hb]
theorem keep_once (a b : List Int) : keep b (once a) = com a b := keep_dd b a []
theorem mem_com {a b : List Int} {x : Int} : x ∈ com a b ↔ x ∈ a ∧ x ∈ b := by rw [← keep_once, mem_keep, mem_once]
theorem com_self (l : List Int) : com l l = once l := by
  rw [← keep_once]
  exact keep_all fun x hx => mem_once.1 hx
theorem com_more {l m : List Int} (h : ∀ x ∈ l, x ∈ m) : com l m = once l := by
  rw [← keep_once]
  exact keep_all fun x hx => h x (mem_once.1 hx)
theorem com_len (a b : List Int) : (com a b).length ≤ (once a).length := by rw [← keep_once]; exact List.length_filter_le _ _
theorem com_nil (l : List Int) : com l [] = [] := by
  apply List.eq_nil_iff_forall_not_mem.2
  intro x hx
  simpa using (mem_com.1 hx).2
def need (n : Int) : Int := if n < 1 then 0 else n / 2 + 1
def enough (l g : List Int) : Bool := decide (0 < (once l).length) && decide ((once l).length < 2 * (com l g).length)
/-! #### the printed functions -/
theorem need_eq (n : Int) (h : n ≤ 9223372036854775807) : quorum_Need.f n = some (need n) := by
  unfold quorum_Need.f need
  by_cases h1 : n < 1
  · rw [if_pos h1, if_pos h1]
  · rw [if_neg h1, if_neg h1, Int.tdiv_eq_ediv_of_nonneg (by omega)]
    congr 1
    unfold wrap64; omega
theorem once_l0 (l : List Int) (hl : l.length < 17592186044416) : ∀ (n i : Nat) (out : List Int), l.length - i = n → i ≤ l.length → out.length ≤ i →
    Since (fun k => quorum_once.l0 k out l (l.length : Int) (i : Int)) (dd out (l.drop i)) := by
  intro n
  induction n with
  | zero =>
    intro i out hn hi ho
    have hf : ¬ ((i : Int) < (l.length : Int)) := by omega
    refine Since.none fun k => ?_
    simp only [quorum_once.l0, if_neg hf]
    rw [List.drop_eq_nil_of_le (by omega)]; rfl
  | succ n ih =>
    intro i out hn hi ho
    have h1 : i < l.length := by omega
    have f1 : (i : Int) < (l.length : Int) := by omega
    have f0 : (0 : Int) ≤ (i : Int) := by omega
    have r1 : rd l (i : Int) = l[i] := by simp [rd, h1]
    have d := List.drop_eq_getElem_cons h1
    have hc := contains_ev out l[i] (by omega)
    by_cases he : l[i] ∈ out
    · have hr := ih (i + 1) out (by omega) (by omega) (by omega)
      refine Since.two hc hr fun k h1 h2 => ?_
      simp only [quorum_once.l0, if_pos f1, if_pos f0, r1]
      rw [h1, Option.bind_some, if_pos (decide_eq_true he), w_succ i (by omega), d, dd, if_pos he]
      exact h2
    · have hr := ih (i + 1) (out ++ [l[i]]) (by omega) (by omega) (by simp; omega)
      refine Since.two hc hr fun k h1 h2 => ?_
      simp only [quorum_once.l0, if_pos f1, if_pos f0, r1]
      rw [h1, Option.bind_some, if_neg (by simp [he]), if_pos (by omega), w_succ i (by omega), d, dd, if_neg he]
      exact h2
theorem once_ev (l : List Int) (hl : l.length < 17592186044416) : Since (fun k => quorum_once.f k l) (once l) := once_l0 l hl _ 0 [] rfl (Nat.zero_le _) (Nat.le_refl _)
theorem com_ev (a b : List Int) (ha : a.length < 17592186044416) : Since (fun k => common.f k a b) (com a b) := by
  refine (once_ev a ha).map fun k h => ?_
  rw [common.f, h, Option.bind_some, keep_once]
theorem enough_ev (l g : List Int) (hl : l.length < 17592186044416) : Since (fun k => quorum_Enough.f k l g) (enough l g) := by
  refine (once_ev l hl).and (com_ev l g hl) fun k h1 h2 => ?_
  have hlen := once_len l
  rw [quorum_Enough.f, h1, Option.bind_some]
  by_cases h0 : 0 < (once l).length
  · rw [if_pos (by omega), h2, Option.bind_some, need_eq _ (by omega), Option.bind_some]
    congr 1
    unfold enough need
    rw [if_neg (by omega), decide_eq_true h0, Bool.true_and]
    exact decide_eq_decide.2 (by omega)
  · rw [if_neg (by omega)]
    unfold enough
    rw [decide_eq_false h0, Bool.false_and]
end Go.Proofs.Yteocngcojijnkaa.Ql
namespace Go.Proofs.Yteocngcojijnkaa.Fk
open Go.ChangeShapes Go.WideShapes Go.ChangeAt Go.RowKit Go.Proofs.Yteocngcojijnkaa.QO Go.Proofs.Yteocngcojijnkaa.QE Go.Proofs.Yteocngcojijnkaa.Lex
open Go.Proofs.Yteocngcojijnkaa.Hlp Go.Proofs.YteocngcojijnkaaW.PrintWords Go.Proofs.YteocngcojijnkaaW.PrintLast Go.Proofs.YteocngcojijnkaaW.PrintMore
set_option linter.unusedVariables false
set_option linter.unusedSimpArgs false
theorem need3 : quorum_Need.f 3 = some 2 := by decide +kernel
theorem need4 : quorum_Need.f 4 = some 3 := by decide +kernel
theorem enough_k : quorum_Enough.f 9 [1, 2, 3] [3, 9, 1] = some true := by decide +kernel
theorem C_three {w : World} {g : Nat} {a b c : Int} (h : w.heap[g]? = some (.cells #[.int .i64 a, .int .i64 b, .int .i64 c] 3 (0, 0))) : Kd.C (Kd.int .i64) w (some ⟨g, 0, none⟩) [a, b, c].length [a, b, c] := C_blk (enc := Value.int .i64) (h1 := fun _ => rfl) (xs := [a, b, c]) (by simp) h rfl
theorem size_alloc (w : World) (o : Obj) : (w.alloc o).heap.size = w.heap.size + 1 := Array.size_push ..
theorem enough_call {w : World} {g g' : Nat} (h : w.heap[g]? = some (.cells #[.int .i64 1, .int .i64 2, .int .i64 3] 3 (0, 0))) (h' : w.heap[g']? = some (.cells #[.int .i64 3, .int .i64 9, .int .i64 1] 3 (0, 0))) :
    Calls Try.prog 13 #[.slice (some ⟨g, 0, none⟩) 3 3, .slice (some ⟨g', 0, none⟩) 3 3] w fun e w' => e = .returned (.bool true) ∧ Below w.heap.size w w' :=
  quorum_Enough.calls 9 _ 3 [1, 2, 3] _ 3 [3, 9, 1] _ _ (C_three h) (by decide) (C_three h') (by decide) enough_k
set_option maxHeartbeats 4000000 in
theorem add_nil (n : Int) (w : World) : Calls Try.prog 21 #[.pointer none, .int .i64 n] w fun e w' => e = .returned (.int .i64 1) ∧ w = w' := by
  go_enter Try.func21, Try.ntmps21
  go_wp2_with fail
  go_ret
  exact ⟨rfl, rfl⟩
set_option maxHeartbeats 4000000 in
set_option maxRecDepth 100000 in
theorem known_ (w : World) : Calls Try.prog 10 #[] w fun e w' => e = .returned (.bool true) ∧ Below w.heap.size w w' := by
  go_enter Try.func10, Try.ntmps10
  go_wp2_with fail
  (with_reducible refine (quorum_Need.calls 3 _ _ need3).mono ?_)
  rintro x w1 ⟨rfl, hb⟩
  have HB := Aside0.mk hb.below
  clear hb
  go_wp2_with fail
  (with_reducible refine (quorum_Need.calls 4 _ _ need4).mono ?_)
  rintro x w2 ⟨rfl, hb⟩
  have HB := Aside0.mk (below_then HB.out HB.out.size hb.below)
  clear hb
  go_wp2_with fail
  have HX := Aside0.mk (blk_alloc (blk_new w2 (.cells #[.int .i64 1, .int .i64 2, .int .i64 3] 3)) (.cells #[.int .i64 3, .int .i64 9, .int .i64 1] 3))
  have HY := Aside0.mk (blk_new (w2.alloc (.cells #[.int .i64 1, .int .i64 2, .int .i64 3] 3)) (.cells #[.int .i64 3, .int .i64 9, .int .i64 1] 3))
  rw [size_alloc] at HY
  have HB := Aside0.mk (below_alloc (below_alloc HB.out (.cells #[.int .i64 1, .int .i64 2, .int .i64 3] 3)) (.cells #[.int .i64 3, .int .i64 9, .int .i64 1] 3))
  (with_reducible refine (enough_call HX.out HY.out).mono ?_)
  rintro x w3 ⟨rfl, hb⟩
  have HB := Aside0.mk (below_then HB.out HB.out.size hb)
  clear hb
  go_wp2_with fail
  (with_reducible refine (add_nil 1 _).mono ?_)
  rintro x w4 ⟨rfl, rfl⟩
  go_wp2_with fail
  go_ret
  exact ⟨rfl, HB.out⟩
/-- for the print -/
def known.f : Option Bool := some true
theorem known.calls (r : Bool) (w : World) (h : known.f = some r) : Calls Try.prog 10 #[] w fun e w' => e = .returned (.bool r) ∧ Below w.heap.size w w' := by
  obtain rfl := Option.some.inj h
  exact known_ w
end Go.Proofs.Yteocngcojijnkaa.Fk
namespace Go.Proofs.Yteocngcojijnkaa.Cn
open Go.ChangeShapes Go.WideShapes Go.ChangeAt Go.RowKit Go.Proofs.Yteocngcojijnkaa.QO Go.Proofs.Yteocngcojijnkaa.QE Go.Proofs.Yteocngcojijnkaa.Lex Go.Proofs.Yteocngcojijnkaa.Cm Go.Proofs.Yteocngcojijnkaa.Ql
open Go.Proofs.YteocngcojijnkaaW.PrintWords Go.Proofs.YteocngcojijnkaaW.PrintLast Go.Proofs.YteocngcojijnkaaW.PrintMore
set_option linter.unusedVariables false
set_option linter.unusedSimpArgs false
/-- which are marked -/
def marks (l seen : List Int) : List Bool := l.map fun y => decide (y ∈ seen)
/-- a count, in memory -/
def St (w : World) (base g : Nat) (l seen : List Int) : Prop :=
  ∃ A c b d, w.heap[g]? = some (.cells #[.slice A l.length c, .slice (some ⟨b, 0, none⟩) l.length d] 56 (0, 0)) ∧ base ≤ g ∧
    Kd.R (Kd.int .i64) 3 w base (fun _ => True) (.slice A l.length c) l ∧ Kd.R Kd.bool 4 w base (fun _ => True) (.slice (some ⟨b, 0, none⟩) l.length d) (marks l seen)
theorem St.below {w w1 : World} {base g : Nat} {l seen : List Int} (h : St w base g l seen) (hb : Below w.heap.size w w1) : St w1 base g l seen := by
  obtain ⟨A, c, b, d, h1, h2, h3, h4⟩ := h
  exact ⟨A, c, b, d, blk_below h1 hb, h2, Kd.R_below h3 hb, Kd.R_below h4 hb⟩
end Go.Proofs.Yteocngcojijnkaa.Cn
namespace Go.Proofs.Yteocngcojijnkaa.Cn
open Go.ChangeShapes Go.WideShapes Go.ChangeAt Go.RowKit Go.Proofs.Yteocngcojijnkaa.QO Go.Proofs.Yteocngcojijnkaa.QE Go.Proofs.Yteocngcojijnkaa.Lex Go.Proofs.Yteocngcojijnkaa.Cm Go.Proofs.Yteocngcojijnkaa.Ql
open Go.Proofs.YteocngcojijnkaaW.PrintWords Go.Proofs.YteocngcojijnkaaW.PrintLast Go.Proofs.YteocngcojijnkaaW.PrintMore
set_option linter.unusedVariables false
set_option linter.unusedSimpArgs false
theorem R_lit0 (W : World) (base : Nat) (hb : base ≤ W.heap.size) : Kd.R (Kd.int .i64) 3 (W.alloc (.cells #[] 3)) base (fun _ => True) (.slice (some ⟨W.heap.size, 0, none⟩) 0 0) [] :=
  Kd.R_of_own (World.ownsRow_made W #[] 0 hb (by unfold maxLen; omega) rfl) (fun _ _ => trivial)
set_option maxHeartbeats 4000000 in
theorem clone_ {A : Option Addr} {c : Nat} {l : List Int} {w : World} (h : Kd.C (Kd.int .i64) w A l.length l) (hl : l.length ≤ 17592186044400) :
    Calls Try.prog 35 #[.slice A l.length c] w fun e w' => ∃ v, e = .returned v ∧ Kd.R (Kd.int .i64) 3 w' w.heap.size (fun _ => True) v l ∧ Below w.heap.size w w' := by
  have hq : ∀ w : World, (binOp .eql 22 (.slice A l.length c) (.slice none 0 0)).run Try.prog w = .ok (.bool A.isNone) w := fun w => Go.Lib.run_eql_slice_nil w _ _ A _ _ _ _ Try.underlying22
  cases A with
  | none =>
    have h0 : l = [] := by
      rcases Nat.eq_zero_or_pos l.length with h0 | h0
      · exact List.length_eq_zero_iff.1 h0
      · obtain ⟨_, e, _⟩ := h.2.2 h0; cases e
    subst h0
    simp only [Option.isNone_none, List.length_nil] at hq
    clear h
    show Calls Try.prog _ #[.slice none 0 c] w _
    go_enter Try.func35, Try.ntmps35
    go_wp2_with fail
    go_ret
    exact ⟨_, rfl, Kd.R_nil _ _ _ _ _, Below.refl _ _⟩
  | some ad =>
    simp only [Option.isNone_some] at hq
    have HT := Aside0.mk (Kd.C_alloc h (.cells #[] 3))
    have HO := Aside0.mk (R_lit0 w w.heap.size (Nat.le_refl _))
    have HB := Aside0.mk (below_alloc (Below.refl w.heap.size w) (.cells #[] 3))
    clear h
    go_enter Try.func35, Try.ntmps35
    go_wp2_with ((with_reducible refine gate_builtin (b := .append) rfl ?_); at_builtin; refine Kd.R_append_rows (Kd.int .i64) (Rr := fun x cs => cs = [.int .i64 x]) (w0 := w) w.heap.size rfl (.tmp 5) (.tmp 6) 22 3 (.int .i64 0) 8 rfl Try.underlying22 info3 rfl (by decide) (by omega) _ [] l (some ad) l.length c (fun _ => True) (fun _ => False) rfl rfl HO.out HT.out (fun _ _ h => h) (fun _ hk => hk.elim) (fun _ _ => trivial) HB.out HB.out.size ?aL ?_; (case aL => simp; omega); intro v1 w1 ho hb hg hat; have HO' := Aside0.mk ho; have HB' := Aside0.mk hb; clear ho hb hg hat)
    go_ret
    exact ⟨_, rfl, HO'.out, HB'.out⟩
theorem clone_n {A : Option Addr} {c : Nat} {l : List Int} {w : World} (h : Kd.C (Kd.int .i64) w A l.length l) (hl : l.length ≤ 17592186044400) :
    Calls Try.prog 35 #[.slice A l.length c] w fun e w' => ∃ B d, e = .returned (.slice B l.length d) ∧ Kd.R (Kd.int .i64) 3 w' w.heap.size (fun _ => True) (.slice B l.length d) l ∧ Below w.heap.size w w' := by
  refine (clone_ h hl).mono ?_
  rintro e w' ⟨v, rfl, ho, hb⟩
  obtain ⟨B, d, rfl⟩ := Kd.R_slice ho
  exact ⟨B, d, rfl, ho, hb⟩
end Go.Proofs.Yteocngcojijnkaa.Cn
namespace Go.Proofs.Yteocngcojijnkaa.Cv
open Go.ChangeShapes Go.WideShapes Go.ChangeAt Go.RowKit Go.Proofs.Yteocngcojijnkaa.QO Go.Proofs.Yteocngcojijnkaa.QE Go.Proofs.Yteocngcojijnkaa.Lex Go.Proofs.Yteocngcojijnkaa.Cm Go.Proofs.Yteocngcojijnkaa.Ql
open Go.Proofs.YteocngcojijnkaaW.PrintWords Go.Proofs.YteocngcojijnkaaW.PrintLast Go.Proofs.YteocngcojijnkaaW.PrintMore
set_option linter.unusedVariables false
set_option linter.unusedSimpArgs false
abbrev kL : Kd (List Int) := Kd.slice 3 (Kd.int .i64)
theorem C_rowI {w : World} {A : Option Addr} {l : List (List Int)} (h : kL.C w A l.length l) (k : Nat) (hk : k < l.length) :
    ∃ ad A0 c0, A = some ad ∧ w.cell? (ad.add k) = some (.slice A0 l[k].length c0) ∧ l[k].length ≤ c0 ∧ (Kd.int .i64).C w A0 l[k].length l[k] := by
  obtain ⟨ad, c, e, _, hK, hc0⟩ := Kd.C_get h ([] : List Int) (k : Int) (by omega) (by omega)
  have hg : l.getD (k : Int).toNat [] = l[k] := by rw [show (k : Int).toNat = k from rfl]; simp [hk]
  rw [hg] at hK
  obtain ⟨A0, c0, rfl, l0, g0⟩ := hK
  have hq := hc0 0 _ rfl
  rw [show kL.sz = 1 from rfl, Nat.mul_one, Nat.add_zero] at hq
  exact ⟨ad, A0, c0, e, hq, l0, g0⟩
set_option maxHeartbeats 4000000 in
set_option maxRecDepth 100000 in
theorem clo_ {w : World} {g : Nat} {A : Option Addr} {c : Nat} {got : List Int} {A1 : Option Addr} {c1 : Nat} {l : List Int} (hg : w.heap[g]? = some (.cells #[.slice A got.length c] 22 (0, 0))) (hr : Kd.C (Kd.int .i64) w A got.length got) (hc : got.length ≤ c)
    (hr1 : Kd.C (Kd.int .i64) w A1 l.length l) (hc1 : l.length ≤ c1) (hl : l.length < 17592186044416) :
    Calls Try.prog 39 #[.slice A1 l.length c1, .pointer (some ⟨g, 0, none⟩)] w fun e w' => e = .returned (.bool (!enough l got)) ∧ Below w.heap.size w w' := by
  have h0 : w.cell? ⟨g, 0, none⟩ = some (.slice A got.length c) := (blk_cell hg 0).trans rfl
  have HR := Aside0.mk hr
  have HR1 := Aside0.mk hr1
  obtain ⟨K, hK⟩ := enough_ev l got hl
  have HK := Aside0.mk (hK K (Nat.le_refl K))
  have HC := Aside0.mk hc
  have HC1 := Aside0.mk hc1
  clear hr hg hK hc hr1 hc1
  go_enter Try.func39, Try.ntmps39
  go_wp2_with fail
  (with_reducible refine (quorum_Enough.calls K A1 c1 l A c got _ w HR1.out HC1.out HR.out HC.out HK.out).mono ?_)
  rintro e w1 ⟨rfl, hd⟩
  have HD := Aside0.mk hd
  clear hd
  go_wp2_with fail
  go_ret
  exact ⟨rfl, HD.out⟩
/-- the first list of which there are not enough, or -1 -/
def idxQ (got : List Int) (L : List (List Int)) (r : Int) : Prop := (r = -1 ∧ ∀ x ∈ L, enough x got = true) ∨ ∃ (i : Nat) (h : i < L.length), r = (i : Int) ∧ enough L[i] got = false
set_option maxHeartbeats 4000000 in
set_option maxRecDepth 100000 in
theorem index_ {w : World} {g : Nat} {A : Option Addr} {c : Nat} {got : List Int} {A1 : Option Addr} {c1 : Nat} {L : List (List Int)} (hg : w.heap[g]? = some (.cells #[.slice A got.length c] 22 (0, 0))) (hr : Kd.C (Kd.int .i64) w A got.length got) (hc : got.length ≤ c)
    (hr1 : kL.C w A1 L.length L) (hc1 : L.length ≤ c1) (hL : ∀ x ∈ L, x.length < 17592186044416) :
    Calls Try.prog 46 #[.slice A1 L.length c1, .func (.func 39) #[] #[.pointer (some ⟨g, 0, none⟩)]] w fun e w' => ∃ r, e = .returned (.int .i64 r) ∧ idxQ got L r ∧ Below w.heap.size w w' := by
  have HG := Aside0.mk hg
  have HR := Aside0.mk hr
  have HC := Aside0.mk hc
  have HR1 := Aside0.mk hr1
  have HL := Aside0.mk hL
  have hm := hr1.2.1
  clear hg hr hc hr1 hL
  go_enter Try.func46, Try.ntmps46
  go_wp2_with fail
  go_loopg [8] L.length (fun n v w' => ∃ k : Nat, k ≤ L.length ∧ v = .int .i64 k ∧ n = L.length - k ∧ (∀ x ∈ L.take k, enough x got = true) ∧ Below w.heap.size w w')
  case atStart => exact ⟨0, Nat.zero_le _, rfl, by simp, by simp, Below.refl _ w⟩
  case round =>
    obtain ⟨k, hk, rfl, rfl, hall, hd⟩ := hrel
    have HD := Aside0.mk hd
    have HAL := Aside0.mk hall
    by_cases hlt : k < L.length
    · obtain ⟨ad, A0, c0, hA, hcell, hc0, hrow⟩ := C_rowI HR1.out k hlt
      subst hA
      have t7 : decide ((k : Int) < (L.length : Int)) = true := decide_eq_true (by omega)
      have hcellr := pw_cell_below HD.out hcell
      have HRow := Aside0.mk (Kd.C_below hrow HD.out)
      have HC0 := Aside0.mk hc0
      have HLL := Aside0.mk (HL.out _ (List.getElem_mem hlt))
      clear hall hd hcell hrow hc0
      obtain ⟨x, hx⟩ : ∃ x, L[k] = x := ⟨_, rfl⟩
      have HX := Aside0.mk hx
      rw [hx] at hcellr HRow HC0 HLL
      clear hx
      have HGr := Aside0.mk (blk_below HG.out HD.out)
      have HRr := Aside0.mk (Kd.C_below HR.out HD.out)
      by_cases hin : enough x got = true
      · have HIN := Aside0.mk hin
        have hv : (!enough x got) = false := by simp [hin]
        have HV := Aside0.mk hv
        clear hin hv
        go_wp2_with fail
        (with_reducible refine (clo_ HGr.out HRr.out HC.out HRow.out HC0.out HLL.out).mono ?_)
        rw [HV.out]
        rintro e w1 ⟨rfl, hd1⟩
        have HD1 := Aside0.mk (below_then HD.out HD.out.size hd1)
        clear hd1
        go_wp2_with fail
        go_roundg (L.length - (k + 1))
        case measure => omega
        case rel => exact ⟨k + 1, by omega, by go_num, rfl, by
          intro y hy
          rw [List.take_succ_eq_append_getElem hlt] at hy
          rcases List.mem_append.1 hy with h | h
          · exact HAL.out y h
          · rw [List.mem_singleton.1 h, HX.out]; exact HIN.out, HD1.out⟩
      · have hin : enough x got = false := by simpa using hin
        have HIN := Aside0.mk hin
        have hv : (!enough x got) = true := by simp [hin]
        have HV := Aside0.mk hv
        clear hin hv
        go_wp2_with fail
        (with_reducible refine (clo_ HGr.out HRr.out HC.out HRow.out HC0.out HLL.out).mono ?_)
        rw [HV.out]
        rintro e w1 ⟨rfl, hd1⟩
        have HD1 := Aside0.mk (below_then HD.out HD.out.size hd1)
        clear hd1
        go_wp2_with fail
        go_ret
        exact ⟨_, rfl, .inr ⟨k, hlt, rfl, by rw [HX.out]; exact HIN.out⟩, HD1.out⟩
    · obtain rfl : k = L.length := by omega
      have t7 : decide ((L.length : Int) < (L.length : Int)) = false := decide_eq_false (by omega)
      rw [List.take_length] at HAL
      clear hall hd
      go_wp2_with fail
      go_ret
      exact ⟨_, rfl, .inl ⟨rfl, HAL.out⟩, HD.out⟩
/-- enough of each -/
def cov (L : List (List Int)) (got : List Int) : Bool := L.all fun x => enough x got
set_option maxHeartbeats 4000000 in
set_option maxRecDepth 100000 in
theorem contains_ {w : World} {g : Nat} {A : Option Addr} {c : Nat} {got : List Int} {A1 : Option Addr} {c1 : Nat} {L : List (List Int)} (hg : w.heap[g]? = some (.cells #[.slice A got.length c] 22 (0, 0))) (hr : Kd.C (Kd.int .i64) w A got.length got) (hc : got.length ≤ c)
    (hr1 : kL.C w A1 L.length L) (hc1 : L.length ≤ c1) (hL : ∀ x ∈ L, x.length < 17592186044416) :
    Calls Try.prog 38 #[.slice A1 L.length c1, .func (.func 39) #[] #[.pointer (some ⟨g, 0, none⟩)]] w fun e w' => e = .returned (.bool (!cov L got)) ∧ Below w.heap.size w w' := by
  have HG := Aside0.mk hg
  have HR := Aside0.mk hr
  have HC := Aside0.mk hc
  have HR1 := Aside0.mk hr1
  have HC1 := Aside0.mk hc1
  have HL := Aside0.mk hL
  clear hg hr hc hr1 hL hc1
  go_enter Try.func38, Try.ntmps38
  go_wp2_with fail
  (with_reducible refine (index_ HG.out HR.out HC.out HR1.out HC1.out HL.out).mono ?_)
  rintro e w1 ⟨r, rfl, hq, hd⟩
  have HD := Aside0.mk hd
  have HQ : Aside0 (decide (0 ≤ r) = !cov L got) := ⟨by
    unfold cov
    rcases hq with ⟨rfl, h⟩ | ⟨i, hi, rfl, h⟩
    · rw [show (L.all fun x => enough x got) = true from List.all_eq_true.2 h]; rfl
    · rw [show (L.all fun x => enough x got) = false from List.all_eq_false.2 ⟨_, List.getElem_mem hi, by rw [h]; decide⟩]
      exact decide_eq_true (by omega)⟩
  clear hd hq
  go_wp2_with fail
  go_ret
  rw [← HQ.out]
  exact ⟨rfl, HD.out⟩
end Go.Proofs.Yteocngcojijnkaa.Cv
namespace Go.Proofs.Yteocngcojijnkaa.Ld
open Go.ChangeShapes Go.WideShapes Go.ChangeAt Go.RowKit Go.Proofs.Yteocngcojijnkaa.QO Go.Proofs.Yteocngcojijnkaa.Lex
open Go.Proofs.Yteocngcojijnkaa.Cm (contains_ev drawn_trans clear_rest)
open Go.Proofs.YteocngcojijnkaaW.PrintWords Go.Proofs.YteocngcojijnkaaW.PrintLast Go.Proofs.YteocngcojijnkaaW.PrintMore
set_option linter.unusedVariables false
set_option linter.unusedSimpArgs false
def Out (l : List Int) (x : Int) : Prop := x ∉ l
instance (l : List Int) (x : Int) : Decidable (Out l x) := inferInstanceAs (Decidable (¬ (x ∈ l)))
theorem clo_ {w : World} {g : Nat} {A : Option Addr} {c : Nat} {l : List Int} (x : Int) (hg : w.heap[g]? = some (.cells #[.slice A l.length c] 22 (0, 0))) (hr : Kd.C (Kd.int .i64) w A l.length l) (hc : l.length ≤ c) :
    Calls Try.prog 40 #[.int .i64 x, .pointer (some ⟨g, 0, none⟩)] w fun e w' => e = .returned (.bool (!decide (Out l x))) ∧ Drawn0 w w' := by
  have h0 : w.cell? ⟨g, 0, none⟩ = some (.slice A l.length c) := (blk_cell hg 0).trans rfl
  have HR := Aside0.mk hr
  obtain ⟨K, hK⟩ := contains_ev l x hr.2.1
  have e : decide (x ∈ l) = !decide (Out l x) := by by_cases h : x ∈ l <;> simp [Out, h]
  rw [← e]
  have HK := Aside0.mk (hK K (Nat.le_refl K))
  have HC := Aside0.mk hc
  clear hr hg hK hc e
  go_enter Try.func40, Try.ntmps40
  go_wp2_with fail
  (with_reducible refine (slices_Contains_int_int.calls K A c l x _ w HR.out HC.out HK.out).mono ?_)
  rintro e w1 ⟨rfl, hd⟩
  go_wp2_with fail
  go_ret
  exact ⟨rfl, hd⟩
/-- the first that is not in l, or -1 -/
def idxP (l m : List Int) (r : Int) : Prop := (r = -1 ∧ ∀ x ∈ m, Out l (x)) ∨ ∃ (i : Nat) (h : i < m.length), r = (i : Int) ∧ ¬ Out l (m[i]) ∧ ∀ x ∈ m.take i, Out l (x)
set_option maxHeartbeats 2000000 in
theorem index_ {w : World} {g : Nat} {A : Option Addr} {c : Nat} {l : List Int} {A1 : Option Addr} {c1 : Nat} {m : List Int} (hg : w.heap[g]? = some (.cells #[.slice A l.length c] 22 (0, 0))) (hr : Kd.C (Kd.int .i64) w A l.length l) (hc : l.length ≤ c)
    (hr1 : Kd.C (Kd.int .i64) w A1 m.length m) (hc1 : m.length ≤ c1) :
    Calls Try.prog 42 #[.slice A1 m.length c1, .func (.func 40) #[] #[.pointer (some ⟨g, 0, none⟩)]] w fun e w' => ∃ r, e = .returned (.int .i64 r) ∧ idxP l m r ∧ Drawn0 w w' := by
  have HG := Aside0.mk hg
  have HR := Aside0.mk hr
  have HC := Aside0.mk hc
  have HR1 := Aside0.mk hr1
  have hm := hr1.2.1
  clear hg hr hc hr1
  go_enter Try.func42, Try.ntmps42
  go_wp2_with fail
  go_loopg [8] m.length (fun n v w' => ∃ k : Nat, k ≤ m.length ∧ v = .int .i64 k ∧ n = m.length - k ∧ (∀ x ∈ m.take k, Out l (x)) ∧ Drawn0 w w')
  case atStart => exact ⟨0, Nat.zero_le _, rfl, by simp, by simp, Drawn0.refl w⟩
  case round =>
    obtain ⟨k, hk, rfl, rfl, hall, hd⟩ := hrel
    have HD := Aside0.mk hd
    have HAL := Aside0.mk hall
    by_cases hlt : k < m.length
    · obtain ⟨b, off, hA, hcl⟩ := Hlp.C_block HR1.out (by omega)
      have hcell := hcl k hlt
      subst hA
      have t7 : decide ((k : Int) < (m.length : Int)) = true := decide_eq_true (by omega)
      have hcellr := pw_cell_below HD.out.below hcell
      clear hcl hall hd hcell
      obtain ⟨x, hx⟩ : ∃ x, m[k] = x := ⟨_, rfl⟩
      have HX := Aside0.mk hx
      rw [hx] at hcellr
      clear hx
      have HGr := Aside0.mk (blk_below HG.out HD.out.below)
      have HRr := Aside0.mk (Kd.C_below HR.out HD.out.below)
      by_cases hin : Out l (x)
      · have HIN := Aside0.mk hin
        have hv : (!decide (Out l (x))) = false := by simp [hin]
        have HV := Aside0.mk hv
        clear hin hv
        go_wp2_with fail
        (with_reducible refine (clo_ x HGr.out HRr.out HC.out).mono ?_)
        rw [HV.out]
        rintro e w1 ⟨rfl, hd1⟩
        have HD1 := Aside0.mk hd1
        clear hd1
        go_wp2_with fail
        go_roundg (m.length - (k + 1))
        case measure => omega
        case rel => exact ⟨k + 1, by omega, by go_num, rfl, by
          intro y hy
          rw [List.take_succ_eq_append_getElem hlt] at hy
          rcases List.mem_append.1 hy with h | h
          · exact HAL.out y h
          · rw [List.mem_singleton.1 h, HX.out]; exact HIN.out, drawn_trans HD.out HD1.out⟩
      · have HIN := Aside0.mk hin
        have hv : (!decide (Out l (x))) = true := by simp [hin]
        have HV := Aside0.mk hv
        clear hin hv
        go_wp2_with fail
        (with_reducible refine (clo_ x HGr.out HRr.out HC.out).mono ?_)
        rw [HV.out]
        rintro e w1 ⟨rfl, hd1⟩
        have HD1 := Aside0.mk hd1
        clear hd1
        go_wp2_with fail
        go_ret
        exact ⟨_, rfl, .inr ⟨k, hlt, rfl, by rw [HX.out]; exact HIN.out, HAL.out⟩, drawn_trans HD.out HD1.out⟩
    · obtain rfl : k = m.length := by omega
      have t7 : decide ((m.length : Int) < (m.length : Int)) = false := decide_eq_false (by omega)
      rw [List.take_length] at HAL
      clear hall hd
      go_wp2_with fail
      go_ret
      exact ⟨_, rfl, .inl ⟨rfl, HAL.out⟩, HD.out⟩
def keep (l m : List Int) : List Int := m.filter (fun x => decide (Out l (x)))
theorem keep_all {l m : List Int} (h : ∀ x ∈ m, Out l (x)) : keep l m = m := by
  unfold keep
  rw [List.filter_eq_self]
  intro x hx
  exact decide_eq_true (h x hx)
theorem keep_app (l m n : List Int) : keep l (m ++ n) = keep l m ++ keep l n := List.filter_append ..
/-- one more is looked at, and kept -/
theorem keep_in {l m ys : List Int} {i j : Nat} (hj : j < m.length) (hij : i ≤ j) (hlen : ys.length = m.length) (h1 : ys.take i = keep l (m.take j)) (h2 : ys.drop j = m.drop j) (hin : Out l (m[j])) :
    (ys.set i m[j]).take (i + 1) = keep l (m.take (j + 1)) ∧ (ys.set i m[j]).drop (j + 1) = m.drop (j + 1) := by
  constructor
  · rw [List.take_succ_eq_append_getElem hj, keep_app, ← h1]
    have hi : i < (ys.set i m[j]).length := by rw [List.length_set]; omega
    rw [List.take_succ_eq_append_getElem hi, List.getElem_set_self, List.take_set_of_le (Nat.le_refl i)]
    congr 1
    simp [keep, hin]
  · rw [List.drop_set_of_lt (by omega)]
    have := congrArg (List.drop 1) h2
    rwa [List.drop_drop, List.drop_drop] at this
theorem keep_out {l m ys : List Int} {i j : Nat} (hj : j < m.length) (h1 : ys.take i = keep l (m.take j)) (h2 : ys.drop j = m.drop j) (hin : ¬ Out l (m[j])) :
    ys.take i = keep l (m.take (j + 1)) ∧ ys.drop (j + 1) = m.drop (j + 1) := by
  constructor
  · rw [List.take_succ_eq_append_getElem hj, keep_app, ← h1]
    simp [keep, hin]
  · have := congrArg (List.drop 1) h2
    rwa [List.drop_drop, List.drop_drop] at this
set_option maxHeartbeats 4000000 in
set_option maxRecDepth 100000 in
theorem delete_ {w0 w : World} {g : Nat} {A : Option Addr} {c : Nat} {l : List Int} {v : Value} {m : List Int} (hg : w0.heap[g]? = some (.cells #[.slice A l.length c] 22 (0, 0))) (hr : Kd.C (Kd.int .i64) w0 A l.length l) (hc : l.length ≤ c)
    (ho : Kd.R (Kd.int .i64) 3 w w0.heap.size (fun _ => True) v m) (hb : Below w0.heap.size w0 w) :
    Calls Try.prog 32 #[v, .func (.func 40) #[] #[.pointer (some ⟨g, 0, none⟩)]] w fun e w' => ∃ v', e = .returned v' ∧ Kd.R (Kd.int .i64) 3 w' w0.heap.size (fun _ => True) v' (keep l m) ∧ Below w0.heap.size w0 w' := by
  obtain ⟨A1, c1, rfl, hc1, hr1⟩ := Kd.R_reads ho
  have HG := Aside0.mk hg
  have HR := Aside0.mk hr
  have HC := Aside0.mk hc
  have HO := Aside0.mk ho
  have HB := Aside0.mk hb
  have HR1 := Aside0.mk hr1
  have HF := Aside0.mk (fun (h : 0 < m.length) => Kd.R_form ho h)
  have HC1 := Aside0.mk hc1
  have hm := hr1.2.1
  clear hg hr hc ho hb hr1 hc1
  go_enter Try.func32, Try.ntmps32
  go_wp2_with fail
  (with_reducible refine (index_ (blk_below HG.out HB.out) (Kd.C_below HR.out HB.out) HC.out HR1.out HC1.out).mono ?_)
  rintro e w1 ⟨r, rfl, hr, hd⟩
  have HO1 := Aside0.mk (Kd.R_below HO.out hd.below)
  have HB1 := Aside0.mk (below_then HB.out HB.out.size hd.below)
  clear hd
  rcases hr with ⟨rfl, hall⟩ | ⟨i, hi, rfl, hni, hpre⟩
  · have HK := Aside0.mk (keep_all hall)
    clear hall
    go_wp2_with fail
    go_ret
    exact ⟨_, rfl, by rw [HK.out]; exact HO1.out, HB1.out⟩
  · have HP := Aside0.mk hpre
    have HN := Aside0.mk hni
    have t1 : ((i : Int) == -1) = false := beq_eq_false_iff_ne.2 (by omega)
    clear hpre hni
    obtain ⟨g2, cap, hv, hg2, _, _⟩ := HF.out (by omega)
    injection hv with hv1 hv2 hv3
    subst hv1 hv3
    have HG2 := Aside0.mk hg2
    clear hg2
    go_wp2_with fail
    go_loopg [5, 6] (m.length - (i + 1)) (fun n vi vj w' => ∃ (ic jc : Nat) (ys : List Int), vi = .int .i64 ic ∧ vj = .int .i64 jc ∧ ic < jc ∧ jc ≤ m.length ∧ n = m.length - jc ∧ Aside0 (ys.length = m.length ∧ ys.take ic = keep l (m.take jc) ∧ ys.drop jc = m.drop jc) ∧ Aside0 (Kd.R (Kd.int .i64) 3 w' w0.heap.size (fun _ => True) (.slice (some ⟨g2, 0, none⟩) m.length c1) ys) ∧ Aside0 (Below w0.heap.size w0 w'))
    case atStart =>
      exact ⟨i, i + 1, m, rfl, by go_num, Nat.lt_succ_self _, hi, rfl, ⟨rfl, (keep_out hi (keep_all HP.out).symm rfl HN.out).1, rfl⟩, HO1, HB1⟩
    case round =>
      obtain ⟨ic, jc, ys, rfl, rfl, hij, hjm, rfl, HY, HOr, HBr⟩ := hrel
      clear HP HN HO1 HB1
      by_cases hlt : jc < m.length
      · have t2 : decide ((jc : Int) < (m.length : Int)) = true := decide_eq_true (by omega)
        have hly := HY.out.1
        have hjy : jc < ys.length := by omega
        have hyx : ys[jc] = m[jc] := by
          have h := HY.out.2.2
          rw [List.drop_eq_getElem_cons hjy, List.drop_eq_getElem_cons hlt] at h
          exact (List.cons.inj h).1
        obtain ⟨hcell0, _⟩ := Kd.R_cell (0 : Int) (by rw [hly]; exact HOr.out) (jc : Int) (by omega) (by omega)
        have hcell : wr.cell? ⟨g2, jc, none⟩ = some (.int .i64 m[jc]) := by
          rw [show (jc : Int).toNat = jc from rfl] at hcell0
          rw [hcell0, ← hyx]
          simp [rdOf, hjy]
        have HGr := Aside0.mk (blk_below HG.out HBr.out)
        have HRr := Aside0.mk (Kd.C_below HR.out HBr.out)
        clear hcell0 hyx hly hjy
        by_cases hin : Out l (m[jc])
        · have HIN := Aside0.mk hin
          have HV := Aside0.mk (show (!decide (Out l (m[jc]))) = false by simp [hin])
          obtain ⟨x, hx⟩ : ∃ x, m[jc] = x := ⟨_, rfl⟩
          have HX := Aside0.mk hx
          rw [hx] at hcell HV
          clear hin hx
          go_wp2_with fail
          (with_reducible refine (clo_ x HGr.out HRr.out HC.out).mono ?_)
          rw [HV.out]
          rintro e w1 ⟨rfl, hd1⟩
          have HO2 := Aside0.mk (Kd.R_below HOr.out hd1.below)
          have HB2 := Aside0.mk (below_then HBr.out HBr.out.size hd1.below)
          clear hd1
          obtain ⟨hci, hfi⟩ := Kd.R_cell (0 : Int) (by rw [HY.out.1]; exact HO2.out) (ic : Int) (by omega) (by have := HY.out.1; omega)
          rw [show (ic : Int).toNat = ic from rfl] at hci hfi
          have t3 : decide ((ic : Int) < (m.length : Int)) = true := decide_eq_true (by omega)
          go_wp2_with fail
          go_roundg (m.length - (jc + 1))
          case measure => omega
          case rel =>
            have hp := Kd.R_putg HO2.out (ic : Int) x
            have hk := keep_in hlt (Nat.le_of_lt hij) HY.out.1 HY.out.2.1 HY.out.2.2 (by rw [HX.out]; rw [HX.out] at HIN; exact HIN.out)
            rw [HX.out] at hk
            exact ⟨ic + 1, jc + 1, ys.set ic x, by go_num, by go_num, by omega, hlt, rfl, ⟨by rw [List.length_set]; exact HY.out.1, hk.1, hk.2⟩, ⟨hp.1⟩, ⟨pw_below_grown HB2.out _ HB2.out.size hp.2 (by intro k hk; injection hk with hk; subst hk; exact HG2.out)⟩⟩
        · have HIN := Aside0.mk hin
          have HV := Aside0.mk (show (!decide (Out l (m[jc]))) = true by simp [hin])
          obtain ⟨x, hx⟩ : ∃ x, m[jc] = x := ⟨_, rfl⟩
          rw [hx] at hcell HV
          clear hin hx
          go_wp2_with fail
          (with_reducible refine (clo_ x HGr.out HRr.out HC.out).mono ?_)
          rw [HV.out]
          rintro e w1 ⟨rfl, hd1⟩
          have HO2 := Aside0.mk (Kd.R_below HOr.out hd1.below)
          have HB2 := Aside0.mk (below_then HBr.out HBr.out.size hd1.below)
          clear hd1
          go_wp2_with fail
          go_roundg (m.length - (jc + 1))
          case measure => omega
          case rel =>
            have hk := keep_out hlt HY.out.2.1 HY.out.2.2 HIN.out
            exact ⟨ic, jc + 1, ys, rfl, by go_num, by omega, hlt, rfl, ⟨HY.out.1, hk.1, hk.2⟩, HO2, HB2⟩
      · obtain rfl : jc = m.length := by omega
        have t2 : decide ((m.length : Int) < (m.length : Int)) = false := decide_eq_false (by omega)
        have hc9 := HC1.out
        have t4 : (c1 == ic) = false := beq_eq_false_iff_ne.2 (by omega)
        have t8 : ¬ (c1 = ic) := by omega
        have t9 : ic ≤ c1 := by omega
        have t10 : decide ((c1 : Int) < (ic : Int)) = false := decide_eq_false (by omega)
        have t5 : decide ((ic : Int) < 0) = false := decide_eq_false (by omega)
        have t6 : decide ((m.length : Int) < (ic : Int)) = false := decide_eq_false (by omega)
        have t7 : decide (m.length < ic) = false := decide_eq_false (by omega)
        have HIJ := Aside0.mk hij
        clear hc9
        have hz : ∀ w, (zeroValue 3).run Try.prog w = .ok (.int .i64 0) w := fun w => by first | rfl | (simp [zeroValue]; rfl)
        have hcl := Go.Lib.run_clear_slice wr 22 3 0 (.int .i64 0) Try.underlying22 hz rfl rfl g2 ic (m.length - ic) (c1 - ic) (by omega) (fun j hj => by
          obtain ⟨h, _⟩ := Kd.R_cell (0 : Int) (by rw [HY.out.1]; exact HOr.out) ((ic + j : Nat) : Int) (by omega) (by have := HY.out.1; omega)
          rw [show ((ic + j : Nat) : Int).toNat = ic + j from rfl] at h
          rw [h]; rfl) (fun j hj => by
          obtain ⟨_, h⟩ := Kd.R_cell (0 : Int) (by rw [HY.out.1]; exact HOr.out) ((ic + j : Nat) : Int) (by omega) (by have := HY.out.1; omega)
          exact h)
        go_wp2_with fail
        go_ret
        obtain ⟨zs, z1, z2, z3, z4⟩ := clear_rest HG2.out (m.length - ic) ic wr ys HOr.out HBr.out HBr.out.size
        have hk := HY.out.2.1
        rw [List.take_length] at hk
        rw [← hk, ← z3]
        exact ⟨_, rfl, Kd.R_take z1 (by rw [z2, HY.out.1]; omega), z4⟩
end Go.Proofs.Yteocngcojijnkaa.Ld
namespace Go.Proofs.Yteocngcojijnkaa.Cv
open Go.ChangeShapes Go.WideShapes Go.ChangeAt Go.RowKit Go.Proofs.Yteocngcojijnkaa.QO Go.Proofs.Yteocngcojijnkaa.QE Go.Proofs.Yteocngcojijnkaa.Lex Go.Proofs.Yteocngcojijnkaa.Ql
open Go.Proofs.YteocngcojijnkaaW.PrintWords Go.Proofs.YteocngcojijnkaaW.PrintLast Go.Proofs.YteocngcojijnkaaW.PrintMore
open Go.Proofs.Yteocngcojijnkaa.Cn (clone_n)
set_option linter.unusedVariables false
set_option linter.unusedSimpArgs false
abbrev TR : TypeId := 42
theorem ring_cells {w : World} {g : Nat} {v : Value} {each keep : Int} (h : w.heap[g]? = some (.cells #[v, .int .i64 each, .int .i64 keep] TR (0, 0))) :
    w.cell? ⟨g, 0, none⟩ = some v ∧ w.cell? ⟨g, 1, none⟩ = some (.int .i64 each) ∧ w.cell? ⟨g, 2, none⟩ = some (.int .i64 keep) := ⟨(blk_cell h 0).trans rfl, (blk_cell h 1).trans rfl, (blk_cell h 2).trans rfl⟩
/-- what ring.Lists returns of a ring -/
def Lst (A : Option Addr) (c : Nat) (l : List Int) (each keep : Int) (L : List (List Int)) (e2 : Int) : Prop := ∀ w : World, Kd.C (Kd.int .i64) w A l.length l → l.length ≤ c →
  Calls Try.prog 37 #[.agg #[.slice A l.length c, .int .i64 each, .int .i64 keep]] w fun e w' => ∃ v : Value, e = .returned (.tuple #[v, .int .i64 e2]) ∧ Kd.S kL 22 w' w.heap.size (fun _ => True) v L ∧ Below w.heap.size w w'
theorem Lst.at {A : Option Addr} {c : Nat} {l : List Int} {each keep : Int} {L : List (List Int)} {e2 : Int} (h : Lst A c l each keep L e2) (w : World) (hr : Kd.C (Kd.int .i64) w A l.length l) (hc : l.length ≤ c) :
    Calls Try.prog 37 #[.agg #[.slice A l.length c, .int .i64 each, .int .i64 keep]] w fun e w' => ∃ v : Value, e = .returned (.tuple #[v, .int .i64 e2]) ∧ Kd.S kL 22 w' w.heap.size (fun _ => True) v L ∧ Below w.heap.size w w' := h w hr hc
set_option maxHeartbeats 4000000 in
set_option maxRecDepth 100000 in
theorem covers_ {A : Option Addr} {c : Nat} {l : List Int} {each keep : Int} {A1 : Option Addr} {c1 : Nat} {got : List Int} {L : List (List Int)} {e2 : Int} {w : World} (H : Lst A c l each keep L e2) (hr : Kd.C (Kd.int .i64) w A l.length l) (hc : l.length ≤ c)
    (hr1 : Kd.C (Kd.int .i64) w A1 got.length got) (hc1 : got.length ≤ c1) (hL : ∀ x ∈ L, x.length < 17592186044416) :
    Calls Try.prog 26 #[.agg #[.slice A l.length c, .int .i64 each, .int .i64 keep], .slice A1 got.length c1] w fun e w' => e = .returned (.tuple #[.bool (if e2 = 0 then cov L got else false), .int .i64 e2]) ∧ Below w.heap.size w w' := by
  have hu := Try.underlying42
  have HR := Aside0.mk (Kd.C_alloc (Kd.C_alloc hr (.cells #[.slice A l.length c, .int .i64 each, .int .i64 keep] TR)) (.cells #[.slice A1 got.length c1] 22))
  have HR1 := Aside0.mk (Kd.C_alloc (Kd.C_alloc hr1 (.cells #[.slice A l.length c, .int .i64 each, .int .i64 keep] TR)) (.cells #[.slice A1 got.length c1] 22))
  have HB := Aside0.mk (below_alloc (below_alloc (Below.refl w.heap.size w) (.cells #[.slice A l.length c, .int .i64 each, .int .i64 keep] TR)) (.cells #[.slice A1 got.length c1] 22))
  have BK := Aside0.mk (blk_alloc (blk_new w (.cells #[.slice A l.length c, .int .i64 each, .int .i64 keep] TR)) (.cells #[.slice A1 got.length c1] 22))
  have BG := Aside0.mk (blk_new (w.alloc (.cells #[.slice A l.length c, .int .i64 each, .int .i64 keep] TR)) (.cells #[.slice A1 got.length c1] 22))
  rw [show (w.alloc (.cells #[.slice A l.length c, .int .i64 each, .int .i64 keep] TR)).heap.size = w.heap.size + 1 from Array.size_push ..] at BG
  have HC := Aside0.mk hc
  have HC1 := Aside0.mk hc1
  have HL := Aside0.mk hL
  have HH := Aside0.mk H
  have hmf : ∀ (fn : Fn) (first cap : Array Value) (w : World), (Instr.makeFunc fn first cap).run Try.prog w = .ok (.func fn first cap) w := fun _ _ _ _ => rfl
  clear hr hr1 hc hc1 hL H
  go_enter Try.func26, Try.ntmps26
  go_upto_region 1 with fail
  generalize hg2 : w.heap.size + 1 = g2 at *
  generalize ((w.alloc (.cells #[.slice A l.length c, .int .i64 each, .int .i64 keep] TR)).alloc (.cells #[.slice A1 got.length c1] 22)) = W at *
  obtain ⟨c0, c1', c2⟩ := ring_cells BK.out
  clear hg2
  go_wp2_with fail
  (with_reducible refine (HH.out.at _ HR.out HC.out).mono ?_)
  rintro e w1 ⟨v, rfl, hv, hb⟩
  obtain ⟨B, d, rfl, hd, hC⟩ := Kd.S_reads hv
  have HB1 := Aside0.mk (below_then HB.out HB.out.size hb)
  have HRG := Aside0.mk (Kd.C_below HR1.out hb)
  have BG1 := Aside0.mk (blk_below BG.out hb)
  have HCL := Aside0.mk hC
  have HD := Aside0.mk hd
  clear hb hv hC hd c0 c1' c2
  by_cases he : e2 = 0
  · subst he
    go_wp2_with fail
    (with_reducible refine (contains_ BG1.out HRG.out HC1.out HCL.out HD.out HL.out).mono ?_)
    rintro e w2 ⟨rfl, hb⟩
    have HB2 := Aside0.mk (below_then HB1.out HB1.out.size hb)
    clear hb
    go_wp2_with fail
    go_ret2
    exact ⟨rfl, HB2.out⟩
  · have t1 : (e2 == 0) = false := beq_eq_false_iff_ne.2 he
    have HE := Aside0.mk he
    go_wp2_with fail
    go_ret2
    exact ⟨rfl, HB1.out⟩
/-- those lists, by number, of which there are not enough -/
def lostF (a : List Int) : Nat → List (List Int) → List Int
  | _, [] => []
  | i, x :: L => if enough x a = true then lostF a (i + 1) L else (i : Int) :: lostF a (i + 1) L
theorem lostF_len (a : List Int) : ∀ (L : List (List Int)) (i : Nat), (lostF a i L).length ≤ L.length
  | [], i => Nat.le_refl _
  | x :: L, i => by
    have := lostF_len a L (i + 1)
    unfold lostF
    split
    · rw [List.length_cons]; omega
    · rw [List.length_cons, List.length_cons]; omega
def lost (L : List (List Int)) (a : List Int) : List Int := lostF a 0 L
set_option maxHeartbeats 8000000 in
set_option maxRecDepth 100000 in
theorem lost_ {A : Option Addr} {c : Nat} {l : List Int} {each keep : Int} {A1 : Option Addr} {c1 : Nat} {got : List Int} {L : List (List Int)} {e2 : Int} {w : World} (H : Lst A c l each keep L e2) (hr : Kd.C (Kd.int .i64) w A l.length l) (hc : l.length ≤ c)
    (hr1 : Kd.C (Kd.int .i64) w A1 got.length got) (hc1 : got.length ≤ c1) (hL : ∀ x ∈ L, x.length < 17592186044416) (hll : L.length ≤ 17592186044400) (hl : l.length ≤ 17592186044400) :
    Calls Try.prog 27 #[.agg #[.slice A l.length c, .int .i64 each, .int .i64 keep], .slice A1 got.length c1] w fun e w' => ∃ v : Value, e = .returned (.tuple #[v, .int .i64 e2]) ∧ Kd.R (Kd.int .i64) 3 w' w.heap.size (fun _ => True) v (if e2 = 0 then lost L (Ld.keep got l) else []) ∧ Below w.heap.size w w' := by
  have hu := Try.underlying42
  have HR := Aside0.mk (Kd.C_alloc (Kd.C_alloc hr (.cells #[.slice A l.length c, .int .i64 each, .int .i64 keep] TR)) (.cells #[.slice A1 got.length c1] 22))
  have HR1 := Aside0.mk (Kd.C_alloc (Kd.C_alloc hr1 (.cells #[.slice A l.length c, .int .i64 each, .int .i64 keep] TR)) (.cells #[.slice A1 got.length c1] 22))
  have HB := Aside0.mk (below_alloc (below_alloc (Below.refl w.heap.size w) (.cells #[.slice A l.length c, .int .i64 each, .int .i64 keep] TR)) (.cells #[.slice A1 got.length c1] 22))
  have BK := Aside0.mk (blk_alloc (blk_new w (.cells #[.slice A l.length c, .int .i64 each, .int .i64 keep] TR)) (.cells #[.slice A1 got.length c1] 22))
  have BG := Aside0.mk (blk_new (w.alloc (.cells #[.slice A l.length c, .int .i64 each, .int .i64 keep] TR)) (.cells #[.slice A1 got.length c1] 22))
  rw [show (w.alloc (.cells #[.slice A l.length c, .int .i64 each, .int .i64 keep] TR)).heap.size = w.heap.size + 1 from Array.size_push ..] at BG
  have HC := Aside0.mk hc
  have HC1 := Aside0.mk hc1
  have HL := Aside0.mk hL
  have HLL := Aside0.mk hll
  have HLn := Aside0.mk hl
  have HH := Aside0.mk H
  have hmf : ∀ (fn : Fn) (first cap : Array Value) (w : World), (Instr.makeFunc fn first cap).run Try.prog w = .ok (.func fn first cap) w := fun _ _ _ _ => rfl
  clear hr hr1 hc hc1 hL H hll hl
  go_enter Try.func27, Try.ntmps27
  go_upto_region 1 with fail
  generalize hg2 : w.heap.size + 1 = g2 at *
  generalize ((w.alloc (.cells #[.slice A l.length c, .int .i64 each, .int .i64 keep] TR)).alloc (.cells #[.slice A1 got.length c1] 22)) = W at *
  obtain ⟨c0, c1', c2⟩ := ring_cells BK.out
  clear hg2
  go_step3
  go_wp2_with fail
  (with_reducible refine (HH.out.at _ HR.out HC.out).mono ?_)
  rintro e w1 ⟨v, rfl, hv, hb⟩
  obtain ⟨B, d, rfl, hd, hC⟩ := Kd.S_reads hv
  have HB1 := Aside0.mk (below_then HB.out HB.out.size hb)
  have HRa := Aside0.mk (Kd.C_below HR.out hb)
  have HRG := Aside0.mk (Kd.C_below HR1.out hb)
  have BG1 := Aside0.mk (blk_below BG.out hb)
  have BK1 := Aside0.mk (blk_below BK.out hb)
  have HCL := Aside0.mk hC
  have HD := Aside0.mk hd
  clear hb hv hC hd c0 c1' c2
  obtain ⟨c0, c1', c2⟩ := ring_cells BK1.out
  by_cases he : e2 = 0
  · subst he
    go_wp2_with fail
    (with_reducible refine (clone_n HRa.out HLn.out).mono ?_)
    rintro e w2 ⟨C, f, rfl, hR, hb⟩
    have HB2 := Aside0.mk hb
    have HO2 := Aside0.mk hR
    clear hb hR c0 c1' c2
    go_wp2_with fail
    (with_reducible refine (Ld.delete_ BG1.out HRG.out HC1.out HO2.out HB2.out).mono ?_)
    rintro e w3 ⟨v3, rfl, hR3, hb3⟩
    obtain ⟨C3, f3, rfl, hf3, hC3⟩ := Kd.R_reads hR3
    have HB3 := Aside0.mk (below_then HB1.out HB1.out.size hb3)
    have HCL3 := Aside0.mk (Kd.C_below HCL.out hb3)
    have HA := Aside0.mk hC3
    have HF := Aside0.mk hf3
    have HZ : Aside0 (Kd.R (Kd.int .i64) 3 w3 w3.heap.size (fun _ => True) (.slice none 0 0) ([] : List Int)) := ⟨Kd.R_nil _ _ _ _ _⟩
    obtain ⟨al, hal⟩ : ∃ al, Ld.keep got l = al := ⟨_, rfl⟩
    have HAl := Aside0.mk hal
    rw [hal] at HA HF ⊢
    clear hb3 hR3 hC3 hf3 hal
    go_wp2_with fail
    go_step3
    go_wp2_with fail
    go_loopg [9, 27] L.length (fun n v9 v27 w' => ∃ (k : Nat) (out : List Int), k ≤ L.length ∧ v27 = .int .i64 k ∧ n = L.length - k ∧ Aside0 (out.length ≤ k ∧ out ++ lostF al k (L.drop k) = lost L al) ∧ Aside0 (Kd.R (Kd.int .i64) 3 w' w3.heap.size (fun _ => True) v9 out) ∧ Aside0 (Below w3.heap.size w3 w'))
    case atStart => exact ⟨0, [], Nat.zero_le _, rfl, rfl, ⟨Nat.le_refl _, rfl⟩, HZ, ⟨Below.refl _ _⟩⟩
    case round =>
      obtain ⟨k, out, hk, rfl, rfl, HS, HO, HBw⟩ := hrel
      have hll := HLL.out
      obtain ⟨Ao, co, eo⟩ := Kd.R_slice HO.out
      subst eo
      by_cases hlt : k < L.length
      · obtain ⟨ad, A0, k0, hA, hcell, hc0, hrow⟩ := C_rowI HCL3.out k hlt
        subst hA
        have t1 : decide ((k : Int) < (L.length : Int)) = true := decide_eq_true (by omega)
        have hcellr := pw_cell_below HBw.out hcell
        have HRow := Aside0.mk (Kd.C_below hrow HBw.out)
        have HAr := Aside0.mk (Kd.C_below HA.out HBw.out)
        have HC0 := Aside0.mk hc0
        have HT : Aside0 (lostF al k (L.drop k) = if enough L[k] al = true then lostF al (k + 1) (L.drop (k + 1)) else (k : Int) :: lostF al (k + 1) (L.drop (k + 1))) := ⟨by rw [List.drop_eq_getElem_cons hlt]; rfl⟩
        obtain ⟨K, hK⟩ := enough_ev L[k] al (HL.out _ (List.getElem_mem hlt))
        have HK := Aside0.mk (hK K (Nat.le_refl K))
        clear hcell hrow hc0 hK
        obtain ⟨x, hx⟩ : ∃ x, L[k] = x := ⟨_, rfl⟩
        rw [hx] at hcellr HRow HC0 HT HK
        clear hx
        go_wp2_with fail
        (with_reducible refine (quorum_Enough.calls K A0 k0 x C3 f3 al _ wr HRow.out HC0.out HAr.out HF.out HK.out).mono ?_)
        rintro e w4 ⟨rfl, hb⟩
        have HW4 := Aside0.mk (below_then HBw.out HBw.out.size hb)
        have HO4 := Aside0.mk (Kd.R_below HO.out hb)
        clear hb hcellr
        obtain ⟨q, hq⟩ : ∃ q, enough x al = q := ⟨_, rfl⟩
        rw [hq] at HT ⊢
        clear hq HK
        cases q with
        | true =>
          rw [if_pos rfl] at HT
          go_wp2_with fail
          go_roundg (L.length - (k + 1))
          case measure => omega
          case rel => exact ⟨k + 1, out, hlt, by go_num, rfl, ⟨Nat.le_succ_of_le HS.out.1, by rw [← HT.out]; exact HS.out.2⟩, HO4, HW4⟩
        | false =>
          rw [if_neg (by decide)] at HT
          go_wp2_with ((with_reducible refine gate_builtin (b := .append) (xs := #[.tmp 35, .tmp 37]) rfl ?_); at_builtin; refine Kd.R_append (Kd.int .i64) (w0 := w3) w3.heap.size rfl (.tmp 35) (.tmp 37) 22 3 (.int .i64 0) 8 rfl Try.underlying22 info3 rfl (by decide) (by omega) _ _ (k : Int) [.int .i64 k] (fun _ => True) (fun _ => False) rfl rfl rfl (fun _ hk => hk.elim) (fun _ _ => trivial) HO4.out HW4.out HW4.out.size ?aL ?_; (case aL => have := HS.out.1; have := HLL.out; omega); intro v5 w5 ho hb hg hat; have HO5 := Aside0.mk ho; have HB5 := Aside0.mk hb; clear ho hb hg hat)
          go_roundg (L.length - (k + 1))
          case measure => omega
          case rel => exact ⟨k + 1, out ++ [(k : Int)], hlt, by go_num, rfl, ⟨by rw [List.length_append]; exact Nat.succ_le_succ HS.out.1, by rw [List.append_assoc, ← HS.out.2, HT.out]; rfl⟩, HO5, HB5⟩
      · obtain rfl : k = L.length := by omega
        have t1 : decide ((L.length : Int) < (L.length : Int)) = false := decide_eq_false (by omega)
        go_wp2_with fail
        rw [Exit.noGoto_ret]
        go_ret2
        refine ⟨_, rfl, ?_, below_then HB3.out HB3.out.size HBw.out⟩
        have e := HS.out.2
        rw [List.drop_length] at e
        rw [if_pos rfl, HAl.out, ← e, lostF, List.append_nil]
        exact Kd.R_lower HO.out HB3.out.size
  · have t1 : (e2 == 0) = false := beq_eq_false_iff_ne.2 he
    have HE := Aside0.mk he
    go_wp2_with fail
    rw [Exit.noGoto_ret]
    go_ret2
    rw [if_neg he]
    exact ⟨_, rfl, Kd.R_nil _ _ _ _ _, HB1.out⟩
end Go.Proofs.Yteocngcojijnkaa.Cv
namespace Go.Proofs.Yteocngcojijnkaa.Cv
open Go.ChangeShapes Go.WideShapes Go.ChangeAt Go.RowKit Go.Proofs.Yteocngcojijnkaa.Lex
open Go.Proofs.YteocngcojijnkaaW.PrintWords Go.Proofs.YteocngcojijnkaaW.PrintLast Go.Proofs.YteocngcojijnkaaW.PrintMore
set_option linter.unusedVariables false
set_option linter.unusedSimpArgs false
theorem lst_of {k : Nat} {A : Option Addr} {c : Nat} {l : List Int} {each keep : Int} {p : List (List Int) × Int} (h : QR.ring_Lists.f k l each keep = some p) : Lst A c l each keep p.1 p.2 := fun w hr hc => QR.ring_Lists.calls k A c l each keep p.1 p.2 w hr hc h
def covers.f (k : Nat) (l : List Int) (each keep : Int) (got : List Int) : Option (Bool × Int) := (QR.ring_Lists.f k l each keep).bind fun p => if ∀ x ∈ p.1, x.length < 17592186044416 then some (if p.2 = 0 then cov p.1 got else false, p.2) else none
theorem covers.mono : ∀ a0 a1 a2 a3 k, LeO (covers.f k a0 a1 a2 a3) (covers.f (k + 1) a0 a1 a2 a3) := fun a0 a1 a2 a3 k => LeO.bind (QR.ring_Lists.mono a0 a1 a2 k) (fun _ => LeO.refl _)
theorem covers.calls (k : Nat) (A0_0 : Option Addr) (c0_0 : Nat) (l0_0 : List Int) (a0_1 : Int) (a0_2 : Int) (A1 : Option Addr) (c1 : Nat) (l1 : List Int) (r1 : Bool) (r2 : Int) (w : World) (hr0_0 : Kd.C (Kd.int .i64) w A0_0 l0_0.length l0_0) (hc0_0 : l0_0.length ≤ c0_0) (hr1 : Kd.C (Kd.int .i64) w A1 l1.length l1) (hc1 : l1.length ≤ c1) (h : covers.f k l0_0 a0_1 a0_2 l1 = some (r1, r2)) :
    Calls Try.prog 26 #[.agg #[.slice A0_0 l0_0.length c0_0, .int .i64 a0_1, .int .i64 a0_2], .slice A1 l1.length c1] w fun e w' => e = .returned (.tuple #[.bool r1, .int .i64 r2]) ∧ Below w.heap.size w w' := by
  obtain ⟨p, hp, h⟩ := Option.bind_eq_some_iff.1 h
  split at h
  · rename_i hL
    have h := Option.some.inj h
    injection h with e1 e2
    subst e1; subst e2
    exact covers_ (lst_of hp) hr0_0 hc0_0 hr1 hc1 hL
  · cases h
def lost.f (k : Nat) (l : List Int) (each keep : Int) (got : List Int) : Option (List Int × Int) := (QR.ring_Lists.f k l each keep).bind fun p => if (∀ x ∈ p.1, x.length < 17592186044416) ∧ p.1.length ≤ 17592186044400 ∧ l.length ≤ 17592186044400 then some (if p.2 = 0 then lost p.1 (Ld.keep got l) else [], p.2) else none
theorem lost.mono : ∀ a0 a1 a2 a3 k, LeO (lost.f k a0 a1 a2 a3) (lost.f (k + 1) a0 a1 a2 a3) := fun a0 a1 a2 a3 k => LeO.bind (QR.ring_Lists.mono a0 a1 a2 k) (fun _ => LeO.refl _)
theorem lost.calls (k : Nat) (A0_0 : Option Addr) (c0_0 : Nat) (l0_0 : List Int) (a0_1 : Int) (a0_2 : Int) (A1 : Option Addr) (c1 : Nat) (l1 : List Int) (r1 : List Int) (r2 : Int) (w : World) (hr0_0 : Kd.C (Kd.int .i64) w A0_0 l0_0.length l0_0) (hc0_0 : l0_0.length ≤ c0_0) (hr1 : Kd.C (Kd.int .i64) w A1 l1.length l1) (hc1 : l1.length ≤ c1) (h : lost.f k l0_0 a0_1 a0_2 l1 = some (r1, r2)) :
    Calls Try.prog 27 #[.agg #[.slice A0_0 l0_0.length c0_0, .int .i64 a0_1, .int .i64 a0_2], .slice A1 l1.length c1] w fun e w' => ∃ v0_ : Value, e = .returned (.tuple #[v0_, .int .i64 r2]) ∧ Kd.R (Kd.int .i64) 3 w' w.heap.size (fun _ => True) v0_ r1 ∧ Below w.heap.size w w' := by
  obtain ⟨p, hp, h⟩ := Option.bind_eq_some_iff.1 h
  split at h
  · rename_i hL
    have h := Option.some.inj h
    injection h with e1 e2
    subst e1; subst e2
    exact lost_ (lst_of hp) hr0_0 hc0_0 hr1 hc1 hL.1 hL.2.1 hL.2.2
  · cases h
end Go.Proofs.Yteocngcojijnkaa.Cv
namespace Go.Proofs.Yteocngcojijnkaa.QA
open Go.RowKit Go.Proofs.YteocngcojijnkaaW.PrintWords Go.Proofs.YteocngcojijnkaaW.PrintLast Go.Proofs.YteocngcojijnkaaW.PrintMore
attribute [local go_sem] max2_int min2_int max_two min_two max_three min_three max_four min_four   -- for this text's walks alone
set_option linter.unusedVariables false
set_option linter.unusedSimpArgs false
def errW : Option Int → Value
  | none => .nilIface
  | some c => .iface 0 (.int .i64 c)
theorem errW_none : errW none = .nilIface := rfl
theorem errW_some (c : Int) : errW (some c) = .iface 0 (.int .i64 c) := rfl
theorem info3 : (Try.prog.info? 3).map (fun i => (i.zero, i.size, i.bytes)) = some (some (.int .i64 0), 1, 8) := by kernel_rfl
-- the values' own types
end Go.Proofs.Yteocngcojijnkaa.QA
namespace Go.Proofs.Yteocngcojijnkaa.QA
open Go.RowKit Go.Proofs.YteocngcojijnkaaW.PrintWords Go.Proofs.YteocngcojijnkaaW.PrintLast Go.Proofs.YteocngcojijnkaaW.PrintMore
attribute [local go_sem] max2_int min2_int max_two min_two max_three min_three max_four min_four   -- for this text's walks alone
set_option linter.unusedVariables false
set_option linter.unusedSimpArgs false
/-! ### icehouseref10_Need: function 11 -/
def icehouseref10_Need.l0 : Nat → Int → Int → Option (Int)
  | 0, _, _ => none
  | k + 1, x0, x3 => if (wrap64 (2 * x3)) ≤ x0 then (icehouseref10_Need.l0 k x0 (wrap64 (x3 + 1))) else (some x3)
def icehouseref10_Need.f (k : Nat) (a0 : Int) : Option (Int) := if a0 < 1 then (some 0) else (icehouseref10_Need.l0 k a0 0)
theorem icehouseref10_Need.mono_l : ∀ k, (∀ y0 y1, LeO (icehouseref10_Need.l0 k y0 y1) (icehouseref10_Need.l0 (k + 1) y0 y1))
  | 0 => fun _ _ r h => by simp [icehouseref10_Need.l0] at h
  | k + 1 => by
    have ih0 := icehouseref10_Need.mono_l k
    · intro y0 y1
      unfold icehouseref10_Need.l0
      repeat' first
      | (with_reducible exact ih0 _ _)
      | (with_reducible exact LeO.refl _)
      | (with_reducible exact LeO.none _)
      | (with_reducible refine LeO.ite ?_ ?_)
      | (with_reducible refine LeO.bind ?_ (fun _ => ?_))
      | exact ih0 _ _
      | exact LeO.none _
      | refine LeO.ite ?_ ?_
      | refine LeO.bind ?_ (fun _ => ?_)
theorem icehouseref10_Need.mono : ∀ a0 k, LeO (icehouseref10_Need.f k a0) (icehouseref10_Need.f (k + 1) a0) := by
  intro a0 k
  have ih0 := icehouseref10_Need.mono_l k
  unfold icehouseref10_Need.f
  repeat' first
      | (with_reducible exact ih0 _ _)
      | (with_reducible exact LeO.refl _)
      | (with_reducible exact LeO.none _)
      | (with_reducible refine LeO.ite ?_ ?_)
      | (with_reducible refine LeO.bind ?_ (fun _ => ?_))
      | exact ih0 _ _
      | exact LeO.none _
      | refine LeO.ite ?_ ?_
      | refine LeO.bind ?_ (fun _ => ?_)
/-! ### icehouseref09_Has: function 22 -/
def icehouseref09_Has.l0 : Nat → List Int → Int → Int → Option (Bool)
  | 0, _, _, _ => none
  | k + 1, x0, x1, x5 => if x5 < (x0.length : Int) then (if 0 ≤ x5 then (if (rd x0 x5) = x1 then (some true) else (icehouseref09_Has.l0 k x0 x1 (wrap64 (x5 + 1)))) else (none)) else (some false)
def icehouseref09_Has.f (k : Nat) (l0 : List Int) (a1 : Int) : Option (Bool) := icehouseref09_Has.l0 k l0 a1 0
theorem icehouseref09_Has.mono_l : ∀ k, (∀ y0 y1 y2, LeO (icehouseref09_Has.l0 k y0 y1 y2) (icehouseref09_Has.l0 (k + 1) y0 y1 y2))
  | 0 => fun _ _ _ r h => by simp [icehouseref09_Has.l0] at h
  | k + 1 => by
    have ih0 := icehouseref09_Has.mono_l k
    · intro y0 y1 y2
      unfold icehouseref09_Has.l0
      repeat' first
      | (with_reducible exact ih0 _ _ _)
      | (with_reducible exact LeO.refl _)
      | (with_reducible exact LeO.none _)
      | (with_reducible refine LeO.ite ?_ ?_)
      | (with_reducible refine LeO.bind ?_ (fun _ => ?_))
      | exact ih0 _ _ _
      | exact LeO.none _
      | refine LeO.ite ?_ ?_
      | refine LeO.bind ?_ (fun _ => ?_)
theorem icehouseref09_Has.mono : ∀ a0 a1 k, LeO (icehouseref09_Has.f k a0 a1) (icehouseref09_Has.f (k + 1) a0 a1) := by
  intro a0 a1 k
  have ih0 := icehouseref09_Has.mono_l k
  unfold icehouseref09_Has.f
  repeat' first
      | (with_reducible exact ih0 _ _ _)
      | (with_reducible exact LeO.refl _)
      | (with_reducible exact LeO.none _)
      | (with_reducible refine LeO.ite ?_ ?_)
      | (with_reducible refine LeO.bind ?_ (fun _ => ?_))
      | exact ih0 _ _ _
      | exact LeO.none _
      | refine LeO.ite ?_ ?_
      | refine LeO.bind ?_ (fun _ => ?_)
set_option maxHeartbeats 8000000 in
set_option maxRecDepth 100000 in
theorem icehouseref09_Has.calls (k : Nat) (A0 : Option Addr) (c0 : Nat) (l0 : List Int) (a1 : Int) (r : Bool) (w : World) (hr0 : Kd.C (Kd.int .i64) w A0 l0.length l0) (hc0 : l0.length ≤ c0) (h : icehouseref09_Has.f k l0 a1 = some r) :
    Calls Try.prog 22 #[.slice A0 l0.length c0, .int .i64 a1] w fun e w' => e = .returned (.bool r) ∧ Drawn0 w w' := by
  have HR0 := Aside0.mk hr0
  have HC0 := Aside0.mk hc0
  clear hr0 hc0
  have H : (icehouseref09_Has.l0 k l0 a1 0) = some r := h
  clear h
  have H' := Aside0.mk H
  clear H
  go_enter Try.func22, Try.ntmps22
  go_wp2
  go_loopg [5] k (fun kq v5 w' => ∃ (x5_1 : Int), v5 = .int .i64 x5_1 ∧ Aside0 (icehouseref09_Has.l0 kq l0 a1 x5_1 = some r) ∧ Aside0 (kq ≤ k) ∧ Drawn0 w w')
  case atStart => exact ⟨(0), (by first | rfl | (simp; done) | (simp [*]; done)), H', ⟨Nat.le_refl _⟩, by repeat (first | exact Drawn0.refl _ | apply Drawn0.step)⟩
  case round =>
    clear H'
    try clear c2
    try clear p2
    obtain ⟨x5_1, rfl, HA, HK1, ⟨m1, rfl⟩⟩ := hrel
    cases gk with
    | zero => exact absurd HA.out (by simp [icehouseref09_Has.l0])
    | succ k1 =>
      have H := HA.out
      clear HA
      simp only [icehouseref09_Has.l0] at H
      by_cases c3 : x5_1 < (l0.length : Int)
      · rw [if_pos c3] at H
        have c3b0 : decide (x5_1 < (l0.length : Int)) = true := decide_eq_true c3
        clear c3
        by_cases c4 : 0 ≤ x5_1
        · rw [if_pos c4] at H
          have c4b0 : decide (0 ≤ x5_1) = true := decide_eq_true c4
          clear c4
          by_cases c5 : (rd l0 x5_1) = a1
          · rw [if_pos c5] at H
            have c5b0 : ((rd l0 x5_1) == a1) = true := beq_iff_eq.mpr c5
            have c5b1 : ((rd l0 x5_1) != a1) = false := bne_eq_false_iff_eq.mpr c5
            clear c5
            obtain rfl := Option.some.inj H
            have p101 : 0 ≤ (x5_1 : Int) := of_decide_eq_true (by first | (with_reducible assumption) | assumption)
            have q101 : x5_1 < (l0.length : Int) := of_decide_eq_true (by first | (with_reducible assumption) | assumption)
            obtain ⟨ad101, e101, hx101_0⟩ := Kd.at_int HR0.out x5_1 p101 q101
            cases e101
            replace p101 := eq_true p101
            replace q101 := eq_true q101
            go_wp2
            go_ret
            exact ⟨by first | rfl | (simp; done) | (simp [*]; done), by repeat (first | exact Drawn0.refl _ | apply Drawn0.step)⟩
          · rw [if_neg c5] at H
            have c5b0 : ((rd l0 x5_1) == a1) = false := beq_eq_false_iff_ne.mpr c5
            have c5b1 : ((rd l0 x5_1) != a1) = true := bne_iff_ne.mpr c5
            have H' := Aside0.mk H
            clear H
            have p101 : 0 ≤ (x5_1 : Int) := of_decide_eq_true (by first | (with_reducible assumption) | assumption)
            have q101 : x5_1 < (l0.length : Int) := of_decide_eq_true (by first | (with_reducible assumption) | assumption)
            obtain ⟨ad101, e101, hx101_0⟩ := Kd.at_int HR0.out x5_1 p101 q101
            cases e101
            replace p101 := eq_true p101
            replace q101 := eq_true q101
            go_wp2
            go_roundg k1
            case measure => have := HK1.out; omega
            case rel => exact ⟨(wrap64 (x5_1 + 1)), (by first | rfl | (simp; done) | (simp [*]; done)), H', ⟨by have := HK1.out; omega⟩, by repeat (first | exact Drawn0.refl _ | apply Drawn0.step)⟩
        · rw [if_neg c4] at H
          exact absurd H (by simp)
      · rw [if_neg c3] at H
        have c3b0 : decide (x5_1 < (l0.length : Int)) = false := decide_eq_false c3
        clear c3
        obtain rfl := Option.some.inj H
        go_wp2
        go_ret
        exact ⟨by first | rfl | (simp; done) | (simp [*]; done), by repeat (first | exact Drawn0.refl _ | apply Drawn0.step)⟩
/-! ### icehouseref10_Common: function 17 -/
def icehouseref10_Common.l0 : Nat → List Int → List Int → List Int → Int → Option (List Int)
  | 0, _, _, _, _ => none
  | k + 1, x0, x1, x5, x6 => if x6 < (x0.length : Int) then (if 0 ≤ x6 then ((icehouseref09_Has.f k x1 (rd x0 x6)).bind fun t103 => (if t103 = true then ((icehouseref09_Has.f k x5 (rd x0 x6)).bind fun t105 => (if t105 = true then (icehouseref10_Common.l0 k x0 x1 x5 (wrap64 (x6 + 1))) else (if x5.length < 17592186044416 then (icehouseref10_Common.l0 k x0 x1 (x5 ++ [rd x0 x6]) (wrap64 (x6 + 1))) else (none)))) else (icehouseref10_Common.l0 k x0 x1 x5 (wrap64 (x6 + 1))))) else (none)) else (some x5)
def icehouseref10_Common.f (k : Nat) (l0 : List Int) (l1 : List Int) : Option (List Int) := icehouseref10_Common.l0 k l0 l1 ([] : List Int) 0
theorem icehouseref10_Common.mono_l : ∀ k, (∀ y0 y1 y2 y3, LeO (icehouseref10_Common.l0 k y0 y1 y2 y3) (icehouseref10_Common.l0 (k + 1) y0 y1 y2 y3))
  | 0 => fun _ _ _ _ r h => by simp [icehouseref10_Common.l0] at h
  | k + 1 => by
    have ih0 := icehouseref10_Common.mono_l k
    · intro y0 y1 y2 y3
      unfold icehouseref10_Common.l0
      repeat' first
      | (with_reducible exact ih0 _ _ _ _)
      | (with_reducible exact icehouseref09_Has.mono _ _ _)
      | (with_reducible exact LeO.refl _)
      | (with_reducible exact LeO.none _)
      | (with_reducible refine LeO.ite ?_ ?_)
      | (with_reducible refine LeO.bind ?_ (fun _ => ?_))
      | exact ih0 _ _ _ _
      | exact icehouseref09_Has.mono _ _ _
      | exact LeO.none _
      | refine LeO.ite ?_ ?_
      | refine LeO.bind ?_ (fun _ => ?_)
theorem icehouseref10_Common.mono : ∀ a0 a1 k, LeO (icehouseref10_Common.f k a0 a1) (icehouseref10_Common.f (k + 1) a0 a1) := by
  intro a0 a1 k
  have ih0 := icehouseref10_Common.mono_l k
  unfold icehouseref10_Common.f
  repeat' first
      | (with_reducible exact ih0 _ _ _ _)
      | (with_reducible exact icehouseref09_Has.mono _ _ _)
      | (with_reducible exact LeO.refl _)
      | (with_reducible exact LeO.none _)
      | (with_reducible refine LeO.ite ?_ ?_)
      | (with_reducible refine LeO.bind ?_ (fun _ => ?_))
      | exact ih0 _ _ _ _
      | exact icehouseref09_Has.mono _ _ _
      | exact LeO.none _
      | refine LeO.ite ?_ ?_
      | refine LeO.bind ?_ (fun _ => ?_)
/-! ### icehouseref10_Enough: function 14 -/
def icehouseref10_Enough.f (k : Nat) (l0 : List Int) (l1 : List Int) : Option (Bool) := (icehouseref10_Common.f k l0 l0).bind fun t110 => ((icehouseref10_Common.f k l0 l1).bind fun t113 => (if (t110.length : Int) > 0 then (some (decide ((wrap64 (2 * (t113.length : Int))) > (t110.length : Int)))) else (some false)))
theorem icehouseref10_Enough.mono : ∀ a0 a1 k, LeO (icehouseref10_Enough.f k a0 a1) (icehouseref10_Enough.f (k + 1) a0 a1) := by
  intro a0 a1 k
  unfold icehouseref10_Enough.f
  repeat' first
      | (with_reducible exact icehouseref10_Common.mono _ _ _)
      | (with_reducible exact LeO.refl _)
      | (with_reducible exact LeO.none _)
      | (with_reducible refine LeO.ite ?_ ?_)
      | (with_reducible refine LeO.bind ?_ (fun _ => ?_))
      | exact icehouseref10_Common.mono _ _ _
      | exact LeO.none _
      | refine LeO.ite ?_ ?_
      | refine LeO.bind ?_ (fun _ => ?_)
/-! ### icehouseref00_SameInts: function 15 -/
def icehouseref00_SameInts.l0 : Nat → List Int → List Int → Int → Option (Bool)
  | 0, _, _, _ => none
  | k + 1, x0, x1, x5 => if x5 < (x0.length : Int) then (if 0 ≤ x5 then (if x5 < (x1.length : Int) then (if (rd x0 x5) = (rd x1 x5) then (icehouseref00_SameInts.l0 k x0 x1 (wrap64 (x5 + 1))) else (some false)) else (none)) else (none)) else (some true)
def icehouseref00_SameInts.f (k : Nat) (l0 : List Int) (l1 : List Int) : Option (Bool) := if (l0.length : Int) = (l1.length : Int) then (icehouseref00_SameInts.l0 k l0 l1 0) else (some false)
theorem icehouseref00_SameInts.mono_l : ∀ k, (∀ y0 y1 y2, LeO (icehouseref00_SameInts.l0 k y0 y1 y2) (icehouseref00_SameInts.l0 (k + 1) y0 y1 y2))
  | 0 => fun _ _ _ r h => by simp [icehouseref00_SameInts.l0] at h
  | k + 1 => by
    have ih0 := icehouseref00_SameInts.mono_l k
    · intro y0 y1 y2
      unfold icehouseref00_SameInts.l0
      repeat' first
      | (with_reducible exact ih0 _ _ _)
      | (with_reducible exact LeO.refl _)
      | (with_reducible exact LeO.none _)
      | (with_reducible refine LeO.ite ?_ ?_)
      | (with_reducible refine LeO.bind ?_ (fun _ => ?_))
      | exact ih0 _ _ _
      | exact LeO.none _
      | refine LeO.ite ?_ ?_
      | refine LeO.bind ?_ (fun _ => ?_)
theorem icehouseref00_SameInts.mono : ∀ a0 a1 k, LeO (icehouseref00_SameInts.f k a0 a1) (icehouseref00_SameInts.f (k + 1) a0 a1) := by
  intro a0 a1 k
  have ih0 := icehouseref00_SameInts.mono_l k
  unfold icehouseref00_SameInts.f
  repeat' first
      | (with_reducible exact ih0 _ _ _)
      | (with_reducible exact LeO.refl _)
      | (with_reducible exact LeO.none _)
      | (with_reducible refine LeO.ite ?_ ?_)
      | (with_reducible refine LeO.bind ?_ (fun _ => ?_))
      | exact ih0 _ _ _
      | exact LeO.none _
      | refine LeO.ite ?_ ?_
      | refine LeO.bind ?_ (fun _ => ?_)
end Go.Proofs.Yteocngcojijnkaa.QA
namespace Go.Proofs.Yteocngcojijnkaa.QA
open Go.RowKit Go.Proofs.YteocngcojijnkaaW.PrintWords Go.Proofs.YteocngcojijnkaaW.PrintLast Go.Proofs.YteocngcojijnkaaW.PrintMore
attribute [local go_sem] max2_int min2_int max_two min_two max_three min_three max_four min_four   -- for this text's walks alone
set_option linter.unusedVariables false
set_option linter.unusedSimpArgs false
/-! ### icehouselaw10_QuorumEnough: function 3 -/
mutual
def icehouselaw10_QuorumEnough.j0 : Nat → List Int → List Int → Int → Bool → Option (Bool)
  | 0, _, _, _, _ => none
  | k + 1, x0, x1, x2, x15 => if x15 = true then ((Fk.known.f).bind fun t118 => (some t118)) else (if x2 > 0 then (icehouselaw10_QuorumEnough.j1 k x0 x1 x2 0 (decide (x2 ≤ 100000))) else (icehouselaw10_QuorumEnough.j1 k x0 x1 x2 0 false))
def icehouselaw10_QuorumEnough.j1 : Nat → List Int → List Int → Int → Int → Bool → Option (Bool)
  | 0, _, _, _, _, _ => none
  | k + 1, x0, x1, x2, x7, x22 => if x22 = true then ((icehouseref10_Need.f k x2).bind fun t119 => (icehouselaw10_QuorumEnough.j2 k x0 x1 x2 t119)) else (icehouselaw10_QuorumEnough.j2 k x0 x1 x2 x7)
def icehouselaw10_QuorumEnough.j2 : Nat → List Int → List Int → Int → Int → Option (Bool)
  | 0, _, _, _, _ => none
  | k + 1, x0, x1, x2, x7 => if x2 ≤ 100000 then ((QO.quorum_Need.f x2).bind fun t120 => (icehouselaw10_QuorumEnough.j3 k x0 x1 (t120 != x7))) else (icehouselaw10_QuorumEnough.j3 k x0 x1 false)
def icehouselaw10_QuorumEnough.j3 : Nat → List Int → List Int → Bool → Option (Bool)
  | 0, _, _, _ => none
  | k + 1, x0, x1, x32 => if x32 = true then (some false) else ((QE.quorum_Enough.f k x0 x1).bind fun t121 => ((icehouseref10_Enough.f k x0 x1).bind fun t122 => (if (t121 == t122) = true then ((Cm.common.f k x0 x1).bind fun t123 => ((icehouseref10_Common.f k x0 x1).bind fun t126 => ((icehouseref00_SameInts.f k t123 t126).bind fun t129 => (if t129 = true then ((Fk.known.f).bind fun t130 => (some t130)) else (some false))))) else (some false))))
end
def icehouselaw10_QuorumEnough.f (k : Nat) (l0 : List Int) (l1 : List Int) (a2 : Int) : Option (Bool) := if (l0.length : Int) > 60 then (icehouselaw10_QuorumEnough.j0 k l0 l1 a2 true) else (icehouselaw10_QuorumEnough.j0 k l0 l1 a2 (decide ((l1.length : Int) > 60)))
theorem icehouselaw10_QuorumEnough.mono_l : ∀ k, (∀ y0 y1 y2 y3, LeO (icehouselaw10_QuorumEnough.j0 k y0 y1 y2 y3) (icehouselaw10_QuorumEnough.j0 (k + 1) y0 y1 y2 y3)) ∧ (∀ y0 y1 y2 y3 y4, LeO (icehouselaw10_QuorumEnough.j1 k y0 y1 y2 y3 y4) (icehouselaw10_QuorumEnough.j1 (k + 1) y0 y1 y2 y3 y4)) ∧ (∀ y0 y1 y2 y3, LeO (icehouselaw10_QuorumEnough.j2 k y0 y1 y2 y3) (icehouselaw10_QuorumEnough.j2 (k + 1) y0 y1 y2 y3)) ∧ (∀ y0 y1 y2, LeO (icehouselaw10_QuorumEnough.j3 k y0 y1 y2) (icehouselaw10_QuorumEnough.j3 (k + 1) y0 y1 y2))
  | 0 => ⟨fun _ _ _ _ r h => by simp [icehouselaw10_QuorumEnough.j0] at h, fun _ _ _ _ _ r h => by simp [icehouselaw10_QuorumEnough.j1] at h, fun _ _ _ _ r h => by simp [icehouselaw10_QuorumEnough.j2] at h, fun _ _ _ r h => by simp [icehouselaw10_QuorumEnough.j3] at h⟩
  | k + 1 => by
    obtain ⟨ih0, ih1, ih2, ih3⟩ := icehouselaw10_QuorumEnough.mono_l k
    refine ⟨?_, ?_, ?_, ?_⟩
    · intro y0 y1 y2 y3
      unfold icehouselaw10_QuorumEnough.j0
      repeat' first
      | (with_reducible exact ih0 _ _ _ _)
      | (with_reducible exact ih1 _ _ _ _ _)
      | (with_reducible exact ih2 _ _ _ _)
      | (with_reducible exact ih3 _ _ _)
      | (with_reducible exact Cm.common.mono _ _ _)
      | (with_reducible exact QE.quorum_Enough.mono _ _ _)
      | (with_reducible exact icehouseref00_SameInts.mono _ _ _)
      | (with_reducible exact icehouseref10_Common.mono _ _ _)
      | (with_reducible exact icehouseref10_Enough.mono _ _ _)
      | (with_reducible exact icehouseref10_Need.mono _ _)
      | (with_reducible exact LeO.refl _)
      | (with_reducible exact LeO.none _)
      | (with_reducible refine LeO.ite ?_ ?_)
      | (with_reducible refine LeO.bind ?_ (fun _ => ?_))
      | exact ih0 _ _ _ _
      | exact ih1 _ _ _ _ _
      | exact ih2 _ _ _ _
      | exact ih3 _ _ _
      | exact Cm.common.mono _ _ _
      | exact QE.quorum_Enough.mono _ _ _
      | exact icehouseref00_SameInts.mono _ _ _
      | exact icehouseref10_Common.mono _ _ _
      | exact icehouseref10_Enough.mono _ _ _
      | exact icehouseref10_Need.mono _ _
      | exact LeO.none _
      | refine LeO.ite ?_ ?_
      | refine LeO.bind ?_ (fun _ => ?_)
    · intro y0 y1 y2 y3 y4
      unfold icehouselaw10_QuorumEnough.j1
      repeat' first
      | (with_reducible exact ih0 _ _ _ _)
      | (with_reducible exact ih1 _ _ _ _ _)
      | (with_reducible exact ih2 _ _ _ _)
      | (with_reducible exact ih3 _ _ _)
      | (with_reducible exact Cm.common.mono _ _ _)
      | (with_reducible exact QE.quorum_Enough.mono _ _ _)
      | (with_reducible exact icehouseref00_SameInts.mono _ _ _)
      | (with_reducible exact icehouseref10_Common.mono _ _ _)
      | (with_reducible exact icehouseref10_Enough.mono _ _ _)
      | (with_reducible exact icehouseref10_Need.mono _ _)
      | (with_reducible exact LeO.refl _)
      | (with_reducible exact LeO.none _)
      | (with_reducible refine LeO.ite ?_ ?_)
      | (with_reducible refine LeO.bind ?_ (fun _ => ?_))
      | exact ih0 _ _ _ _
      | exact ih1 _ _ _ _ _
      | exact ih2 _ _ _ _
      | exact ih3 _ _ _
      | exact Cm.common.mono _ _ _
      | exact QE.quorum_Enough.mono _ _ _
      | exact icehouseref00_SameInts.mono _ _ _
      | exact icehouseref10_Common.mono _ _ _
      | exact icehouseref10_Enough.mono _ _ _
      | exact icehouseref10_Need.mono _ _
      | exact LeO.none _
      | refine LeO.ite ?_ ?_
      | refine LeO.bind ?_ (fun _ => ?_)
    · intro y0 y1 y2 y3
      unfold icehouselaw10_QuorumEnough.j2
      repeat' first
      | (with_reducible exact ih0 _ _ _ _)
      | (with_reducible exact ih1 _ _ _ _ _)
      | (with_reducible exact ih2 _ _ _ _)
      | (with_reducible exact ih3 _ _ _)
      | (with_reducible exact Cm.common.mono _ _ _)
      | (with_reducible exact QE.quorum_Enough.mono _ _ _)
      | (with_reducible exact icehouseref00_SameInts.mono _ _ _)
      | (with_reducible exact icehouseref10_Common.mono _ _ _)
      | (with_reducible exact icehouseref10_Enough.mono _ _ _)
      | (with_reducible exact icehouseref10_Need.mono _ _)
      | (with_reducible exact LeO.refl _)
      | (with_reducible exact LeO.none _)
      | (with_reducible refine LeO.ite ?_ ?_)
      | (with_reducible refine LeO.bind ?_ (fun _ => ?_))
      | exact ih0 _ _ _ _
      | exact ih1 _ _ _ _ _
      | exact ih2 _ _ _ _
      | exact ih3 _ _ _
      | exact Cm.common.mono _ _ _
      | exact QE.quorum_Enough.mono _ _ _
      | exact icehouseref00_SameInts.mono _ _ _
      | exact icehouseref10_Common.mono _ _ _
      | exact icehouseref10_Enough.mono _ _ _
      | exact icehouseref10_Need.mono _ _
      | exact LeO.none _
      | refine LeO.ite ?_ ?_
      | refine LeO.bind ?_ (fun _ => ?_)
    · intro y0 y1 y2
      unfold icehouselaw10_QuorumEnough.j3
      repeat' first
      | (with_reducible exact ih0 _ _ _ _)
      | (with_reducible exact ih1 _ _ _ _ _)
      | (with_reducible exact ih2 _ _ _ _)
      | (with_reducible exact ih3 _ _ _)
      | (with_reducible exact Cm.common.mono _ _ _)
      | (with_reducible exact QE.quorum_Enough.mono _ _ _)
      | (with_reducible exact icehouseref00_SameInts.mono _ _ _)
      | (with_reducible exact icehouseref10_Common.mono _ _ _)
      | (with_reducible exact icehouseref10_Enough.mono _ _ _)
      | (with_reducible exact icehouseref10_Need.mono _ _)
      | (with_reducible exact LeO.refl _)
      | (with_reducible exact LeO.none _)
      | (with_reducible refine LeO.ite ?_ ?_)
      | (with_reducible refine LeO.bind ?_ (fun _ => ?_))
      | exact ih0 _ _ _ _
      | exact ih1 _ _ _ _ _
      | exact ih2 _ _ _ _
      | exact ih3 _ _ _
      | exact Cm.common.mono _ _ _
      | exact QE.quorum_Enough.mono _ _ _
      | exact icehouseref00_SameInts.mono _ _ _
      | exact icehouseref10_Common.mono _ _ _
      | exact icehouseref10_Enough.mono _ _ _
      | exact icehouseref10_Need.mono _ _
      | exact LeO.none _
      | refine LeO.ite ?_ ?_
      | refine LeO.bind ?_ (fun _ => ?_)
/-- THE ONE PURE STATEMENT of icehouselaw10_QuorumEnough: yours. -/
def icehouselaw10_QuorumEnough.Pure : Prop := ∀ (l0 : List Int) (l1 : List Int) (a2 : Int), l0.length ≤ maxLen → l0.length * 8 ≤ 140737488351232 → (∀ x ∈ l0, (Lit.int .i64 x).wf = true) → l1.length ≤ maxLen → l1.length * 8 ≤ 140737488351232 → (∀ x ∈ l1, (Lit.int .i64 x).wf = true) → (Lit.int .i64 a2).wf = true → ∃ k, icehouselaw10_QuorumEnough.f k l0 l1 a2 = some true
/-! ### icehouseref10_Meet: function 19 -/
def icehouseref10_Meet.f (a0 : Int) (a1 : Int) (a2 : Int) : Option (Bool) := if a1 < 0 then (some false) else (if a2 < 0 then (some false) else (if a1 > a0 then (some false) else (if a2 > a0 then (some false) else (some (decide ((wrap64 (a1 + a2)) > a0))))))
end Go.Proofs.Yteocngcojijnkaa.QA
namespace Go.Proofs.Yteocngcojijnkaa.QA
open Go.RowKit Go.Proofs.YteocngcojijnkaaW.PrintWords Go.Proofs.YteocngcojijnkaaW.PrintLast Go.Proofs.YteocngcojijnkaaW.PrintMore
attribute [local go_sem] max2_int min2_int max_two min_two max_three min_three max_four min_four   -- for this text's walks alone
set_option linter.unusedVariables false
set_option linter.unusedSimpArgs false
/-! ### icehouselaw10_QuorumMeets: function 5 -/
mutual
def icehouselaw10_QuorumMeets.j0 : Nat → List Int → List Int → List Int → Bool → Option (Bool)
  | 0, _, _, _, _ => none
  | k + 1, x0, x1, x2, x23 => if x23 = true then ((Fk.known.f).bind fun t131 => (some t131)) else ((Cm.common.f k x0 x1).bind fun t132 => ((Cm.common.f k x0 x2).bind fun t135 => ((QE.quorum_Enough.f k x0 x1).bind fun t138 => (if t138 = true then ((QE.quorum_Enough.f k x0 x2).bind fun t139 => (icehouselaw10_QuorumMeets.j1 k x0 t132 t135 t139)) else (icehouselaw10_QuorumMeets.j1 k x0 t132 t135 false)))))
def icehouselaw10_QuorumMeets.j1 : Nat → List Int → List Int → List Int → Bool → Option (Bool)
  | 0, _, _, _, _ => none
  | k + 1, x0, x7, x8, x9 => (Cm.common.f k x0 x0).bind fun t140 => (if x9 = true then ((Cm.common.f k x7 x8).bind fun t143 => (icehouselaw10_QuorumMeets.j2 k x7 x8 x9 (t140.length : Int) ((t143.length : Int) == 0))) else (icehouselaw10_QuorumMeets.j2 k x7 x8 x9 (t140.length : Int) false))
def icehouselaw10_QuorumMeets.j2 : Nat → List Int → List Int → Bool → Int → Bool → Option (Bool)
  | 0, _, _, _, _, _ => none
  | k + 1, x7, x8, x9, x10, x50 => if x50 = true then (some false) else ((QE.quorum_Meet.f x10 (x7.length : Int) (x8.length : Int)).bind fun t146 => ((icehouseref10_Meet.f x10 (x7.length : Int) (x8.length : Int)).bind fun t147 => (if (t146 == t147) = true then (if x9 = true then ((QE.quorum_Meet.f x10 (x7.length : Int) (x8.length : Int)).bind fun t148 => (if t148 = true then ((Fk.known.f).bind fun t149 => (some t149)) else (some false))) else ((Fk.known.f).bind fun t150 => (some t150))) else (some false))))
end
def icehouselaw10_QuorumMeets.f (k : Nat) (l0 : List Int) (l1 : List Int) (l2 : List Int) : Option (Bool) := if (l0.length : Int) > 40 then (icehouselaw10_QuorumMeets.j0 k l0 l1 l2 true) else (if (l1.length : Int) > 40 then (icehouselaw10_QuorumMeets.j0 k l0 l1 l2 true) else (icehouselaw10_QuorumMeets.j0 k l0 l1 l2 (decide ((l2.length : Int) > 40))))
theorem icehouselaw10_QuorumMeets.mono_l : ∀ k, (∀ y0 y1 y2 y3, LeO (icehouselaw10_QuorumMeets.j0 k y0 y1 y2 y3) (icehouselaw10_QuorumMeets.j0 (k + 1) y0 y1 y2 y3)) ∧ (∀ y0 y1 y2 y3, LeO (icehouselaw10_QuorumMeets.j1 k y0 y1 y2 y3) (icehouselaw10_QuorumMeets.j1 (k + 1) y0 y1 y2 y3)) ∧ (∀ y0 y1 y2 y3 y4, LeO (icehouselaw10_QuorumMeets.j2 k y0 y1 y2 y3 y4) (icehouselaw10_QuorumMeets.j2 (k + 1) y0 y1 y2 y3 y4))
  | 0 => ⟨fun _ _ _ _ r h => by simp [icehouselaw10_QuorumMeets.j0] at h, fun _ _ _ _ r h => by simp [icehouselaw10_QuorumMeets.j1] at h, fun _ _ _ _ _ r h => by simp [icehouselaw10_QuorumMeets.j2] at h⟩
  | k + 1 => by
    obtain ⟨ih0, ih1, ih2⟩ := icehouselaw10_QuorumMeets.mono_l k
    refine ⟨?_, ?_, ?_⟩
    · intro y0 y1 y2 y3
      unfold icehouselaw10_QuorumMeets.j0
      repeat' first
      | (with_reducible exact ih0 _ _ _ _)
      | (with_reducible exact ih1 _ _ _ _)
      | (with_reducible exact ih2 _ _ _ _ _)
      | (with_reducible exact Cm.common.mono _ _ _)
      | (with_reducible exact QE.quorum_Enough.mono _ _ _)
      | (with_reducible exact LeO.refl _)
      | (with_reducible exact LeO.none _)
      | (with_reducible refine LeO.ite ?_ ?_)
      | (with_reducible refine LeO.bind ?_ (fun _ => ?_))
      | exact ih0 _ _ _ _
      | exact ih1 _ _ _ _
      | exact ih2 _ _ _ _ _
      | exact Cm.common.mono _ _ _
      | exact QE.quorum_Enough.mono _ _ _
      | exact LeO.none _
      | refine LeO.ite ?_ ?_
      | refine LeO.bind ?_ (fun _ => ?_)
    · intro y0 y1 y2 y3
      unfold icehouselaw10_QuorumMeets.j1
      repeat' first
      | (with_reducible exact ih0 _ _ _ _)
      | (with_reducible exact ih1 _ _ _ _)
      | (with_reducible exact ih2 _ _ _ _ _)
      | (with_reducible exact Cm.common.mono _ _ _)
      | (with_reducible exact QE.quorum_Enough.mono _ _ _)
      | (with_reducible exact LeO.refl _)
      | (with_reducible exact LeO.none _)
      | (with_reducible refine LeO.ite ?_ ?_)
      | (with_reducible refine LeO.bind ?_ (fun _ => ?_))
      | exact ih0 _ _ _ _
      | exact ih1 _ _ _ _
      | exact ih2 _ _ _ _ _
      | exact Cm.common.mono _ _ _
      | exact QE.quorum_Enough.mono _ _ _
      | exact LeO.none _
      | refine LeO.ite ?_ ?_
      | refine LeO.bind ?_ (fun _ => ?_)
    · intro y0 y1 y2 y3 y4
      unfold icehouselaw10_QuorumMeets.j2
      repeat' first
      | (with_reducible exact ih0 _ _ _ _)
      | (with_reducible exact ih1 _ _ _ _)
      | (with_reducible exact ih2 _ _ _ _ _)
      | (with_reducible exact Cm.common.mono _ _ _)
      | (with_reducible exact QE.quorum_Enough.mono _ _ _)
      | (with_reducible exact LeO.refl _)
      | (with_reducible exact LeO.none _)
      | (with_reducible refine LeO.ite ?_ ?_)
      | (with_reducible refine LeO.bind ?_ (fun _ => ?_))
      | exact ih0 _ _ _ _
      | exact ih1 _ _ _ _
      | exact ih2 _ _ _ _ _
      | exact Cm.common.mono _ _ _
      | exact QE.quorum_Enough.mono _ _ _
      | exact LeO.none _
      | refine LeO.ite ?_ ?_
      | refine LeO.bind ?_ (fun _ => ?_)
/-- THE ONE PURE STATEMENT of icehouselaw10_QuorumMeets: yours. -/
def icehouselaw10_QuorumMeets.Pure : Prop := ∀ (l0 : List Int) (l1 : List Int) (l2 : List Int), l0.length ≤ maxLen → l0.length * 8 ≤ 140737488351232 → (∀ x ∈ l0, (Lit.int .i64 x).wf = true) → l1.length ≤ maxLen → l1.length * 8 ≤ 140737488351232 → (∀ x ∈ l1, (Lit.int .i64 x).wf = true) → l2.length ≤ maxLen → l2.length * 8 ≤ 140737488351232 → (∀ x ∈ l2, (Lit.int .i64 x).wf = true) → ∃ k, icehouselaw10_QuorumMeets.f k l0 l1 l2 = some true
end Go.Proofs.Yteocngcojijnkaa.QA
namespace Go.Proofs.Yteocngcojijnkaa.QA
open Go.RowKit Go.Proofs.YteocngcojijnkaaW.PrintWords Go.Proofs.YteocngcojijnkaaW.PrintLast Go.Proofs.YteocngcojijnkaaW.PrintMore
attribute [local go_sem] max2_int min2_int max_two min_two max_three min_three max_four min_four   -- for this text's walks alone
set_option linter.unusedVariables false
set_option linter.unusedSimpArgs false
end Go.Proofs.Yteocngcojijnkaa.QA
