/- The reference's points are the program's. Plain. Conditions: a ring that may be. · What the chapter's examples fix holds, plain. Conditions: none. · Who keeps a word: the reference's answer is the program's. Plain. Conditions: a ring that may be. · The lists of those who keep each point: the program's, the reference's, and whether they are the same. Plain. Conditions: a ring that may be. · Written by a program of this session over the kit's print: functions and their contracts. · Written by a program of this session over the kit's print: functions and their contracts. · Written by a program of this session over the kit's print: functions and their contracts. · Written by a program of this session over the kit's print: functions and their contracts. · What a law's arguments read as: kinds (Kd) for every type that the laws take (numbers, bools, strings, slices, structs), with the sizes that the row's weights give. Conditions: none beyond the types' own. · What an argument that is a ring reads as. · The statement RingPoints: all points of a ring, and who keeps each, are the reference's. Plain, over the printed law. Conditions: none. -/
import Derived.Test.YtdfjeanlhafipaaYRingPoints3
import Derived.Test.YtdfjeanlhafipaaYRingPoints2
import Derived.Test.YtdfjeanlhafipaaProg
import Derived.Below
import Derived.Deep.Draws
import Derived.Deep.AppendLies
import Derived.Maps.AppendAt
import Derived.OwnWalk
import Derived.Laws.BytesArg
import Derived.Laws.MakeOwn
import Derived.Laws.OwnMore
import Derived.Deep.OwnRows
import Derived.Tactics
import Derived.Lib.ConvBytes
import Derived.Laws.Slices
import Derived.WalkKit
import Derived.KernelRfl
import Derived.RowKit3
import Derived.Deep.LoopGhost
import Derived.Deep.QuietTactic
import Derived.BigQuiet
import Derived.WideLaws
import Derived.Deep.DeepCutAuto
import Derived.Deep.CutBlock
import Derived.Deep.RegionHeld3
import Derived.Laws.Rows
import Derived.Lib.AppendStr
import Derived.ArgAppend
import Derived.Laws.IdiomCopy
import Derived.OrdersHeld
import Derived.Laws.BitsLemmas
import Derived.RowKit
import Derived.Test.YtdfjeanlhafipaaYRingPoints0
import Derived.SizedLaws
import Derived.ChangeSlices
import Derived.ChangeArms
import Derived.WideShapes
import Derived.Test.YtdfjeanlhafipaaRows

namespace Go.Proofs.Ytdfjeanlhafipaa.Hs
open Go.RowKit Go.Proofs.Ytdfjeanlhafipaa.QH Go.Proofs.Ytdfjeanlhafipaa.Lex Go.Proofs.Ytdfjeanlhafipaa.Rg
open Go.Proofs.YtdfjeanlhafipaaW.PrintWords Go.Proofs.YtdfjeanlhafipaaW.PrintLast Go.Proofs.YtdfjeanlhafipaaW.PrintMore
set_option linter.unusedVariables false
set_option linter.unusedSimpArgs false
def insS (p : S51) : List S51 → List S51
  | [] => [p]
  | x :: l => if lt2 (toPt x) (toPt p) then x :: insS p l else if x = p then x :: l else p :: x :: l
theorem insS_map (p : S51) : ∀ l : List S51, (insS p l).map toPt = ins (toPt p) (l.map toPt)
  | [] => rfl
  | x :: l => by
    unfold insS
    rw [List.map_cons]
    unfold ins
    by_cases h : lt2 (toPt x) (toPt p)
    · rw [if_pos h, if_pos h, List.map_cons, insS_map p l]
    · rw [if_neg h, if_neg h]
      by_cases e : x = p
      · rw [if_pos e, if_pos (congrArg toPt e)]; rfl
      · rw [if_neg e, if_neg (fun h => e (toPt_inj h))]; rfl
theorem insS_len (p : S51) : ∀ l : List S51, (insS p l).length ≤ l.length + 1
  | [] => Nat.le_refl _
  | x :: l => by
    have := insS_len p l
    unfold insS
    split
    · rw [List.length_cons, List.length_cons]; omega
    · split
      · exact Nat.le_succ _
      · exact Nat.le_refl _
def foldS (acc raw : List S51) : List S51 := raw.foldl (fun a p => insS p a) acc
theorem foldS_map : ∀ (raw acc : List S51), (foldS acc raw).map toPt = (raw.map toPt).foldl (fun a p => ins p a) (acc.map toPt)
  | [], acc => rfl
  | x :: raw, acc => by
    show (foldS (insS x acc) raw).map toPt = _
    rw [foldS_map raw, insS_map]
    rfl
theorem foldS_pts (l : List Int) (each : Int) : foldS [] (rawP l each) = ptsP l each := by
  have h : (foldS [] (rawP l each)).map toPt = (ptsP l each).map toPt := by
    rw [foldS_map, ptsP_map]; rfl
  exact (List.map_inj_right (fun _ _ => toPt_inj)).1 h
theorem foldS_app (a b acc : List S51) : foldS acc (a ++ b) = foldS (foldS acc a) b := by unfold foldS; rw [List.foldl_append]
theorem less_f (a b c d : Int) : icehouseref09_less.f a b c d = some (decide (lt2 (a, b) (c, d))) := by
  unfold icehouseref09_less.f lt2
  by_cases h1 : a < c
  · simp [h1]
  · by_cases h2 : a = c
    · simp [h1, h2]
    · simp [h1, h2]
theorem insS_skip (p : S51) : ∀ (i : Nat) (l : List S51), (∀ m (hm : m < i) (h : m < l.length), lt2 (toPt l[m]) (toPt p)) → insS p l = l.take i ++ insS p (l.drop i)
  | 0, l, _ => by simp
  | i + 1, [], _ => by simp
  | i + 1, x :: l, h => by
    have h0 : lt2 (toPt x) (toPt p) := h 0 (by omega) (by simp)
    rw [insS, if_pos h0, insS_skip p i l (fun m hm hl => h (m + 1) (by omega) (by simpa using hl))]
    rfl
section
variable (nodes : List Int) (each keep : Int) (p : S51) (x4 x5 : Int)
theorem l2_ev (r : List S51) (l : List S51) (hl : l.length ≤ 8796093000000) (hw : wrap64 (x5 + 1) = x5 + 1) (h : Since (fun k => icehouseref09_Points.l1 k (insS p l) x4 (x5 + 1) nodes each keep) r) : ∀ (n i : Nat), l.length - i = n → i ≤ l.length → (∀ m (hm : m < i) (h : m < l.length), lt2 (toPt l[m]) (toPt p)) →
    Since (fun k => icehouseref09_Points.l2 k l x4 x5 (i : Int) nodes each keep p.f0 p.f1) r := by
  intro n
  induction n with
  | zero =>
    intro i hn hi hlt
    obtain rfl : i = l.length := by omega
    have hf : ¬ ((l.length : Int) < (l.length : Int)) := by omega
    have e := insS_skip p l.length l hlt
    rw [List.take_length, List.drop_length] at e
    refine Since.one h fun k hk => ?_
    rw [e] at hk
    simp only [icehouseref09_Points.l2, if_neg hf, if_pos (show (0 : Int) ≤ (l.length : Int) by omega), if_pos (Int.le_refl (l.length : Int)), Option.bind_some, Int.toNat_natCast, List.take_length, List.drop_length, List.nil_append, List.length_append, List.length_nil, Nat.zero_add, hw]
    rw [if_pos (by omega), if_pos (by omega), if_pos (by simp; omega), List.append_nil]
    exact hk
  | succ n ih =>
    intro i hn hi hlt
    have h1 : i < l.length := by omega
    have f1 : (i : Int) < (l.length : Int) := by omega
    have f0 : (0 : Int) ≤ (i : Int) := by omega
    have r1 : rd_T51 l (i : Int) = l[i] := by unfold rd_T51; rw [show (i : Int).toNat = i from rfl]; simp [h1]
    have e := insS_skip p i l hlt
    rw [List.drop_eq_getElem_cons h1, insS] at e
    by_cases c1 : lt2 (toPt l[i]) (toPt p)
    · refine Since.one (ih (i + 1) (by omega) (by omega) (fun m hm hl' => ?_)) fun k hk => ?_
      · by_cases hmi : m = i
        · subst hmi; exact c1
        · exact hlt m (by omega) hl'
      · have c2 : lt2 (l[i].f0, l[i].f1) (p.f0, p.f1) := c1
        simp only [icehouseref09_Points.l2, if_pos f1, if_pos f0, r1, less_f, decide_eq_true c2, Option.bind_some, if_true, w_succ' i (by omega)]
        exact hk
    · have c2 : ¬ lt2 (l[i].f0, l[i].f1) (p.f0, p.f1) := c1
      rw [if_neg c1] at e
      by_cases c3 : l[i] = p
      · rw [if_pos c3, ← List.drop_eq_getElem_cons h1, List.take_append_drop] at e
        rw [e] at h
        refine Since.one h fun k hk => ?_
        have c4 := (same_iff l[i] p).2 c3
        simp only [icehouseref09_Points.l2, if_pos f1, if_pos f0, r1, less_f, decide_eq_false c2, Option.bind_some, hw]
        rw [if_neg (by decide), if_pos c4]
        exact hk
      · rw [if_neg c3, ← List.drop_eq_getElem_cons h1] at e
        refine Since.one h fun k hk => ?_
        rw [e] at hk
        have c4 : ¬ ((l[i].f0 == p.f0 && (l[i].f1 == p.f1)) = true) := fun h => c3 ((same_iff l[i] p).1 h)
        simp only [icehouseref09_Points.l2, if_pos f1, if_pos f0, r1, less_f, decide_eq_false c2, Option.bind_some, hw, if_pos (show (i : Int) ≤ (l.length : Int) by omega), Int.toNat_natCast, List.nil_append, List.length_append, List.length_nil, List.length_cons, Nat.zero_add, List.length_take, List.length_drop]
        rw [if_neg (by decide), if_neg c4, if_pos (by omega), if_pos (by omega), if_pos (by omega), List.append_assoc]
        exact hk
end
/-- one node's points from a place on -/
def restP (n : Int) (j m : Nat) : List S51 := (List.range' j m).map fun j : Nat => ⟨ptH n (j : Int), n⟩
theorem restP_zero (n : Int) (m : Nat) : restP n 0 m = rowP n m := by unfold restP rowP; rw [List.range_eq_range']
theorem restP_succ (n : Int) (j m : Nat) : restP n j (m + 1) = ⟨ptH n (j : Int), n⟩ :: restP n (j + 1) m := by unfold restP; rw [List.range'_succ, List.map_cons]
theorem foldS_cons (p : S51) (raw acc : List S51) : foldS acc (p :: raw) = foldS (insS p acc) raw := rfl
theorem rawP_cons (x : Int) (l : List Int) (each : Int) : rawP (x :: l) each = rowP x each.toNat ++ rawP l each := by unfold rawP; rw [List.flatMap_cons]
theorem foldS_len : ∀ (raw acc : List S51), (foldS acc raw).length ≤ acc.length + raw.length
  | [], acc => Nat.le_refl _
  | x :: raw, acc => by
    have h1 := foldS_len raw (insS x acc)
    have h2 := insS_len x acc
    show (foldS (insS x acc) raw).length ≤ _
    rw [List.length_cons]; omega
theorem l1_ev (nodes : List Int) (each keep : Int) (he : 0 ≤ each) (he2 : each ≤ 64) (i : Nat) (hi : i < nodes.length) (r : List S51) : ∀ (n j : Nat) (acc : List S51), each.toNat - j = n → (j : Int) ≤ each → acc.length + n ≤ 100000 →
    Since (fun k => icehouseref09_Points.l0 k (foldS acc (restP nodes[i] j n)) (wrap64 ((i : Int) + 1)) nodes each keep) r → Since (fun k => icehouseref09_Points.l1 k acc (i : Int) (j : Int) nodes each keep) r := by
  intro n
  induction n with
  | zero =>
    intro j acc hn hj hlen h
    have hf : ¬ ((j : Int) < each) := by omega
    refine Since.one h fun k hk => ?_
    simp only [icehouseref09_Points.l1, if_neg hf]
    exact hk
  | succ n ih =>
    intro j acc hn hj hlen h
    have f1 : (j : Int) < each := by omega
    have g0 : (0 : Int) ≤ (i : Int) := by omega
    have g1 : (i : Int) < (nodes.length : Int) := by omega
    have r1 : rd nodes (i : Int) = nodes[i] := by simp [rd, hi]
    have hw : wrap64 ((j : Int) + 1) = (j : Int) + 1 := by unfold wrap64; omega
    rw [restP_succ, foldS_cons] at h
    have h2 := ih (j + 1) (insS ⟨ptH nodes[i] (j : Int), nodes[i]⟩ acc) (by omega) (by omega) (by have := insS_len ⟨ptH nodes[i] (j : Int), nodes[i]⟩ acc; omega) h
    have h3 := l2_ev nodes each keep ⟨ptH nodes[i] (j : Int), nodes[i]⟩ (i : Int) (j : Int) r acc (by omega) hw h2 _ 0 rfl (Nat.zero_le _) (fun m hm _ => absurd hm (Nat.not_lt_zero m))
    refine Since.two h3 (rpoint_ev nodes[i] (j : Int)) fun k hk hp => ?_
    simp only [icehouseref09_Points.l1, if_pos f1, if_pos g0, if_pos g1, r1]
    rw [hp, Option.bind_some]
    exact hk
theorem l0_ev (nodes : List Int) (each keep : Int) (he : 0 ≤ each) (he2 : each ≤ 64) (hn64 : nodes.length ≤ 64) : ∀ (n i : Nat) (acc : List S51), nodes.length - i = n → i ≤ nodes.length → acc.length ≤ i * 64 →
    Since (fun k => icehouseref09_Points.l0 k acc (i : Int) nodes each keep) (foldS acc (rawP (nodes.drop i) each)) := by
  intro n
  induction n with
  | zero =>
    intro i acc hn hi hlen
    have hf : ¬ ((i : Int) < (nodes.length : Int)) := by omega
    rw [List.drop_eq_nil_of_le (by omega)]
    exact Since.none fun k => by simp only [icehouseref09_Points.l0, if_neg hf]; rfl
  | succ n ih =>
    intro i acc hn hi hlen
    have h1 : i < nodes.length := by omega
    have f1 : (i : Int) < (nodes.length : Int) := by omega
    have hl2 : (foldS acc (restP nodes[i] 0 each.toNat)).length ≤ (i + 1) * 64 := by
      have := foldS_len (restP nodes[i] 0 each.toNat) acc
      rw [restP_zero, rowP_len] at this
      rw [restP_zero]
      omega
    have h2 := ih (i + 1) _ (by omega) (by omega) hl2
    rw [← w_succ' i (by omega)] at h2
    have h3 := l1_ev nodes each keep he he2 i h1 _ each.toNat 0 acc (by omega) (by omega) (by omega) h2
    refine Since.one h3 fun k hk => ?_
    simp only [icehouseref09_Points.l0, if_pos f1]
    rw [show icehouseref09_Points.l1 k acc (i : Int) 0 nodes each keep = _ from hk, restP_zero, List.drop_eq_getElem_cons h1]
    rw [rawP_cons, foldS_app]
theorem rpoints_ev {l : List Int} {each keep : Int} (ho : okB l each keep = true) : Since (fun k => icehouseref09_Points.f k l each keep) (ptsP l each) := by
  obtain ⟨k0, k1, k2, k3, k4, k5, _⟩ := okB_len ho
  have h := l0_ev l each keep (by omega) k3 k1 _ 0 [] rfl (Nat.zero_le _) (by simp)
  rw [List.drop_zero, foldS_pts] at h
  exact h
end Go.Proofs.Ytdfjeanlhafipaa.Hs
namespace Go.Proofs.Ytdfjeanlhafipaa.Hs
open Go.RowKit Go.Proofs.Ytdfjeanlhafipaa.QH Go.Proofs.Ytdfjeanlhafipaa.Lex Go.Proofs.Ytdfjeanlhafipaa.Rg
open Go.Proofs.YtdfjeanlhafipaaW.PrintWords Go.Proofs.YtdfjeanlhafipaaW.PrintLast Go.Proofs.YtdfjeanlhafipaaW.PrintMore
set_option linter.unusedVariables false
set_option linter.unusedSimpArgs false
theorem keepers_ok {l : List Int} {each keep : Int} (ho : okB l each keep = true) (s : ByteArray) (hs : s.size ≤ 140737488351232) : QR.ring_Keepers.f l each keep s = some (keepR l each (keyH s) keep.toNat, 0) := by
  unfold QR.ring_Keepers.f hash_Key.f
  rw [if_pos hs, Option.bind_some, at_ok ho]
  rfl
theorem known_ev : Since (fun k => QR.icehouselaw09_known.f k) true := by
  have o1 : okB [7] 3 1 = true := by decide
  have o2 : okB [1, 2, 3] 2 3 = true := by decide
  have o3 : okB [] 0 0 = false := by decide
  have hs : (⟨#[107]⟩ : ByteArray).size ≤ 140737488351232 := by decide
  have e1 : keepR [7] 3 (keyH ⟨#[107]⟩) (1 : Int).toNat = [7] := by
    have hl := keepR_len o1 (keyH ⟨#[107]⟩) 1 (by simp)
    obtain ⟨x, hx⟩ := List.length_eq_one_iff.1 hl
    have hm := keepR_mem (l := [7]) (each := 3) (by omega) (h := keyH ⟨#[107]⟩) (k := 1) (x := x) (by rw [hx]; exact List.mem_singleton_self x)
    rw [show (1 : Int).toNat = 1 from rfl, hx, List.mem_singleton.1 hm]
  have e2 : (keepR [1, 2, 3] 2 (keyH ⟨#[107]⟩) 3).length = 3 := keepR_len o2 (keyH ⟨#[107]⟩) 3 (by simp)
  have hsame := same_ev [7] [7] (by simp)
  refine hsame.map fun k hk => ?_
  simp only [QR.icehouselaw09_known.f]
  rw [keepers_ok o1 _ hs, Option.bind_some, keepers_ok o2 _ hs, Option.bind_some, points_out o3, Option.bind_some]
  simp only
  rw [e1, hk]
  simp
  omega
theorem has_l0 (l : List Int) (x : Int) (hl : l.length ≤ 9223372036854775807) : ∀ (n i : Nat), l.length - i = n → i ≤ l.length →
    Since (fun k => icehouseref09_Has.l0 k l x (i : Int)) (decide (x ∈ l.drop i)) := by
  intro n
  induction n with
  | zero =>
    intro i hn hi
    have hf : ¬ ((i : Int) < (l.length : Int)) := by omega
    rw [List.drop_eq_nil_of_le (by omega)]
    exact Since.none fun k => by simp only [icehouseref09_Has.l0, if_neg hf]; rfl
  | succ n ih =>
    intro i hn hi
    have h1 : i < l.length := by omega
    have f1 : (i : Int) < (l.length : Int) := by omega
    have f0 : (0 : Int) ≤ (i : Int) := by omega
    have r1 : rd l (i : Int) = l[i] := by simp [rd, h1]
    have d := List.drop_eq_getElem_cons h1
    by_cases he : l[i] = x
    · refine Since.none fun k => ?_
      simp only [icehouseref09_Has.l0, if_pos f1, if_pos f0, r1, if_pos he]
      congr 1
      exact (decide_eq_true (by rw [d, he]; exact List.mem_cons_self)).symm
    · refine Since.one (ih (i + 1) (by omega) (by omega)) fun k h => ?_
      simp only [icehouseref09_Has.l0, if_pos f1, if_pos f0, r1, if_neg he, w_succ' i (by omega)]
      rw [h]
      congr 1
      refine decide_eq_decide.2 ?_
      rw [d, List.mem_cons]
      exact ⟨.inr, fun h => h.resolve_left (fun e => he e.symm)⟩
theorem has_ev (l : List Int) (x : Int) (hl : l.length ≤ 9223372036854775807) : Since (fun k => icehouseref09_Has.f k l x) (decide (x ∈ l)) := by
  have := has_l0 l x hl _ 0 rfl (Nat.zero_le _)
  rw [List.drop_zero] at this
  exact this
/-- is more looked at than is looked at? -/
def longB (l : List Int) (each : Int) : Bool := decide ((l.length : Int) > 12) || (decide (wrap64 ((l.length : Int) * each) > 60) && decide (each > 0))
theorem long_f (l : List Int) (each keep : Int) : icehouselaw09_long.f l each keep = some (longB l each) := by
  unfold icehouselaw09_long.f longB
  by_cases h1 : (l.length : Int) > 12
  · simp [h1]
  · by_cases h2 : wrap64 ((l.length : Int) * each) > 60
    · simp [h1, h2]
    · simp [h1, h2]
end Go.Proofs.Ytdfjeanlhafipaa.Hs
namespace Go.Proofs.Ytdfjeanlhafipaa.Hs
open Go.RowKit Go.Proofs.Ytdfjeanlhafipaa.QH Go.Proofs.Ytdfjeanlhafipaa.Lex Go.Proofs.Ytdfjeanlhafipaa.Rg
open Go.Proofs.YtdfjeanlhafipaaW.PrintWords Go.Proofs.YtdfjeanlhafipaaW.PrintLast Go.Proofs.YtdfjeanlhafipaaW.PrintMore
set_option linter.unusedVariables false
set_option linter.unusedSimpArgs false
theorem rfirst_l0 (q : List S51) (h : Int) (hl : q.length ≤ 9223372036854775807) : ∀ (n i : Nat), q.length - i = n → i ≤ q.length →
    Since (fun k => icehouseref09_First.l0 k q h (i : Int)) ((if i + ((q.drop i).takeWhile fun p => decide (p.f0 < h)).length < q.length then i + ((q.drop i).takeWhile fun p => decide (p.f0 < h)).length else 0 : Nat) : Int) := by
  intro n
  induction n with
  | zero =>
    intro i hn hi
    have hf : ¬ ((i : Int) < (q.length : Int)) := by omega
    rw [List.drop_eq_nil_of_le (by omega)]
    refine Since.none fun k => ?_
    simp only [icehouseref09_First.l0, if_neg hf]
    rw [if_neg (by simp; omega)]
    rfl
  | succ n ih =>
    intro i hn hi
    have h1 : i < q.length := by omega
    have f1 : (i : Int) < (q.length : Int) := by omega
    have f0 : (0 : Int) ≤ (i : Int) := by omega
    have r1 : rd_T51 q (i : Int) = q[i] := by unfold rd_T51; rw [show (i : Int).toNat = i from rfl]; simp [h1]
    rw [List.drop_eq_getElem_cons h1]
    by_cases c1 : q[i].f0 ≥ h
    · refine Since.none fun k => ?_
      simp only [icehouseref09_First.l0, if_pos f1, if_pos f0, r1, if_pos c1]
      rw [List.takeWhile_cons_of_neg (by simpa using c1), List.length_nil, Nat.add_zero, if_pos h1]
    · refine Since.one (ih (i + 1) (by omega) (by omega)) fun k hk => ?_
      simp only [icehouseref09_First.l0, if_pos f1, if_pos f0, r1, if_neg c1, w_succ' i (by omega)]
      rw [hk, List.takeWhile_cons_of_pos (by simp; omega), List.length_cons]
      congr 2
      rw [show i + (((q.drop (i + 1)).takeWhile fun p => decide (p.f0 < h)).length + 1) = i + 1 + ((q.drop (i + 1)).takeWhile fun p => decide (p.f0 < h)).length by omega]
theorem tw_le {α : Type} (p : α → Bool) : ∀ l : List α, (l.takeWhile p).length ≤ l.length
  | [] => Nat.le_refl _
  | x :: l => by
    have := tw_le p l
    cases h : p x
    · rw [List.takeWhile_cons_of_neg (by rw [h]; decide)]; exact Nat.zero_le _
    · rw [List.takeWhile_cons_of_pos h, List.length_cons, List.length_cons]; omega
theorem rfirst_ev {l : List Int} {each keep : Int} (ho : okB l each keep = true) (h : Int) : Since (fun k => icehouseref09_First.f k (ptsP l each) h) ((firstL (ptsP l each) h : Nat) : Int) := by
  have hsm := rawP_small ho
  have hlt := firstL_lt ho h
  have h1 := rfirst_l0 (ptsP l each) h (by omega) _ 0 rfl (Nat.zero_le _)
  rw [List.drop_zero, Nat.zero_add] at h1
  have hle := tw_le (fun p : S51 => decide (p.f0 < h)) (ptsP l each)
  have e : (if ((ptsP l each).takeWhile fun p => decide (p.f0 < h)).length < (ptsP l each).length then ((ptsP l each).takeWhile fun p => decide (p.f0 < h)).length else 0) = firstL (ptsP l each) h := by
    unfold firstL
    split
    · rename_i h'; exact (Nat.mod_eq_of_lt h').symm
    · rename_i h'
      rw [show ((ptsP l each).takeWhile fun p => decide (p.f0 < h)).length = (ptsP l each).length by omega, Nat.mod_self]
  rw [e] at h1
  exact h1
theorem rat_l0 (l0 : List Int) (each : Int) (q : List S51) (i0 keep : Nat) (hi0 : i0 < q.length) (hq : q.length ≤ 4096) (R : List Int) (hR : R.length = keep) : ∀ (n t : Nat) (out : List Int), q.length - t = n → t ≤ q.length → out.length ≤ t → out.length < keep → Rg.meetS keep out ((rotL q i0).drop t) = R →
    Since (fun k => icehouseref09_At.l0 k q (((i0 + t) % q.length : Nat) : Int) out l0 each (keep : Int)) R := by
  intro n
  induction n with
  | zero =>
    intro t out hn ht hot hok hm
    rw [List.drop_eq_nil_of_le (by rw [rotL_len q i0 (by omega)]; omega)] at hm
    have : out = R := hm
    rw [this] at hok
    omega
  | succ n ih =>
    intro t out hn ht hot hok hm
    have h1 : t < q.length := by omega
    have hmod : (i0 + t) % q.length < q.length := Nat.mod_lt _ (by omega)
    have g1 : (out.length : Int) < (keep : Int) := by omega
    have g2 : (0 : Int) ≤ (((i0 + t) % q.length : Nat) : Int) := by omega
    have g3 : (((i0 + t) % q.length : Nat) : Int) < (q.length : Int) := by omega
    have g4 : ¬ ((q.length : Int) = 0) := by omega
    have r1 : rd_T51 q (((i0 + t) % q.length : Nat) : Int) = q[(i0 + t) % q.length] := by unfold rd_T51; rw [Int.toNat_natCast]; simp [hmod]
    have hw : Int.tmod (wrap64 ((((i0 + t) % q.length : Nat) : Int) + 1)) (q.length : Int) = (((i0 + (t + 1)) % q.length : Nat) : Int) := by
      rw [w_succ' _ (by omega), Int.tmod_eq_emod_of_nonneg (by omega)]
      have e : ((i0 + t) % q.length + 1) % q.length = (i0 + (t + 1)) % q.length := by
        rw [Nat.mod_add_mod, Nat.add_assoc]
      rw [← e]
      omega
    have hx := rotL_at q i0 t hi0 h1
    rw [List.drop_eq_getElem_cons (by rw [rotL_len q i0 (by omega)]; exact h1), hx] at hm
    unfold Rg.meetS at hm
    by_cases hin : (q[(i0 + t) % q.length]).f1 ∈ out
    · rw [if_pos hin] at hm
      refine Since.two (ih (t + 1) out (by omega) (by omega) (by omega) hok hm) (has_ev out (q[(i0 + t) % q.length]).f1 (by omega)) fun k hk hh => ?_
      simp only [icehouseref09_At.l0, if_pos g1, if_pos g2, if_pos g3, r1]
      rw [hh, Option.bind_some, decide_eq_true hin, if_pos rfl, if_neg g4, hw]
      exact hk
    · rw [if_neg hin] at hm
      have hlen : (out ++ [(q[(i0 + t) % q.length]).f1]).length = out.length + 1 := by rw [List.length_append]; rfl
      by_cases hk1 : out.length + 1 = keep
      · rw [if_pos hk1] at hm
        have hstop : Since (fun k => icehouseref09_At.l0 k q (((i0 + (t + 1)) % q.length : Nat) : Int) (out ++ [(q[(i0 + t) % q.length]).f1]) l0 each (keep : Int)) R := by
          refine Since.none fun k => ?_
          simp only [icehouseref09_At.l0]
          rw [if_neg (by rw [hlen]; omega), hm]
        refine Since.two hstop (has_ev out (q[(i0 + t) % q.length]).f1 (by omega)) fun k hk hh => ?_
        simp only [icehouseref09_At.l0, if_pos g1, if_pos g2, if_pos g3, r1]
        rw [hh, Option.bind_some, decide_eq_false hin, if_neg (by decide), if_pos (by omega), if_neg g4, hw]
        exact hk
      · rw [if_neg hk1] at hm
        refine Since.two (ih (t + 1) (out ++ [(q[(i0 + t) % q.length]).f1]) (by omega) (by omega) (by rw [hlen]; omega) (by rw [hlen]; omega) hm) (has_ev out (q[(i0 + t) % q.length]).f1 (by omega)) fun k hk hh => ?_
        simp only [icehouseref09_At.l0, if_pos g1, if_pos g2, if_pos g3, r1]
        rw [hh, Option.bind_some, decide_eq_false hin, if_neg (by decide), if_pos (by omega), if_neg g4, hw]
        exact hk
theorem rat_ev {l : List Int} {each keep : Int} (ho : okB l each keep = true) (h : Int) : Since (fun k => icehouseref09_At.f k l each keep h) (keepR l each h keep.toNat) := by
  obtain ⟨k0, k1, k2, k3, k4, k5, _⟩ := okB_len ho
  have hsm := rawP_small ho
  have hlt := firstL_lt ho h
  have hR := keepR_len ho h keep.toNat (by omega)
  have hm : Rg.meetS keep.toNat [] ((rotL (ptsP l each) (firstL (ptsP l each) h)).drop 0) = keepR l each h keep.toNat := by
    rw [List.drop_zero, rotL_eq, meetS_all (by omega)]
    rfl
  have h1 := rat_l0 l each (ptsP l each) (firstL (ptsP l each) h) keep.toNat hlt hsm _ hR _ 0 [] rfl (Nat.zero_le _) (Nat.le_refl _) (by show 0 < keep.toNat; omega) hm
  rw [Nat.add_zero, Nat.mod_eq_of_lt hlt, show ((keep.toNat : Nat) : Int) = keep by omega] at h1
  refine ((rpoints_ev ho).and (rfirst_ev ho h) (q := (ptsP l each, ((firstL (ptsP l each) h : Nat) : Int))) (F := fun k => (icehouseref09_Points.f k l each keep).bind fun p => (icehouseref09_First.f k p h).bind fun f => some (p, f)) (fun k a b => by simp only [a, Option.bind_some, b])).and h1 fun k a b => ?_
  obtain ⟨p, hp, hh⟩ := Option.bind_eq_some_iff.1 a
  obtain ⟨f, hf, hh⟩ := Option.bind_eq_some_iff.1 hh
  have hh := Option.some.inj hh
  injection hh with e1 e2
  subst e1; subst e2
  simp only [icehouseref09_At.f]
  rw [hp, Option.bind_some, hf, Option.bind_some]
  exact b
end Go.Proofs.Ytdfjeanlhafipaa.Hs
namespace Go.Proofs.Ytdfjeanlhafipaa.Hs
open Go.RowKit Go.Proofs.Ytdfjeanlhafipaa.QH Go.Proofs.Ytdfjeanlhafipaa.Lex Go.Proofs.Ytdfjeanlhafipaa.Rg
open Go.Proofs.YtdfjeanlhafipaaW.PrintWords Go.Proofs.YtdfjeanlhafipaaW.PrintLast Go.Proofs.YtdfjeanlhafipaaW.PrintMore
set_option linter.unusedVariables false
set_option linter.unusedSimpArgs false
def listsP (l : List Int) (each keep : Int) : List (List Int) := (ptsP l each).map fun p => keepR l each p.f0 keep.toNat
theorem lists_l0 {l : List Int} {each keep : Int} (ho : okB l each keep = true) : ∀ (n i : Nat) (acc : List (List Int)), (ptsP l each).length - i = n → i ≤ (ptsP l each).length → acc.length = i →
    Since (fun k => QR.ring_Lists.l0 k (ptsP l each) 0 acc (ptsP l each) ((ptsP l each).length : Int) (i : Int) l each keep) (acc ++ ((ptsP l each).drop i).map fun p => keepR l each p.f0 keep.toNat, 0) := by
  have hsm := rawP_small ho
  intro n
  induction n with
  | zero =>
    intro i acc hn hi ha
    have hf : ¬ ((i : Int) < ((ptsP l each).length : Int)) := by omega
    rw [List.drop_eq_nil_of_le (by omega)]
    exact Since.none fun k => by simp only [QR.ring_Lists.l0, if_neg hf, List.map_nil, List.append_nil]
  | succ n ih =>
    intro i acc hn hi ha
    have h1 : i < (ptsP l each).length := by omega
    have f1 : (i : Int) < ((ptsP l each).length : Int) := by omega
    have f0 : (0 : Int) ≤ (i : Int) := by omega
    have r1 : QH.rd_T51 (ptsP l each) (i : Int) = (ptsP l each)[i] := by unfold QH.rd_T51; rw [show (i : Int).toNat = i from rfl]; simp [h1]
    refine Since.one (ih (i + 1) (acc ++ [keepR l each (ptsP l each)[i].f0 keep.toNat]) (by omega) (by omega) (by rw [List.length_append, ha]; rfl)) fun k hk => ?_
    simp only [QR.ring_Lists.l0, if_pos f1, if_pos f0, r1, first_at ho, meet_at ho, Option.bind_some, w_succ' i (by omega)]
    rw [if_pos (by omega), hk, List.drop_eq_getElem_cons h1, List.map_cons, List.append_assoc]
    rfl
theorem lists_ok {l : List Int} {each keep : Int} (ho : okB l each keep = true) : Since (fun k => QR.ring_Lists.f k l each keep) (listsP l each keep, 0) := by
  have h := lists_l0 ho _ 0 [] rfl (Nat.zero_le _) rfl
  rw [List.drop_zero, List.nil_append] at h
  refine h.map fun k hk => ?_
  simp only [QR.ring_Lists.f, points_at ho, Option.bind_some]
  exact hk
theorem lists_out {l : List Int} {each keep : Int} (ho : okB l each keep = false) : Since (fun k => QR.ring_Lists.f k l each keep) ([], 2) := by
  refine Since.none fun k => ?_
  simp only [QR.ring_Lists.f, points_out ho, Option.bind_some, QR.ring_Lists.l0]
  rfl
theorem rlists_l0 {l : List Int} {each keep : Int} (ho : okB l each keep = true) : ∀ (n i : Nat) (acc : List (List Int)), (ptsP l each).length - i = n → i ≤ (ptsP l each).length → acc.length = i →
    Since (fun k => icehouseref09_Lists.l0 k (ptsP l each) acc (i : Int) l each keep) (acc ++ ((ptsP l each).drop i).map fun p => keepR l each p.f0 keep.toNat) := by
  have hsm := rawP_small ho
  intro n
  induction n with
  | zero =>
    intro i acc hn hi ha
    have hf : ¬ ((i : Int) < ((ptsP l each).length : Int)) := by omega
    rw [List.drop_eq_nil_of_le (by omega)]
    exact Since.none fun k => by simp only [icehouseref09_Lists.l0, if_neg hf, List.map_nil, List.append_nil]
  | succ n ih =>
    intro i acc hn hi ha
    have h1 : i < (ptsP l each).length := by omega
    have f1 : (i : Int) < ((ptsP l each).length : Int) := by omega
    have f0 : (0 : Int) ≤ (i : Int) := by omega
    have r1 : QH.rd_T51 (ptsP l each) (i : Int) = (ptsP l each)[i] := by unfold QH.rd_T51; rw [show (i : Int).toNat = i from rfl]; simp [h1]
    refine Since.two (ih (i + 1) (acc ++ [keepR l each (ptsP l each)[i].f0 keep.toNat]) (by omega) (by omega) (by rw [List.length_append, ha]; rfl)) (rat_ev ho (ptsP l each)[i].f0) fun k hk ha => ?_
    simp only [icehouseref09_Lists.l0, if_pos f1, if_pos f0, r1, w_succ' i (by omega)]
    rw [ha, Option.bind_some, if_pos (by omega), hk, List.drop_eq_getElem_cons h1, List.map_cons, List.append_assoc]
    rfl
theorem rlists_ev {l : List Int} {each keep : Int} (ho : okB l each keep = true) : Since (fun k => icehouseref09_Lists.f k l each keep) (listsP l each keep) := by
  have h := rlists_l0 ho _ 0 [] rfl (Nat.zero_le _) rfl
  rw [List.drop_zero, List.nil_append] at h
  refine (rpoints_ev ho).and h fun k hp hk => ?_
  simp only [icehouseref09_Lists.f]
  rw [hp, Option.bind_some]
  exact hk
theorem slists_l0 (L : List (List Int)) (hL : ∀ x ∈ L, x.length ≤ 9223372036854775807) (hl : L.length ≤ 9223372036854775807) : ∀ (n i : Nat), L.length - i = n → i ≤ L.length →
    Since (fun k => icehouseref09_SameLists.l0 k L L (i : Int)) true := by
  intro n
  induction n with
  | zero =>
    intro i hn hi
    have hf : ¬ ((i : Int) < (L.length : Int)) := by omega
    exact Since.none fun k => by simp only [icehouseref09_SameLists.l0, if_neg hf]
  | succ n ih =>
    intro i hn hi
    have h1 : i < L.length := by omega
    have f1 : (i : Int) < (L.length : Int) := by omega
    have f0 : (0 : Int) ≤ (i : Int) := by omega
    have r1 : QH.rd_L4 L (i : Int) = L[i] := by unfold QH.rd_L4; rw [show (i : Int).toNat = i from rfl]; simp [h1]
    have hs := same_ev L[i] L[i] (hL _ (List.getElem_mem h1))
    rw [decide_eq_true rfl] at hs
    refine Since.two (ih (i + 1) (by omega) (by omega)) hs fun k hk hs => ?_
    simp only [icehouseref09_SameLists.l0, if_pos f1, if_pos f0, r1, w_succ' i (by omega)]
    rw [hs, Option.bind_some, if_pos rfl]
    exact hk
theorem slists_ev (L : List (List Int)) (hL : ∀ x ∈ L, x.length ≤ 9223372036854775807) (hl : L.length ≤ 9223372036854775807) : Since (fun k => icehouseref09_SameLists.f k L L) true := by
  have h := slists_l0 L hL hl _ 0 rfl (Nat.zero_le _)
  refine h.map fun k hk => ?_
  simp only [icehouseref09_SameLists.f, if_true]
  exact hk
end Go.Proofs.Ytdfjeanlhafipaa.Hs
namespace Go.Proofs.Ytdfjeanlhafipaa.QO
open Go.Proofs.Ytdfjeanlhafipaa.QH
open Go.RowKit Go.Proofs.YtdfjeanlhafipaaW.PrintWords Go.Proofs.YtdfjeanlhafipaaW.PrintLast Go.Proofs.YtdfjeanlhafipaaW.PrintMore
attribute [local go_sem] max2_int min2_int max_two min_two max_three min_three max_four min_four   -- for this text's walks alone
set_option linter.unusedVariables false
set_option linter.unusedSimpArgs false



-- the values' own types
/-! #### struct type 51 -/
end Go.Proofs.Ytdfjeanlhafipaa.QO
namespace Go.Proofs.Ytdfjeanlhafipaa.QO
open Go.Proofs.Ytdfjeanlhafipaa.QH
open Go.RowKit Go.Proofs.YtdfjeanlhafipaaW.PrintWords Go.Proofs.YtdfjeanlhafipaaW.PrintLast Go.Proofs.YtdfjeanlhafipaaW.PrintMore
attribute [local go_sem] max2_int min2_int max_two min_two max_three min_three max_four min_four   -- for this text's walks alone
set_option linter.unusedVariables false
set_option linter.unusedSimpArgs false
theorem eqA51 (d : Nat) (w : World) (x0 y0 : Int) (x1 y1 : Int) :
    (Op.equalIn (d + 2) 51 (.agg #[.int .u64 x0, .int .i64 x1]) (.agg #[.int .u64 y0, .int .i64 y1])).run Try.prog w = .ok (x0 == y0 && (x1 == y1)) w := by
  refine eqA_of Try.underlying51 (by kernel_rfl) ?_
  refine eqf_cons (by rfl) (by go_simp; rfl) (by go_simp; rfl) (by go_simp) ?_
  exact eqf_last (by rfl) (by go_simp; rfl) (by go_simp; rfl) (by go_simp)
end Go.Proofs.Ytdfjeanlhafipaa.QO
namespace Go.Proofs.Ytdfjeanlhafipaa.QO
open Go.Proofs.Ytdfjeanlhafipaa.QH
open Go.RowKit Go.Proofs.YtdfjeanlhafipaaW.PrintWords Go.Proofs.YtdfjeanlhafipaaW.PrintLast Go.Proofs.YtdfjeanlhafipaaW.PrintMore
attribute [local go_sem] max2_int min2_int max_two min_two max_three min_three max_four min_four   -- for this text's walks alone
set_option linter.unusedVariables false
set_option linter.unusedSimpArgs false
attribute [local go_sem high] eqA51
/-! ### icehouselaw09_RingPoints: function 5 -/
mutual
def icehouselaw09_RingPoints.j0 : Nat → Bool → List Int → Int → Int → Option (Bool)
  | 0, _, _, _, _ => none
  | k + 1, x20, x102000, x102001, x102002 => if x20 = true then ((QR.icehouselaw09_known.f k).bind fun t103 => (some t103)) else ((Hs.ring_Points.f x102000 x102001 x102002).bind fun bt104 => ((QR.ring_Lists.f k x102000 x102001 x102002).bind fun bt108 => ((QH.icehouseref09_Check.f k x102000 x102001 x102002).bind fun t112 => (if bt104.2 = t112 then (icehouselaw09_RingPoints.j1 k bt104.1 bt108.1 t112 (bt108.2 != t112) x102000 x102001 x102002) else (icehouselaw09_RingPoints.j1 k bt104.1 bt108.1 t112 true x102000 x102001 x102002)))))
def icehouselaw09_RingPoints.j1 : Nat → List (S51) → List (List Int) → Int → Bool → List Int → Int → Int → Option (Bool)
  | 0, _, _, _, _, _, _, _ => none
  | k + 1, x3, x5, x7, x41, x102000, x102001, x102002 => if x41 = true then (some false) else (if x7 = 0 then ((QH.icehouseref09_Points.f k x102000 x102001 x102002).bind fun t114 => (if (x3.length : Int) = (t114.length : Int) then (icehouselaw09_RingPoints.l0 k x3 x5 t114 0 x102000 x102001 x102002) else (some false))) else (if (wrap64 ((x3.length : Int) + (x5.length : Int))) = 0 then ((QR.icehouselaw09_known.f k).bind fun t113 => (some t113)) else (some false)))
def icehouselaw09_RingPoints.l0 : Nat → List (S51) → List (List Int) → List (S51) → Int → List Int → Int → Int → Option (Bool)
  | 0, _, _, _, _, _, _, _ => none
  | k + 1, x3, x5, x8, x9, x102000, x102001, x102002 => if x9 < (x3.length : Int) then (if 0 ≤ x9 then (if x9 < (x8.length : Int) then (if (!(((rd_T51 x3 x9).f0) == ((rd_T51 x8 x9).f0)) || (!(((rd_T51 x3 x9).f1) == ((rd_T51 x8 x9).f1)))) = true then (some false) else (icehouselaw09_RingPoints.l0 k x3 x5 x8 (wrap64 (x9 + 1)) x102000 x102001 x102002)) else (none)) else (none)) else ((QH.icehouseref09_Lists.f k x102000 x102001 x102002).bind fun t119 => ((QH.icehouseref09_SameLists.f k x5 t119).bind fun t122 => (if t122 = true then ((QR.icehouselaw09_known.f k).bind fun t123 => (some t123)) else (some false))))
end
def icehouselaw09_RingPoints.f (k : Nat) (l0_0 : List Int) (a0_1 : Int) (a0_2 : Int) : Option (Bool) := (QH.icehouselaw09_long.f l0_0 a0_1 a0_2).bind fun t102 => (if t102 = true then (icehouselaw09_RingPoints.j0 k true l0_0 a0_1 a0_2) else (icehouselaw09_RingPoints.j0 k (decide ((wrap64 ((l0_0.length : Int) * a0_1)) > 30)) l0_0 a0_1 a0_2))
theorem icehouselaw09_RingPoints.mono_l : ∀ k, (∀ y0 y1 y2 y3, LeO (icehouselaw09_RingPoints.j0 k y0 y1 y2 y3) (icehouselaw09_RingPoints.j0 (k + 1) y0 y1 y2 y3)) ∧ (∀ y0 y1 y2 y3 y4 y5 y6, LeO (icehouselaw09_RingPoints.j1 k y0 y1 y2 y3 y4 y5 y6) (icehouselaw09_RingPoints.j1 (k + 1) y0 y1 y2 y3 y4 y5 y6)) ∧ (∀ y0 y1 y2 y3 y4 y5 y6, LeO (icehouselaw09_RingPoints.l0 k y0 y1 y2 y3 y4 y5 y6) (icehouselaw09_RingPoints.l0 (k + 1) y0 y1 y2 y3 y4 y5 y6))
  | 0 => ⟨fun _ _ _ _ r h => by simp [icehouselaw09_RingPoints.j0] at h, fun _ _ _ _ _ _ _ r h => by simp [icehouselaw09_RingPoints.j1] at h, fun _ _ _ _ _ _ _ r h => by simp [icehouselaw09_RingPoints.l0] at h⟩
  | k + 1 => by
    obtain ⟨ih0, ih1, ih2⟩ := icehouselaw09_RingPoints.mono_l k
    refine ⟨?_, ?_, ?_⟩
    · intro y0 y1 y2 y3
      unfold icehouselaw09_RingPoints.j0
      repeat' first
      | (with_reducible exact ih0 _ _ _ _)
      | (with_reducible exact ih1 _ _ _ _ _ _ _)
      | (with_reducible exact ih2 _ _ _ _ _ _ _)
      | (with_reducible exact QH.icehouseref09_Check.mono _ _ _ _)
      | (with_reducible exact QH.icehouseref09_Lists.mono _ _ _ _)
      | (with_reducible exact QH.icehouseref09_Points.mono _ _ _ _)
      | (with_reducible exact QH.icehouseref09_SameLists.mono _ _ _)
      | (with_reducible exact QR.icehouselaw09_known.mono _)
      | (with_reducible exact QR.ring_Lists.mono _ _ _ _)
      | (with_reducible exact LeO.refl _)
      | (with_reducible exact LeO.none _)
      | (with_reducible refine LeO.ite ?_ ?_)
      | (with_reducible refine LeO.bind ?_ (fun _ => ?_))
      | exact ih0 _ _ _ _
      | exact ih1 _ _ _ _ _ _ _
      | exact ih2 _ _ _ _ _ _ _
      | exact QH.icehouseref09_Check.mono _ _ _ _
      | exact QH.icehouseref09_Lists.mono _ _ _ _
      | exact QH.icehouseref09_Points.mono _ _ _ _
      | exact QH.icehouseref09_SameLists.mono _ _ _
      | exact QR.icehouselaw09_known.mono _
      | exact QR.ring_Lists.mono _ _ _ _
      | exact LeO.none _
      | refine LeO.ite ?_ ?_
      | refine LeO.bind ?_ (fun _ => ?_)
    · intro y0 y1 y2 y3 y4 y5 y6
      unfold icehouselaw09_RingPoints.j1
      repeat' first
      | (with_reducible exact ih0 _ _ _ _)
      | (with_reducible exact ih1 _ _ _ _ _ _ _)
      | (with_reducible exact ih2 _ _ _ _ _ _ _)
      | (with_reducible exact QH.icehouseref09_Check.mono _ _ _ _)
      | (with_reducible exact QH.icehouseref09_Lists.mono _ _ _ _)
      | (with_reducible exact QH.icehouseref09_Points.mono _ _ _ _)
      | (with_reducible exact QH.icehouseref09_SameLists.mono _ _ _)
      | (with_reducible exact QR.icehouselaw09_known.mono _)
      | (with_reducible exact QR.ring_Lists.mono _ _ _ _)
      | (with_reducible exact LeO.refl _)
      | (with_reducible exact LeO.none _)
      | (with_reducible refine LeO.ite ?_ ?_)
      | (with_reducible refine LeO.bind ?_ (fun _ => ?_))
      | exact ih0 _ _ _ _
      | exact ih1 _ _ _ _ _ _ _
      | exact ih2 _ _ _ _ _ _ _
      | exact QH.icehouseref09_Check.mono _ _ _ _
      | exact QH.icehouseref09_Lists.mono _ _ _ _
      | exact QH.icehouseref09_Points.mono _ _ _ _
      | exact QH.icehouseref09_SameLists.mono _ _ _
      | exact QR.icehouselaw09_known.mono _
      | exact QR.ring_Lists.mono _ _ _ _
      | exact LeO.none _
      | refine LeO.ite ?_ ?_
      | refine LeO.bind ?_ (fun _ => ?_)
    · intro y0 y1 y2 y3 y4 y5 y6
      unfold icehouselaw09_RingPoints.l0
      repeat' first
      | (with_reducible exact ih0 _ _ _ _)
      | (with_reducible exact ih1 _ _ _ _ _ _ _)
      | (with_reducible exact ih2 _ _ _ _ _ _ _)
      | (with_reducible exact QH.icehouseref09_Check.mono _ _ _ _)
      | (with_reducible exact QH.icehouseref09_Lists.mono _ _ _ _)
      | (with_reducible exact QH.icehouseref09_Points.mono _ _ _ _)
      | (with_reducible exact QH.icehouseref09_SameLists.mono _ _ _)
      | (with_reducible exact QR.icehouselaw09_known.mono _)
      | (with_reducible exact QR.ring_Lists.mono _ _ _ _)
      | (with_reducible exact LeO.refl _)
      | (with_reducible exact LeO.none _)
      | (with_reducible refine LeO.ite ?_ ?_)
      | (with_reducible refine LeO.bind ?_ (fun _ => ?_))
      | exact ih0 _ _ _ _
      | exact ih1 _ _ _ _ _ _ _
      | exact ih2 _ _ _ _ _ _ _
      | exact QH.icehouseref09_Check.mono _ _ _ _
      | exact QH.icehouseref09_Lists.mono _ _ _ _
      | exact QH.icehouseref09_Points.mono _ _ _ _
      | exact QH.icehouseref09_SameLists.mono _ _ _
      | exact QR.icehouselaw09_known.mono _
      | exact QR.ring_Lists.mono _ _ _ _
      | exact LeO.none _
      | refine LeO.ite ?_ ?_
      | refine LeO.bind ?_ (fun _ => ?_)
set_option maxHeartbeats 8000000 in
set_option maxRecDepth 100000 in
theorem icehouselaw09_RingPoints.calls (k : Nat) (A0_0 : Option Addr) (c0_0 : Nat) (l0_0 : List Int) (a0_1 : Int) (a0_2 : Int) (r : Bool) (w : World) (hr0_0 : Kd.C (Kd.int .i64) w A0_0 l0_0.length l0_0) (hc0_0 : l0_0.length ≤ c0_0) (h : icehouselaw09_RingPoints.f k l0_0 a0_1 a0_2 = some r) :
    Calls Try.prog 5 #[.agg #[.slice A0_0 l0_0.length c0_0, .int .i64 a0_1, .int .i64 a0_2]] w fun e w' => e = .returned (.bool r) ∧ Below w.heap.size w w' := by
  have hu24 := Try.underlying24
  have hu51 := Try.underlying51
  have HR0_0 := Aside0.mk hr0_0
  have HC0_0 := Aside0.mk hc0_0
  clear hr0_0 hc0_0
  have HB := Aside0.mk (Below.refl w.heap.size w)
  have H : ((QH.icehouselaw09_long.f l0_0 a0_1 a0_2).bind fun t102 => (if t102 = true then (icehouselaw09_RingPoints.j0 k true l0_0 a0_1 a0_2) else (icehouselaw09_RingPoints.j0 k (decide ((wrap64 ((l0_0.length : Int) * a0_1)) > 30)) l0_0 a0_1 a0_2))) = some r := h
  clear h
  have HC2 := Aside0.mk H
  clear H
  go_enter Try.func5, Try.ntmps5
  go_upto_region 1 with (first | ((with_reducible refine gate_dst (N := 1) rfl ?_); (try (refine gate_guard (by rfl) ?_; dsimp only)); refine box_event ?hg (N := 1) ?hd (cs := #[.slice A0_0 l0_0.length c0_0, .int .i64 a0_1, .int .i64 a0_2]) (t := 24) ?hr ?_; (case hd => rfl); (case hg => rfl); (case hr => first | (go_simp; done) | (go_simp; rfl)); intro gb101 hg w3 hbox hb; have n0_ := Aside0.mk (below_step (by repeat (first | (with_reducible first | exact HB.out | apply below_alloc | apply pw_below_drewN | apply below_drew1) | exact HB.out)) hb); have n1_ := Aside0.mk (hbox); have n2_ := Aside0.mk ((by rw [hg]; exact (below_size (by repeat (first | (with_reducible first | exact HB.out | apply below_alloc | apply pw_below_drewN | apply below_drew1) | exact HB.out))) : w.heap.size ≤ gb101)); have n3_ := Aside0.mk ((by rw [hg]; exact (below_size (by repeat (first | (with_reducible first | exact HB.out | apply below_alloc | apply pw_below_drewN | apply below_drew1) | exact HB.out))) : w.heap.size ≤ gb101)); clear HB; have HB := n0_; have BK101 := n1_; have GW101 := n2_; have GE101 := n3_; clear n0_ n1_ n2_ n3_; clear hb hbox hg))
  repeat (go_quiet (first | ((with_reducible refine gate_dst (N := 1) rfl ?_); (try (refine gate_guard (by rfl) ?_; dsimp only)); refine box_event ?hg (N := 1) ?hd (cs := #[.slice A0_0 l0_0.length c0_0, .int .i64 a0_1, .int .i64 a0_2]) (t := 24) ?hr ?_; (case hd => rfl); (case hg => rfl); (case hr => first | (go_simp; done) | (go_simp; rfl)); intro gb101 hg w3 hbox hb; have n0_ := Aside0.mk (below_step (by repeat (first | (with_reducible first | exact HB.out | apply below_alloc | apply pw_below_drewN | apply below_drew1) | exact HB.out)) hb); have n1_ := Aside0.mk (hbox); have n2_ := Aside0.mk ((by rw [hg]; exact (below_size (by repeat (first | (with_reducible first | exact HB.out | apply below_alloc | apply pw_below_drewN | apply below_drew1) | exact HB.out))) : w.heap.size ≤ gb101)); have n3_ := Aside0.mk ((by rw [hg]; exact (below_size (by repeat (first | (with_reducible first | exact HB.out | apply below_alloc | apply pw_below_drewN | apply below_drew1) | exact HB.out))) : w.heap.size ≤ gb101)); clear HB; have HB := n0_; have BK101 := n1_; have GW101 := n2_; have GE101 := n3_; clear n0_ n1_ n2_ n3_; clear hb hbox hg)); go_upto_region 1 with (first | ((with_reducible refine gate_dst (N := 1) rfl ?_); (try (refine gate_guard (by rfl) ?_; dsimp only)); refine box_event ?hg (N := 1) ?hd (cs := #[.slice A0_0 l0_0.length c0_0, .int .i64 a0_1, .int .i64 a0_2]) (t := 24) ?hr ?_; (case hd => rfl); (case hg => rfl); (case hr => first | (go_simp; done) | (go_simp; rfl)); intro gb101 hg w3 hbox hb; have n0_ := Aside0.mk (below_step (by repeat (first | (with_reducible first | exact HB.out | apply below_alloc | apply pw_below_drewN | apply below_drew1) | exact HB.out)) hb); have n1_ := Aside0.mk (hbox); have n2_ := Aside0.mk ((by rw [hg]; exact (below_size (by repeat (first | (with_reducible first | exact HB.out | apply below_alloc | apply pw_below_drewN | apply below_drew1) | exact HB.out))) : w.heap.size ≤ gb101)); have n3_ := Aside0.mk ((by rw [hg]; exact (below_size (by repeat (first | (with_reducible first | exact HB.out | apply below_alloc | apply pw_below_drewN | apply below_drew1) | exact HB.out))) : w.heap.size ≤ gb101)); clear HB; have HB := n0_; have BK101 := n1_; have GW101 := n2_; have GE101 := n3_; clear n0_ n1_ n2_ n3_; clear hb hbox hg)))
  (try simp only [Act.put, List.setIfInBounds_toArray, List.set_cons_zero, List.set_cons_succ])
  go_cut [20] (fun v20 wc => ∃ (kq : Nat) (x20_1 : Bool), v20 = .bool x20_1 ∧ Aside0 (icehouselaw09_RingPoints.j0 kq x20_1 l0_0 a0_1 a0_2 = some r) ∧ Aside0 (kq ≤ k) ∧ Aside0 (wc.heap[gb101]? = some (.cells #[(.slice A0_0 l0_0.length c0_0), .int .i64 a0_1, .int .i64 a0_2] 24 (0, 0))) ∧ Aside0 (Below w.heap.size w wc))
  case first =>
    have H := HC2.out
    clear HC2
    replace H := Option.bind_eq_some_iff.mp H
    obtain ⟨t102, A40, H⟩ := H
    replace H : (if t102 = true then (icehouselaw09_RingPoints.j0 k true l0_0 a0_1 a0_2) else (icehouselaw09_RingPoints.j0 k (decide ((wrap64 ((l0_0.length : Int) * a0_1)) > 30)) l0_0 a0_1 a0_2)) = some r := H
    have A4 := Aside0.mk A40
    clear A40
    by_cases c5 : t102 = true
    · subst c5
      have H1 : (icehouselaw09_RingPoints.j0 k true l0_0 a0_1 a0_2) = some r := by rw [if_pos rfl] at H; exact H
      clear H
      have H := H1
      clear H1
      have H' := Aside0.mk H
      clear H
      have hcz6_0 : w3.cell? ⟨gb101, 0, none⟩ = some (.slice A0_0 l0_0.length c0_0) := (blk_cell BK101.out 0).trans rfl
      have hcz6_1 : w3.cell? ⟨gb101, 1, none⟩ = some (.int .i64 a0_1) := (blk_cell BK101.out 1).trans rfl
      have hcz6_2 : w3.cell? ⟨gb101, 2, none⟩ = some (.int .i64 a0_2) := (blk_cell BK101.out 2).trans rfl
      have hfz6_0 := blk_frozen BK101.out 0
      have hfz6_1 := blk_frozen BK101.out 1
      have hfz6_2 := blk_frozen BK101.out 2
      go_wp2_with (first | (go_at_call 10; (with_reducible refine (QH.icehouselaw09_long.calls _ _ l0_0 a0_1 a0_2 true _ ?side1 ?side2 A4.out).mono ?_); (case side1 => repeat (first | exact (Kd.C_below HR0_0.out HB.out) | (with_reducible refine Kd.C_alloc ?_ _) | (with_reducible refine Kd.C_drewN ?_ _) | (with_reducible refine Kd.C_drew ?_))); (case side2 => exact HC0_0.out); rintro e w7 ⟨rfl, hb⟩; have n0_ := Aside0.mk (blk_below (g := gb101) (o := .cells #[.slice A0_0 l0_0.length c0_0, .int .i64 a0_1, .int .i64 a0_2] 24 (0, 0)) (by (with_reducible repeat (first | refine blk_drewN ?_ _ | refine blk_drew ?_ | refine blk_alloc ?_ _)); exact BK101.out) hb); have n1_ := Aside0.mk (below_step (by repeat (first | (with_reducible first | exact HB.out | apply below_alloc | apply pw_below_drewN | apply below_drew1 | refine below_set ?_ GE101.out) | exact HB.out)) hb); clear BK101; clear HB; have BK101 := n0_; have HB := n1_; clear n0_ n1_; (try clear hb); (try clear hb2); (try clear hk); (try clear hi)))
      repeat (go_quiet (first | (go_at_call 10; (with_reducible refine (QH.icehouselaw09_long.calls _ _ l0_0 a0_1 a0_2 true _ ?side1 ?side2 A4.out).mono ?_); (case side1 => repeat (first | exact (Kd.C_below HR0_0.out HB.out) | (with_reducible refine Kd.C_alloc ?_ _) | (with_reducible refine Kd.C_drewN ?_ _) | (with_reducible refine Kd.C_drew ?_))); (case side2 => exact HC0_0.out); rintro e w7 ⟨rfl, hb⟩; have n0_ := Aside0.mk (blk_below (g := gb101) (o := .cells #[.slice A0_0 l0_0.length c0_0, .int .i64 a0_1, .int .i64 a0_2] 24 (0, 0)) (by (with_reducible repeat (first | refine blk_drewN ?_ _ | refine blk_drew ?_ | refine blk_alloc ?_ _)); exact BK101.out) hb); have n1_ := Aside0.mk (below_step (by repeat (first | (with_reducible first | exact HB.out | apply below_alloc | apply pw_below_drewN | apply below_drew1 | refine below_set ?_ GE101.out) | exact HB.out)) hb); clear BK101; clear HB; have BK101 := n0_; have HB := n1_; clear n0_ n1_; (try clear hb); (try clear hb2); (try clear hk); (try clear hi))); try go_wp2_with (first | (go_at_call 10; (with_reducible refine (QH.icehouselaw09_long.calls _ _ l0_0 a0_1 a0_2 true _ ?side1 ?side2 A4.out).mono ?_); (case side1 => repeat (first | exact (Kd.C_below HR0_0.out HB.out) | (with_reducible refine Kd.C_alloc ?_ _) | (with_reducible refine Kd.C_drewN ?_ _) | (with_reducible refine Kd.C_drew ?_))); (case side2 => exact HC0_0.out); rintro e w7 ⟨rfl, hb⟩; have n0_ := Aside0.mk (blk_below (g := gb101) (o := .cells #[.slice A0_0 l0_0.length c0_0, .int .i64 a0_1, .int .i64 a0_2] 24 (0, 0)) (by (with_reducible repeat (first | refine blk_drewN ?_ _ | refine blk_drew ?_ | refine blk_alloc ?_ _)); exact BK101.out) hb); have n1_ := Aside0.mk (below_step (by repeat (first | (with_reducible first | exact HB.out | apply below_alloc | apply pw_below_drewN | apply below_drew1 | refine below_set ?_ GE101.out) | exact HB.out)) hb); clear BK101; clear HB; have BK101 := n0_; have HB := n1_; clear n0_ n1_; (try clear hb); (try clear hb2); (try clear hk); (try clear hi))))
      go_meet
      case rel => exact ⟨_, (true), (by first | rfl | (simp; done) | (simp [*]; done)), H', ⟨by first | omega | exact Nat.le_refl _⟩, ⟨by (with_reducible repeat (first | refine blk_drewN ?_ _ | refine blk_drew ?_ | refine blk_alloc ?_ _)); exact BK101.out⟩, ⟨by repeat (first | (with_reducible first | exact HB.out | apply below_alloc | apply pw_below_drewN | apply below_drew1 | refine below_set ?_ GE101.out) | exact HB.out)⟩⟩
    · replace c5 := Bool.eq_false_iff.mpr c5
      subst c5
      have H1 : (icehouselaw09_RingPoints.j0 k (decide ((wrap64 ((l0_0.length : Int) * a0_1)) > 30)) l0_0 a0_1 a0_2) = some r := by rw [if_neg (show ¬ (false = true) by decide)] at H; exact H
      clear H
      have H := H1
      clear H1
      have H' := Aside0.mk H
      clear H
      have hcz8_0 : w3.cell? ⟨gb101, 0, none⟩ = some (.slice A0_0 l0_0.length c0_0) := (blk_cell BK101.out 0).trans rfl
      have hcz8_1 : w3.cell? ⟨gb101, 1, none⟩ = some (.int .i64 a0_1) := (blk_cell BK101.out 1).trans rfl
      have hcz8_2 : w3.cell? ⟨gb101, 2, none⟩ = some (.int .i64 a0_2) := (blk_cell BK101.out 2).trans rfl
      have hfz8_0 := blk_frozen BK101.out 0
      have hfz8_1 := blk_frozen BK101.out 1
      have hfz8_2 := blk_frozen BK101.out 2
      go_wp2_with (first | (go_at_call 10; (with_reducible refine (QH.icehouselaw09_long.calls _ _ l0_0 a0_1 a0_2 false _ ?side1 ?side2 A4.out).mono ?_); (case side1 => repeat (first | exact (Kd.C_below HR0_0.out HB.out) | (with_reducible refine Kd.C_alloc ?_ _) | (with_reducible refine Kd.C_drewN ?_ _) | (with_reducible refine Kd.C_drew ?_))); (case side2 => exact HC0_0.out); rintro e w9 ⟨rfl, hb⟩; have n0_ := Aside0.mk (blk_below (g := gb101) (o := .cells #[.slice A0_0 l0_0.length c0_0, .int .i64 a0_1, .int .i64 a0_2] 24 (0, 0)) (by (with_reducible repeat (first | refine blk_drewN ?_ _ | refine blk_drew ?_ | refine blk_alloc ?_ _)); exact BK101.out) hb); have n1_ := Aside0.mk (below_step (by repeat (first | (with_reducible first | exact HB.out | apply below_alloc | apply pw_below_drewN | apply below_drew1 | refine below_set ?_ GE101.out) | exact HB.out)) hb); clear BK101; clear HB; have BK101 := n0_; have HB := n1_; clear n0_ n1_; (try clear hb); (try clear hb2); (try clear hk); (try clear hi); have hcz10_0 : w9.cell? ⟨gb101, 0, none⟩ = some (.slice A0_0 l0_0.length c0_0) := (blk_cell BK101.out 0).trans rfl; have hcz10_1 : w9.cell? ⟨gb101, 1, none⟩ = some (.int .i64 a0_1) := (blk_cell BK101.out 1).trans rfl; have hcz10_2 : w9.cell? ⟨gb101, 2, none⟩ = some (.int .i64 a0_2) := (blk_cell BK101.out 2).trans rfl; have hfz10_0 := blk_frozen BK101.out 0; have hfz10_1 := blk_frozen BK101.out 1; have hfz10_2 := blk_frozen BK101.out 2))
      repeat (go_quiet (first | (go_at_call 10; (with_reducible refine (QH.icehouselaw09_long.calls _ _ l0_0 a0_1 a0_2 false _ ?side1 ?side2 A4.out).mono ?_); (case side1 => repeat (first | exact (Kd.C_below HR0_0.out HB.out) | (with_reducible refine Kd.C_alloc ?_ _) | (with_reducible refine Kd.C_drewN ?_ _) | (with_reducible refine Kd.C_drew ?_))); (case side2 => exact HC0_0.out); rintro e w9 ⟨rfl, hb⟩; have n0_ := Aside0.mk (blk_below (g := gb101) (o := .cells #[.slice A0_0 l0_0.length c0_0, .int .i64 a0_1, .int .i64 a0_2] 24 (0, 0)) (by (with_reducible repeat (first | refine blk_drewN ?_ _ | refine blk_drew ?_ | refine blk_alloc ?_ _)); exact BK101.out) hb); have n1_ := Aside0.mk (below_step (by repeat (first | (with_reducible first | exact HB.out | apply below_alloc | apply pw_below_drewN | apply below_drew1 | refine below_set ?_ GE101.out) | exact HB.out)) hb); clear BK101; clear HB; have BK101 := n0_; have HB := n1_; clear n0_ n1_; (try clear hb); (try clear hb2); (try clear hk); (try clear hi); have hcz10_0 : w9.cell? ⟨gb101, 0, none⟩ = some (.slice A0_0 l0_0.length c0_0) := (blk_cell BK101.out 0).trans rfl; have hcz10_1 : w9.cell? ⟨gb101, 1, none⟩ = some (.int .i64 a0_1) := (blk_cell BK101.out 1).trans rfl; have hcz10_2 : w9.cell? ⟨gb101, 2, none⟩ = some (.int .i64 a0_2) := (blk_cell BK101.out 2).trans rfl; have hfz10_0 := blk_frozen BK101.out 0; have hfz10_1 := blk_frozen BK101.out 1; have hfz10_2 := blk_frozen BK101.out 2)); try go_wp2_with (first | (go_at_call 10; (with_reducible refine (QH.icehouselaw09_long.calls _ _ l0_0 a0_1 a0_2 false _ ?side1 ?side2 A4.out).mono ?_); (case side1 => repeat (first | exact (Kd.C_below HR0_0.out HB.out) | (with_reducible refine Kd.C_alloc ?_ _) | (with_reducible refine Kd.C_drewN ?_ _) | (with_reducible refine Kd.C_drew ?_))); (case side2 => exact HC0_0.out); rintro e w9 ⟨rfl, hb⟩; have n0_ := Aside0.mk (blk_below (g := gb101) (o := .cells #[.slice A0_0 l0_0.length c0_0, .int .i64 a0_1, .int .i64 a0_2] 24 (0, 0)) (by (with_reducible repeat (first | refine blk_drewN ?_ _ | refine blk_drew ?_ | refine blk_alloc ?_ _)); exact BK101.out) hb); have n1_ := Aside0.mk (below_step (by repeat (first | (with_reducible first | exact HB.out | apply below_alloc | apply pw_below_drewN | apply below_drew1 | refine below_set ?_ GE101.out) | exact HB.out)) hb); clear BK101; clear HB; have BK101 := n0_; have HB := n1_; clear n0_ n1_; (try clear hb); (try clear hb2); (try clear hk); (try clear hi); have hcz10_0 : w9.cell? ⟨gb101, 0, none⟩ = some (.slice A0_0 l0_0.length c0_0) := (blk_cell BK101.out 0).trans rfl; have hcz10_1 : w9.cell? ⟨gb101, 1, none⟩ = some (.int .i64 a0_1) := (blk_cell BK101.out 1).trans rfl; have hcz10_2 : w9.cell? ⟨gb101, 2, none⟩ = some (.int .i64 a0_2) := (blk_cell BK101.out 2).trans rfl; have hfz10_0 := blk_frozen BK101.out 0; have hfz10_1 := blk_frozen BK101.out 1; have hfz10_2 := blk_frozen BK101.out 2)))
      go_meet
      case rel => exact ⟨_, (decide ((wrap64 ((l0_0.length : Int) * a0_1)) > 30)), (by first | rfl | (simp; done) | (simp [*]; done)), H', ⟨by first | omega | exact Nat.le_refl _⟩, ⟨by (with_reducible repeat (first | refine blk_drewN ?_ _ | refine blk_drew ?_ | refine blk_alloc ?_ _)); exact BK101.out⟩, ⟨by repeat (first | (with_reducible first | exact HB.out | apply below_alloc | apply pw_below_drewN | apply below_drew1 | refine below_set ?_ GE101.out) | exact HB.out)⟩⟩
  case rest =>
    clear HC2
    try clear p2
    try clear c5
    try clear p6
    try clear hcz10_0
    try clear hcz10_1
    try clear hcz10_2
    try clear hcz6_0
    try clear hcz6_1
    try clear hcz6_2
    try clear hcz8_0
    try clear hcz8_1
    try clear hcz8_2
    try clear hfz10_0
    try clear hfz10_1
    try clear hfz10_2
    try clear hfz6_0
    try clear hfz6_1
    try clear hfz6_2
    try clear hfz8_0
    try clear hfz8_1
    try clear hfz8_2
    obtain ⟨kq, x20_1, rfl, HA, HJ1, BK101, HB⟩ := hcut
    cases kq with
    | zero => exact absurd HA.out (by simp [icehouselaw09_RingPoints.j0])
    | succ kj1 =>
      have H := HA.out
      clear HA
      simp only [icehouselaw09_RingPoints.j0] at H
      by_cases c11 : x20_1 = true
      · subst c11
        have H1 : ((QR.icehouselaw09_known.f kj1).bind fun t103 => (some t103)) = some r := by rw [if_pos rfl] at H; exact H
        clear H
        have H := H1
        clear H1
        replace H := Option.bind_eq_some_iff.mp H
        obtain ⟨t103, A120, H⟩ := H
        replace H : (some t103) = some r := H
        have A12 := Aside0.mk A120
        clear A120
        obtain rfl := Option.some.inj H
        go_wp2_with (first | (go_at_call 12; (with_reducible refine (QR.icehouselaw09_known.calls kj1  t103 _ A12.out).mono ?_); rintro e w13 ⟨rfl, hb⟩; have n0_ := Aside0.mk (blk_below (g := gb101) (o := .cells #[.slice A0_0 l0_0.length c0_0, .int .i64 a0_1, .int .i64 a0_2] 24 (0, 0)) (by (with_reducible repeat (first | refine blk_drewN ?_ _ | refine blk_drew ?_ | refine blk_alloc ?_ _)); exact BK101.out) hb); have n1_ := Aside0.mk (below_step (by repeat (first | (with_reducible first | exact HB.out | apply below_alloc | apply pw_below_drewN | apply below_drew1 | refine below_set ?_ GE101.out) | exact HB.out)) hb); clear BK101; clear HB; have BK101 := n0_; have HB := n1_; clear n0_ n1_; (try clear hb); (try clear hb2); (try clear hk); (try clear hi)))
        repeat (go_quiet (first | (go_at_call 12; (with_reducible refine (QR.icehouselaw09_known.calls kj1  t103 _ A12.out).mono ?_); rintro e w13 ⟨rfl, hb⟩; have n0_ := Aside0.mk (blk_below (g := gb101) (o := .cells #[.slice A0_0 l0_0.length c0_0, .int .i64 a0_1, .int .i64 a0_2] 24 (0, 0)) (by (with_reducible repeat (first | refine blk_drewN ?_ _ | refine blk_drew ?_ | refine blk_alloc ?_ _)); exact BK101.out) hb); have n1_ := Aside0.mk (below_step (by repeat (first | (with_reducible first | exact HB.out | apply below_alloc | apply pw_below_drewN | apply below_drew1 | refine below_set ?_ GE101.out) | exact HB.out)) hb); clear BK101; clear HB; have BK101 := n0_; have HB := n1_; clear n0_ n1_; (try clear hb); (try clear hb2); (try clear hk); (try clear hi))); try go_wp2_with (first | (go_at_call 12; (with_reducible refine (QR.icehouselaw09_known.calls kj1  t103 _ A12.out).mono ?_); rintro e w13 ⟨rfl, hb⟩; have n0_ := Aside0.mk (blk_below (g := gb101) (o := .cells #[.slice A0_0 l0_0.length c0_0, .int .i64 a0_1, .int .i64 a0_2] 24 (0, 0)) (by (with_reducible repeat (first | refine blk_drewN ?_ _ | refine blk_drew ?_ | refine blk_alloc ?_ _)); exact BK101.out) hb); have n1_ := Aside0.mk (below_step (by repeat (first | (with_reducible first | exact HB.out | apply below_alloc | apply pw_below_drewN | apply below_drew1 | refine below_set ?_ GE101.out) | exact HB.out)) hb); clear BK101; clear HB; have BK101 := n0_; have HB := n1_; clear n0_ n1_; (try clear hb); (try clear hb2); (try clear hk); (try clear hi))))
        go_ret
        exact ⟨by first | rfl | (simp [errW_none, errW_some] <;> rfl) | (simp [*, errW_none, errW_some] <;> rfl), by repeat (first | (with_reducible first | exact HB.out | apply below_alloc | apply pw_below_drewN | apply below_drew1 | refine below_set ?_ GE101.out) | exact HB.out)⟩
      · replace c11 := Bool.eq_false_iff.mpr c11
        subst c11
        have H1 : ((Hs.ring_Points.f l0_0 a0_1 a0_2).bind fun bt104 => ((QR.ring_Lists.f kj1 l0_0 a0_1 a0_2).bind fun bt108 => ((QH.icehouseref09_Check.f kj1 l0_0 a0_1 a0_2).bind fun t112 => (if bt104.2 = t112 then (icehouselaw09_RingPoints.j1 kj1 bt104.1 bt108.1 t112 (bt108.2 != t112) l0_0 a0_1 a0_2) else (icehouselaw09_RingPoints.j1 kj1 bt104.1 bt108.1 t112 true l0_0 a0_1 a0_2))))) = some r := by rw [if_neg (show ¬ (false = true) by decide)] at H; exact H
        clear H
        have H := H1
        clear H1
        replace H := Option.bind_eq_some_iff.mp H
        obtain ⟨⟨t104, t107⟩, A140, H⟩ := H
        replace H : ((QR.ring_Lists.f kj1 l0_0 a0_1 a0_2).bind fun bt108 => ((QH.icehouseref09_Check.f kj1 l0_0 a0_1 a0_2).bind fun t112 => (if t107 = t112 then (icehouselaw09_RingPoints.j1 kj1 t104 bt108.1 t112 (bt108.2 != t112) l0_0 a0_1 a0_2) else (icehouselaw09_RingPoints.j1 kj1 t104 bt108.1 t112 true l0_0 a0_1 a0_2)))) = some r := H
        have A14 := Aside0.mk A140
        clear A140
        replace H := Option.bind_eq_some_iff.mp H
        obtain ⟨⟨t108, t111⟩, A150, H⟩ := H
        replace H : ((QH.icehouseref09_Check.f kj1 l0_0 a0_1 a0_2).bind fun t112 => (if t107 = t112 then (icehouselaw09_RingPoints.j1 kj1 t104 t108 t112 (t111 != t112) l0_0 a0_1 a0_2) else (icehouselaw09_RingPoints.j1 kj1 t104 t108 t112 true l0_0 a0_1 a0_2))) = some r := H
        have A15 := Aside0.mk A150
        clear A150
        replace H := Option.bind_eq_some_iff.mp H
        obtain ⟨t112, A160, H⟩ := H
        replace H : (if t107 = t112 then (icehouselaw09_RingPoints.j1 kj1 t104 t108 t112 (t111 != t112) l0_0 a0_1 a0_2) else (icehouselaw09_RingPoints.j1 kj1 t104 t108 t112 true l0_0 a0_1 a0_2)) = some r := H
        have A16 := Aside0.mk A160
        clear A160
        have HC17 := Aside0.mk H
        clear H
        have hcz18_0 : wc.cell? ⟨gb101, 0, none⟩ = some (.slice A0_0 l0_0.length c0_0) := (blk_cell BK101.out 0).trans rfl
        have hcz18_1 : wc.cell? ⟨gb101, 1, none⟩ = some (.int .i64 a0_1) := (blk_cell BK101.out 1).trans rfl
        have hcz18_2 : wc.cell? ⟨gb101, 2, none⟩ = some (.int .i64 a0_2) := (blk_cell BK101.out 2).trans rfl
        have hfz18_0 := blk_frozen BK101.out 0
        have hfz18_1 := blk_frozen BK101.out 1
        have hfz18_2 := blk_frozen BK101.out 2
        go_upto_region 6 with (first | (go_at_call 23; (with_reducible refine (Hs.ring_Points.calls _ _ l0_0 a0_1 a0_2 t104 t107 _ ?side1 ?side2 A14.out).mono ?_); (case side1 => repeat (first | exact (Kd.C_below HR0_0.out HB.out) | (with_reducible refine Kd.C_alloc ?_ _) | (with_reducible refine Kd.C_drewN ?_ _) | (with_reducible refine Kd.C_drew ?_))); (case side2 => exact HC0_0.out); rintro e w19 ⟨v105, rfl, ho0, hb⟩; have n0_ := Aside0.mk (Kd.R_lower ho0 (below_size (by repeat (first | (with_reducible first | exact HB.out | apply below_alloc | apply pw_below_drewN | apply below_drew1 | refine below_set ?_ GE101.out) | exact HB.out)))); have n1_ := Aside0.mk (blk_below (g := gb101) (o := .cells #[.slice A0_0 l0_0.length c0_0, .int .i64 a0_1, .int .i64 a0_2] 24 (0, 0)) (by (with_reducible repeat (first | refine blk_drewN ?_ _ | refine blk_drew ?_ | refine blk_alloc ?_ _)); exact BK101.out) hb); have n2_ := Aside0.mk (below_step (by repeat (first | (with_reducible first | exact HB.out | apply below_alloc | apply pw_below_drewN | apply below_drew1 | refine below_set ?_ GE101.out) | exact HB.out)) hb); clear BK101; clear HB; have HO106 := n0_; have BK101 := n1_; have HB := n2_; clear n0_ n1_ n2_; (try clear hb); (try clear hb2); (try clear hk); (try clear hi); (try clear ho0); have hcz20_0 : w19.cell? ⟨gb101, 0, none⟩ = some (.slice A0_0 l0_0.length c0_0) := (blk_cell BK101.out 0).trans rfl; have hcz20_1 : w19.cell? ⟨gb101, 1, none⟩ = some (.int .i64 a0_1) := (blk_cell BK101.out 1).trans rfl; have hcz20_2 : w19.cell? ⟨gb101, 2, none⟩ = some (.int .i64 a0_2) := (blk_cell BK101.out 2).trans rfl; have hfz20_0 := blk_frozen BK101.out 0; have hfz20_1 := blk_frozen BK101.out 1; have hfz20_2 := blk_frozen BK101.out 2) | (go_at_call 24; (with_reducible refine (QR.ring_Lists.calls kj1 _ _ l0_0 a0_1 a0_2 t108 t111 _ ?side1 ?side2 A15.out).mono ?_); (case side1 => repeat (first | exact (Kd.C_below HR0_0.out HB.out) | (with_reducible refine Kd.C_alloc ?_ _) | (with_reducible refine Kd.C_drewN ?_ _) | (with_reducible refine Kd.C_drew ?_))); (case side2 => exact HC0_0.out); rintro e w21 ⟨v109, rfl, ho0, hb⟩; have n0_ := Aside0.mk (Kd.R_below (by (with_reducible repeat (first | apply Kd.R_alloc | apply Kd.R_drewN | apply Kd.R_drew)); exact HO106.out) hb); have n1_ := Aside0.mk (Kd.S_lower ho0 (below_size (by repeat (first | (with_reducible first | exact HB.out | apply below_alloc | apply pw_below_drewN | apply below_drew1 | refine below_set ?_ GE101.out) | exact HB.out)))); have n2_ := Aside0.mk (blk_below (g := gb101) (o := .cells #[.slice A0_0 l0_0.length c0_0, .int .i64 a0_1, .int .i64 a0_2] 24 (0, 0)) (by (with_reducible repeat (first | refine blk_drewN ?_ _ | refine blk_drew ?_ | refine blk_alloc ?_ _)); exact BK101.out) hb); have n3_ := Aside0.mk (below_step (by repeat (first | (with_reducible first | exact HB.out | apply below_alloc | apply pw_below_drewN | apply below_drew1 | refine below_set ?_ GE101.out) | exact HB.out)) hb); clear HO106; clear BK101; clear HB; have HO106 := n0_; have HO110 := n1_; have BK101 := n2_; have HB := n3_; clear n0_ n1_ n2_ n3_; (try clear hb); (try clear hb2); (try clear hk); (try clear hi); (try clear ho0); have hcz22_0 : w21.cell? ⟨gb101, 0, none⟩ = some (.slice A0_0 l0_0.length c0_0) := (blk_cell BK101.out 0).trans rfl; have hcz22_1 : w21.cell? ⟨gb101, 1, none⟩ = some (.int .i64 a0_1) := (blk_cell BK101.out 1).trans rfl; have hcz22_2 : w21.cell? ⟨gb101, 2, none⟩ = some (.int .i64 a0_2) := (blk_cell BK101.out 2).trans rfl; have hfz22_0 := blk_frozen BK101.out 0; have hfz22_1 := blk_frozen BK101.out 1; have hfz22_2 := blk_frozen BK101.out 2) | (go_at_call 11; (with_reducible refine (QH.icehouseref09_Check.calls kj1 _ _ l0_0 a0_1 a0_2 t112 _ ?side1 ?side2 A16.out).mono ?_); (case side1 => repeat (first | exact (Kd.C_below HR0_0.out HB.out) | (with_reducible refine Kd.C_alloc ?_ _) | (with_reducible refine Kd.C_drewN ?_ _) | (with_reducible refine Kd.C_drew ?_))); (case side2 => exact HC0_0.out); rintro e w23 ⟨rfl, hb⟩; have n0_ := Aside0.mk (Kd.R_below (by (with_reducible repeat (first | apply Kd.R_alloc | apply Kd.R_drewN | apply Kd.R_drew)); exact HO106.out) hb); have n1_ := Aside0.mk (Kd.S_below (by (with_reducible repeat (first | apply Kd.S_alloc | apply Kd.S_drewN | apply Kd.S_drew)); exact HO110.out) hb); have n2_ := Aside0.mk (blk_below (g := gb101) (o := .cells #[.slice A0_0 l0_0.length c0_0, .int .i64 a0_1, .int .i64 a0_2] 24 (0, 0)) (by (with_reducible repeat (first | refine blk_drewN ?_ _ | refine blk_drew ?_ | refine blk_alloc ?_ _)); exact BK101.out) hb); have n3_ := Aside0.mk (below_step (by repeat (first | (with_reducible first | exact HB.out | apply below_alloc | apply pw_below_drewN | apply below_drew1 | refine below_set ?_ GE101.out) | exact HB.out)) hb); clear HO106; clear HO110; clear BK101; clear HB; have HO106 := n0_; have HO110 := n1_; have BK101 := n2_; have HB := n3_; clear n0_ n1_ n2_ n3_; (try clear hb); (try clear hb2); (try clear hk); (try clear hi)))
        repeat (go_quiet (first | (go_at_call 23; (with_reducible refine (Hs.ring_Points.calls _ _ l0_0 a0_1 a0_2 t104 t107 _ ?side1 ?side2 A14.out).mono ?_); (case side1 => repeat (first | exact (Kd.C_below HR0_0.out HB.out) | (with_reducible refine Kd.C_alloc ?_ _) | (with_reducible refine Kd.C_drewN ?_ _) | (with_reducible refine Kd.C_drew ?_))); (case side2 => exact HC0_0.out); rintro e w19 ⟨v105, rfl, ho0, hb⟩; have n0_ := Aside0.mk (Kd.R_lower ho0 (below_size (by repeat (first | (with_reducible first | exact HB.out | apply below_alloc | apply pw_below_drewN | apply below_drew1 | refine below_set ?_ GE101.out) | exact HB.out)))); have n1_ := Aside0.mk (blk_below (g := gb101) (o := .cells #[.slice A0_0 l0_0.length c0_0, .int .i64 a0_1, .int .i64 a0_2] 24 (0, 0)) (by (with_reducible repeat (first | refine blk_drewN ?_ _ | refine blk_drew ?_ | refine blk_alloc ?_ _)); exact BK101.out) hb); have n2_ := Aside0.mk (below_step (by repeat (first | (with_reducible first | exact HB.out | apply below_alloc | apply pw_below_drewN | apply below_drew1 | refine below_set ?_ GE101.out) | exact HB.out)) hb); clear BK101; clear HB; have HO106 := n0_; have BK101 := n1_; have HB := n2_; clear n0_ n1_ n2_; (try clear hb); (try clear hb2); (try clear hk); (try clear hi); (try clear ho0); have hcz20_0 : w19.cell? ⟨gb101, 0, none⟩ = some (.slice A0_0 l0_0.length c0_0) := (blk_cell BK101.out 0).trans rfl; have hcz20_1 : w19.cell? ⟨gb101, 1, none⟩ = some (.int .i64 a0_1) := (blk_cell BK101.out 1).trans rfl; have hcz20_2 : w19.cell? ⟨gb101, 2, none⟩ = some (.int .i64 a0_2) := (blk_cell BK101.out 2).trans rfl; have hfz20_0 := blk_frozen BK101.out 0; have hfz20_1 := blk_frozen BK101.out 1; have hfz20_2 := blk_frozen BK101.out 2) | (go_at_call 24; (with_reducible refine (QR.ring_Lists.calls kj1 _ _ l0_0 a0_1 a0_2 t108 t111 _ ?side1 ?side2 A15.out).mono ?_); (case side1 => repeat (first | exact (Kd.C_below HR0_0.out HB.out) | (with_reducible refine Kd.C_alloc ?_ _) | (with_reducible refine Kd.C_drewN ?_ _) | (with_reducible refine Kd.C_drew ?_))); (case side2 => exact HC0_0.out); rintro e w21 ⟨v109, rfl, ho0, hb⟩; have n0_ := Aside0.mk (Kd.R_below (by (with_reducible repeat (first | apply Kd.R_alloc | apply Kd.R_drewN | apply Kd.R_drew)); exact HO106.out) hb); have n1_ := Aside0.mk (Kd.S_lower ho0 (below_size (by repeat (first | (with_reducible first | exact HB.out | apply below_alloc | apply pw_below_drewN | apply below_drew1 | refine below_set ?_ GE101.out) | exact HB.out)))); have n2_ := Aside0.mk (blk_below (g := gb101) (o := .cells #[.slice A0_0 l0_0.length c0_0, .int .i64 a0_1, .int .i64 a0_2] 24 (0, 0)) (by (with_reducible repeat (first | refine blk_drewN ?_ _ | refine blk_drew ?_ | refine blk_alloc ?_ _)); exact BK101.out) hb); have n3_ := Aside0.mk (below_step (by repeat (first | (with_reducible first | exact HB.out | apply below_alloc | apply pw_below_drewN | apply below_drew1 | refine below_set ?_ GE101.out) | exact HB.out)) hb); clear HO106; clear BK101; clear HB; have HO106 := n0_; have HO110 := n1_; have BK101 := n2_; have HB := n3_; clear n0_ n1_ n2_ n3_; (try clear hb); (try clear hb2); (try clear hk); (try clear hi); (try clear ho0); have hcz22_0 : w21.cell? ⟨gb101, 0, none⟩ = some (.slice A0_0 l0_0.length c0_0) := (blk_cell BK101.out 0).trans rfl; have hcz22_1 : w21.cell? ⟨gb101, 1, none⟩ = some (.int .i64 a0_1) := (blk_cell BK101.out 1).trans rfl; have hcz22_2 : w21.cell? ⟨gb101, 2, none⟩ = some (.int .i64 a0_2) := (blk_cell BK101.out 2).trans rfl; have hfz22_0 := blk_frozen BK101.out 0; have hfz22_1 := blk_frozen BK101.out 1; have hfz22_2 := blk_frozen BK101.out 2) | (go_at_call 11; (with_reducible refine (QH.icehouseref09_Check.calls kj1 _ _ l0_0 a0_1 a0_2 t112 _ ?side1 ?side2 A16.out).mono ?_); (case side1 => repeat (first | exact (Kd.C_below HR0_0.out HB.out) | (with_reducible refine Kd.C_alloc ?_ _) | (with_reducible refine Kd.C_drewN ?_ _) | (with_reducible refine Kd.C_drew ?_))); (case side2 => exact HC0_0.out); rintro e w23 ⟨rfl, hb⟩; have n0_ := Aside0.mk (Kd.R_below (by (with_reducible repeat (first | apply Kd.R_alloc | apply Kd.R_drewN | apply Kd.R_drew)); exact HO106.out) hb); have n1_ := Aside0.mk (Kd.S_below (by (with_reducible repeat (first | apply Kd.S_alloc | apply Kd.S_drewN | apply Kd.S_drew)); exact HO110.out) hb); have n2_ := Aside0.mk (blk_below (g := gb101) (o := .cells #[.slice A0_0 l0_0.length c0_0, .int .i64 a0_1, .int .i64 a0_2] 24 (0, 0)) (by (with_reducible repeat (first | refine blk_drewN ?_ _ | refine blk_drew ?_ | refine blk_alloc ?_ _)); exact BK101.out) hb); have n3_ := Aside0.mk (below_step (by repeat (first | (with_reducible first | exact HB.out | apply below_alloc | apply pw_below_drewN | apply below_drew1 | refine below_set ?_ GE101.out) | exact HB.out)) hb); clear HO106; clear HO110; clear BK101; clear HB; have HO106 := n0_; have HO110 := n1_; have BK101 := n2_; have HB := n3_; clear n0_ n1_ n2_ n3_; (try clear hb); (try clear hb2); (try clear hk); (try clear hi))); go_upto_region 6 with (first | (go_at_call 23; (with_reducible refine (Hs.ring_Points.calls _ _ l0_0 a0_1 a0_2 t104 t107 _ ?side1 ?side2 A14.out).mono ?_); (case side1 => repeat (first | exact (Kd.C_below HR0_0.out HB.out) | (with_reducible refine Kd.C_alloc ?_ _) | (with_reducible refine Kd.C_drewN ?_ _) | (with_reducible refine Kd.C_drew ?_))); (case side2 => exact HC0_0.out); rintro e w19 ⟨v105, rfl, ho0, hb⟩; have n0_ := Aside0.mk (Kd.R_lower ho0 (below_size (by repeat (first | (with_reducible first | exact HB.out | apply below_alloc | apply pw_below_drewN | apply below_drew1 | refine below_set ?_ GE101.out) | exact HB.out)))); have n1_ := Aside0.mk (blk_below (g := gb101) (o := .cells #[.slice A0_0 l0_0.length c0_0, .int .i64 a0_1, .int .i64 a0_2] 24 (0, 0)) (by (with_reducible repeat (first | refine blk_drewN ?_ _ | refine blk_drew ?_ | refine blk_alloc ?_ _)); exact BK101.out) hb); have n2_ := Aside0.mk (below_step (by repeat (first | (with_reducible first | exact HB.out | apply below_alloc | apply pw_below_drewN | apply below_drew1 | refine below_set ?_ GE101.out) | exact HB.out)) hb); clear BK101; clear HB; have HO106 := n0_; have BK101 := n1_; have HB := n2_; clear n0_ n1_ n2_; (try clear hb); (try clear hb2); (try clear hk); (try clear hi); (try clear ho0); have hcz20_0 : w19.cell? ⟨gb101, 0, none⟩ = some (.slice A0_0 l0_0.length c0_0) := (blk_cell BK101.out 0).trans rfl; have hcz20_1 : w19.cell? ⟨gb101, 1, none⟩ = some (.int .i64 a0_1) := (blk_cell BK101.out 1).trans rfl; have hcz20_2 : w19.cell? ⟨gb101, 2, none⟩ = some (.int .i64 a0_2) := (blk_cell BK101.out 2).trans rfl; have hfz20_0 := blk_frozen BK101.out 0; have hfz20_1 := blk_frozen BK101.out 1; have hfz20_2 := blk_frozen BK101.out 2) | (go_at_call 24; (with_reducible refine (QR.ring_Lists.calls kj1 _ _ l0_0 a0_1 a0_2 t108 t111 _ ?side1 ?side2 A15.out).mono ?_); (case side1 => repeat (first | exact (Kd.C_below HR0_0.out HB.out) | (with_reducible refine Kd.C_alloc ?_ _) | (with_reducible refine Kd.C_drewN ?_ _) | (with_reducible refine Kd.C_drew ?_))); (case side2 => exact HC0_0.out); rintro e w21 ⟨v109, rfl, ho0, hb⟩; have n0_ := Aside0.mk (Kd.R_below (by (with_reducible repeat (first | apply Kd.R_alloc | apply Kd.R_drewN | apply Kd.R_drew)); exact HO106.out) hb); have n1_ := Aside0.mk (Kd.S_lower ho0 (below_size (by repeat (first | (with_reducible first | exact HB.out | apply below_alloc | apply pw_below_drewN | apply below_drew1 | refine below_set ?_ GE101.out) | exact HB.out)))); have n2_ := Aside0.mk (blk_below (g := gb101) (o := .cells #[.slice A0_0 l0_0.length c0_0, .int .i64 a0_1, .int .i64 a0_2] 24 (0, 0)) (by (with_reducible repeat (first | refine blk_drewN ?_ _ | refine blk_drew ?_ | refine blk_alloc ?_ _)); exact BK101.out) hb); have n3_ := Aside0.mk (below_step (by repeat (first | (with_reducible first | exact HB.out | apply below_alloc | apply pw_below_drewN | apply below_drew1 | refine below_set ?_ GE101.out) | exact HB.out)) hb); clear HO106; clear BK101; clear HB; have HO106 := n0_; have HO110 := n1_; have BK101 := n2_; have HB := n3_; clear n0_ n1_ n2_ n3_; (try clear hb); (try clear hb2); (try clear hk); (try clear hi); (try clear ho0); have hcz22_0 : w21.cell? ⟨gb101, 0, none⟩ = some (.slice A0_0 l0_0.length c0_0) := (blk_cell BK101.out 0).trans rfl; have hcz22_1 : w21.cell? ⟨gb101, 1, none⟩ = some (.int .i64 a0_1) := (blk_cell BK101.out 1).trans rfl; have hcz22_2 : w21.cell? ⟨gb101, 2, none⟩ = some (.int .i64 a0_2) := (blk_cell BK101.out 2).trans rfl; have hfz22_0 := blk_frozen BK101.out 0; have hfz22_1 := blk_frozen BK101.out 1; have hfz22_2 := blk_frozen BK101.out 2) | (go_at_call 11; (with_reducible refine (QH.icehouseref09_Check.calls kj1 _ _ l0_0 a0_1 a0_2 t112 _ ?side1 ?side2 A16.out).mono ?_); (case side1 => repeat (first | exact (Kd.C_below HR0_0.out HB.out) | (with_reducible refine Kd.C_alloc ?_ _) | (with_reducible refine Kd.C_drewN ?_ _) | (with_reducible refine Kd.C_drew ?_))); (case side2 => exact HC0_0.out); rintro e w23 ⟨rfl, hb⟩; have n0_ := Aside0.mk (Kd.R_below (by (with_reducible repeat (first | apply Kd.R_alloc | apply Kd.R_drewN | apply Kd.R_drew)); exact HO106.out) hb); have n1_ := Aside0.mk (Kd.S_below (by (with_reducible repeat (first | apply Kd.S_alloc | apply Kd.S_drewN | apply Kd.S_drew)); exact HO110.out) hb); have n2_ := Aside0.mk (blk_below (g := gb101) (o := .cells #[.slice A0_0 l0_0.length c0_0, .int .i64 a0_1, .int .i64 a0_2] 24 (0, 0)) (by (with_reducible repeat (first | refine blk_drewN ?_ _ | refine blk_drew ?_ | refine blk_alloc ?_ _)); exact BK101.out) hb); have n3_ := Aside0.mk (below_step (by repeat (first | (with_reducible first | exact HB.out | apply below_alloc | apply pw_below_drewN | apply below_drew1 | refine below_set ?_ GE101.out) | exact HB.out)) hb); clear HO106; clear HO110; clear BK101; clear HB; have HO106 := n0_; have HO110 := n1_; have BK101 := n2_; have HB := n3_; clear n0_ n1_ n2_ n3_; (try clear hb); (try clear hb2); (try clear hk); (try clear hi))))
        (try simp only [Act.put, List.setIfInBounds_toArray, List.set_cons_zero, List.set_cons_succ])
        go_cut [41] (fun v41 wc => ∃ (kq : Nat) (x41_16 : Bool), v41 = .bool x41_16 ∧ Aside0 (icehouselaw09_RingPoints.j1 kq t104 t108 t112 x41_16 l0_0 a0_1 a0_2 = some r) ∧ Aside0 (kq ≤ kj1) ∧ Aside0 (Kd.R k51 51 wc w.heap.size (fun _ => True) v105 t104) ∧ Aside0 (Kd.S (Kd.slice 3 (Kd.int .i64)) 22 wc w.heap.size (fun _ => True) v109 t108) ∧ Aside0 (wc.heap[gb101]? = some (.cells #[(.slice A0_0 l0_0.length c0_0), .int .i64 a0_1, .int .i64 a0_2] 24 (0, 0))) ∧ Aside0 (Below w.heap.size w wc))
        case first =>
          have H := HC17.out
          clear HC17
          by_cases c24 : t107 = t112
          · rw [if_pos c24] at H
            have c24b0 : (t107 == t112) = true := beq_iff_eq.mpr c24
            have c24b1 : (t107 != t112) = false := bne_eq_false_iff_eq.mpr c24
            clear c24
            (first | rw [c24b0] | (simp only [i64_w, i32_w]; rw [c24b0]) | skip)
            have H' := Aside0.mk H
            clear H
            go_wp2
            repeat (go_quiet (fail); try go_wp2)
            go_meet
            case rel => exact ⟨_, ((t111 != t112)), (by first | rfl | (simp; done) | (simp [*]; done)), H', ⟨by have := HJ1.out; first | omega | exact Nat.le_refl _⟩, ⟨by (with_reducible repeat (first | apply Kd.R_alloc | apply Kd.R_drewN | apply Kd.R_drew)); exact HO106.out⟩, ⟨by (with_reducible repeat (first | apply Kd.S_alloc | apply Kd.S_drewN | apply Kd.S_drew)); exact HO110.out⟩, ⟨by (with_reducible repeat (first | refine blk_drewN ?_ _ | refine blk_drew ?_ | refine blk_alloc ?_ _)); exact BK101.out⟩, ⟨by repeat (first | (with_reducible first | exact HB.out | apply below_alloc | apply pw_below_drewN | apply below_drew1 | refine below_set ?_ GE101.out) | exact HB.out)⟩⟩
          · rw [if_neg c24] at H
            have c24b0 : (t107 == t112) = false := beq_eq_false_iff_ne.mpr c24
            have c24b1 : (t107 != t112) = true := bne_iff_ne.mpr c24
            (first | rw [c24b0] | (simp only [i64_w, i32_w]; rw [c24b0]) | skip)
            have H' := Aside0.mk H
            clear H
            go_wp2
            repeat (go_quiet (fail); try go_wp2)
            go_meet
            case rel => exact ⟨_, (true), (by first | rfl | (simp; done) | (simp [*]; done)), H', ⟨by have := HJ1.out; first | omega | exact Nat.le_refl _⟩, ⟨by (with_reducible repeat (first | apply Kd.R_alloc | apply Kd.R_drewN | apply Kd.R_drew)); exact HO106.out⟩, ⟨by (with_reducible repeat (first | apply Kd.S_alloc | apply Kd.S_drewN | apply Kd.S_drew)); exact HO110.out⟩, ⟨by (with_reducible repeat (first | refine blk_drewN ?_ _ | refine blk_drew ?_ | refine blk_alloc ?_ _)); exact BK101.out⟩, ⟨by repeat (first | (with_reducible first | exact HB.out | apply below_alloc | apply pw_below_drewN | apply below_drew1 | refine below_set ?_ GE101.out) | exact HB.out)⟩⟩
        case rest =>
          clear HC17
          try clear c1
          try clear c2
          try clear p2
          try clear c5
          try clear p6
          try clear c11
          try clear c24
          try clear c24b0
          try clear c24b1
          try clear hcz10_0
          try clear hcz10_1
          try clear hcz10_2
          try clear hcz18_0
          try clear hcz18_1
          try clear hcz18_2
          try clear hcz20_0
          try clear hcz20_1
          try clear hcz20_2
          try clear hcz22_0
          try clear hcz22_1
          try clear hcz22_2
          try clear hcz6_0
          try clear hcz6_1
          try clear hcz6_2
          try clear hcz8_0
          try clear hcz8_1
          try clear hcz8_2
          try clear hfz10_0
          try clear hfz10_1
          try clear hfz10_2
          try clear hfz18_0
          try clear hfz18_1
          try clear hfz18_2
          try clear hfz20_0
          try clear hfz20_1
          try clear hfz20_2
          try clear hfz22_0
          try clear hfz22_1
          try clear hfz22_2
          try clear hfz6_0
          try clear hfz6_1
          try clear hfz6_2
          try clear hfz8_0
          try clear hfz8_1
          try clear hfz8_2
          try clear p2
          try clear p6
          obtain ⟨kq, x41_16, rfl, HA, HJ16, HO_3, HO_5, BK101, HB⟩ := hcut
          cases kq with
          | zero => exact absurd HA.out (by simp [icehouselaw09_RingPoints.j1])
          | succ kj16 =>
            have H := HA.out
            clear HA
            simp only [icehouselaw09_RingPoints.j1] at H
            by_cases c25 : x41_16 = true
            · subst c25
              have H1 : (some false) = some r := by rw [if_pos rfl] at H; exact H
              clear H
              have H := H1
              clear H1
              obtain rfl := Option.some.inj H
              go_wp2
              repeat (go_quiet (fail); try go_wp2)
              go_ret
              exact ⟨by first | rfl | (simp [errW_none, errW_some] <;> rfl) | (simp [*, errW_none, errW_some] <;> rfl), by repeat (first | (with_reducible first | exact HB.out | apply below_alloc | apply pw_below_drewN | apply below_drew1 | refine below_set ?_ GE101.out) | exact HB.out)⟩
            · replace c25 := Bool.eq_false_iff.mpr c25
              subst c25
              have H1 : (if t112 = 0 then ((QH.icehouseref09_Points.f kj16 l0_0 a0_1 a0_2).bind fun t114 => (if (t104.length : Int) = (t114.length : Int) then (icehouselaw09_RingPoints.l0 kj16 t104 t108 t114 0 l0_0 a0_1 a0_2) else (some false))) else (if (wrap64 ((t104.length : Int) + (t108.length : Int))) = 0 then ((QR.icehouselaw09_known.f kj16).bind fun t113 => (some t113)) else (some false))) = some r := by rw [if_neg (show ¬ (false = true) by decide)] at H; exact H
              clear H
              have H := H1
              clear H1
              by_cases c26 : t112 = 0
              · rw [if_pos c26] at H
                have c26b0 : (t112 == 0) = true := beq_iff_eq.mpr c26
                have c26b1 : (t112 != 0) = false := bne_eq_false_iff_eq.mpr c26
                clear c26
                replace H := Option.bind_eq_some_iff.mp H
                obtain ⟨t114, A270, H⟩ := H
                replace H : (if (t104.length : Int) = (t114.length : Int) then (icehouselaw09_RingPoints.l0 kj16 t104 t108 t114 0 l0_0 a0_1 a0_2) else (some false)) = some r := H
                have A27 := Aside0.mk A270
                clear A270
                by_cases c28 : (t104.length : Int) = (t114.length : Int)
                · rw [if_pos c28] at H
                  have c28b0 : ((t104.length : Int) == (t114.length : Int)) = true := beq_iff_eq.mpr c28
                  have c28b1 : ((t104.length : Int) != (t114.length : Int)) = false := bne_eq_false_iff_eq.mpr c28
                  have c28b2 : (t104.length == t114.length) = true := by first | simpa using c28 | (simp at c28 ⊢; omega)
                  clear c28
                  have H' := Aside0.mk H
                  clear H
                  have hcz29_0 : wc.cell? ⟨gb101, 0, none⟩ = some (.slice A0_0 l0_0.length c0_0) := (blk_cell BK101.out 0).trans rfl
                  have hcz29_1 : wc.cell? ⟨gb101, 1, none⟩ = some (.int .i64 a0_1) := (blk_cell BK101.out 1).trans rfl
                  have hcz29_2 : wc.cell? ⟨gb101, 2, none⟩ = some (.int .i64 a0_2) := (blk_cell BK101.out 2).trans rfl
                  have hfz29_0 := blk_frozen BK101.out 0
                  have hfz29_1 := blk_frozen BK101.out 1
                  have hfz29_2 := blk_frozen BK101.out 2
                  go_wp2_with (first | (go_at_call 22; (with_reducible refine (QH.icehouseref09_Points.calls kj16 _ _ l0_0 a0_1 a0_2 t114 _ ?side1 ?side2 A27.out).mono ?_); (case side1 => repeat (first | exact (Kd.C_below HR0_0.out HB.out) | (with_reducible refine Kd.C_alloc ?_ _) | (with_reducible refine Kd.C_drewN ?_ _) | (with_reducible refine Kd.C_drew ?_))); (case side2 => exact HC0_0.out); rintro e w30 ⟨v115, rfl, ho0, hb⟩; have n0_ := Aside0.mk (Kd.R_elder' (by (with_reducible repeat (first | apply Kd.R_alloc | apply Kd.R_drewN | apply Kd.R_drew)); exact HO_3.out) (Kd.R_base ho0) hb); have n1_ := Aside0.mk (Kd.S_below (by (with_reducible repeat (first | apply Kd.S_alloc | apply Kd.S_drewN | apply Kd.S_drew)); exact HO_5.out) hb); have n2_ := Aside0.mk (Kd.R_lower (Kd.R_new' ho0 (Kd.R_lt (by (with_reducible repeat (first | apply Kd.R_alloc | apply Kd.R_drewN | apply Kd.R_drew)); exact HO_3.out))) (below_size (by repeat (first | (with_reducible first | exact HB.out | apply below_alloc | apply pw_below_drewN | apply below_drew1 | refine below_set ?_ GE101.out) | exact HB.out)))); have n3_ := Aside0.mk (blk_below (g := gb101) (o := .cells #[.slice A0_0 l0_0.length c0_0, .int .i64 a0_1, .int .i64 a0_2] 24 (0, 0)) (by (with_reducible repeat (first | refine blk_drewN ?_ _ | refine blk_drew ?_ | refine blk_alloc ?_ _)); exact BK101.out) hb); have n4_ := Aside0.mk (below_step (by repeat (first | (with_reducible first | exact HB.out | apply below_alloc | apply pw_below_drewN | apply below_drew1 | refine below_set ?_ GE101.out) | exact HB.out)) hb); clear HO_3; clear HO_5; clear BK101; clear HB; have HO_3 := n0_; have HO_5 := n1_; have HO116 := n2_; have BK101 := n3_; have HB := n4_; clear n0_ n1_ n2_ n3_ n4_; (try clear hb); (try clear hb2); (try clear hk); (try clear hi); (try clear ho0); obtain ⟨Ao31, co31, eo31⟩ := Kd.R_slice HO_3.out; subst eo31; obtain ⟨Ao32, co32, eo32⟩ := Kd.R_slice HO116.out; subst eo32))
                  repeat (go_quiet (first | (go_at_call 22; (with_reducible refine (QH.icehouseref09_Points.calls kj16 _ _ l0_0 a0_1 a0_2 t114 _ ?side1 ?side2 A27.out).mono ?_); (case side1 => repeat (first | exact (Kd.C_below HR0_0.out HB.out) | (with_reducible refine Kd.C_alloc ?_ _) | (with_reducible refine Kd.C_drewN ?_ _) | (with_reducible refine Kd.C_drew ?_))); (case side2 => exact HC0_0.out); rintro e w30 ⟨v115, rfl, ho0, hb⟩; have n0_ := Aside0.mk (Kd.R_elder' (by (with_reducible repeat (first | apply Kd.R_alloc | apply Kd.R_drewN | apply Kd.R_drew)); exact HO_3.out) (Kd.R_base ho0) hb); have n1_ := Aside0.mk (Kd.S_below (by (with_reducible repeat (first | apply Kd.S_alloc | apply Kd.S_drewN | apply Kd.S_drew)); exact HO_5.out) hb); have n2_ := Aside0.mk (Kd.R_lower (Kd.R_new' ho0 (Kd.R_lt (by (with_reducible repeat (first | apply Kd.R_alloc | apply Kd.R_drewN | apply Kd.R_drew)); exact HO_3.out))) (below_size (by repeat (first | (with_reducible first | exact HB.out | apply below_alloc | apply pw_below_drewN | apply below_drew1 | refine below_set ?_ GE101.out) | exact HB.out)))); have n3_ := Aside0.mk (blk_below (g := gb101) (o := .cells #[.slice A0_0 l0_0.length c0_0, .int .i64 a0_1, .int .i64 a0_2] 24 (0, 0)) (by (with_reducible repeat (first | refine blk_drewN ?_ _ | refine blk_drew ?_ | refine blk_alloc ?_ _)); exact BK101.out) hb); have n4_ := Aside0.mk (below_step (by repeat (first | (with_reducible first | exact HB.out | apply below_alloc | apply pw_below_drewN | apply below_drew1 | refine below_set ?_ GE101.out) | exact HB.out)) hb); clear HO_3; clear HO_5; clear BK101; clear HB; have HO_3 := n0_; have HO_5 := n1_; have HO116 := n2_; have BK101 := n3_; have HB := n4_; clear n0_ n1_ n2_ n3_ n4_; (try clear hb); (try clear hb2); (try clear hk); (try clear hi); (try clear ho0); obtain ⟨Ao31, co31, eo31⟩ := Kd.R_slice HO_3.out; subst eo31; obtain ⟨Ao32, co32, eo32⟩ := Kd.R_slice HO116.out; subst eo32)); try go_wp2_with (first | (go_at_call 22; (with_reducible refine (QH.icehouseref09_Points.calls kj16 _ _ l0_0 a0_1 a0_2 t114 _ ?side1 ?side2 A27.out).mono ?_); (case side1 => repeat (first | exact (Kd.C_below HR0_0.out HB.out) | (with_reducible refine Kd.C_alloc ?_ _) | (with_reducible refine Kd.C_drewN ?_ _) | (with_reducible refine Kd.C_drew ?_))); (case side2 => exact HC0_0.out); rintro e w30 ⟨v115, rfl, ho0, hb⟩; have n0_ := Aside0.mk (Kd.R_elder' (by (with_reducible repeat (first | apply Kd.R_alloc | apply Kd.R_drewN | apply Kd.R_drew)); exact HO_3.out) (Kd.R_base ho0) hb); have n1_ := Aside0.mk (Kd.S_below (by (with_reducible repeat (first | apply Kd.S_alloc | apply Kd.S_drewN | apply Kd.S_drew)); exact HO_5.out) hb); have n2_ := Aside0.mk (Kd.R_lower (Kd.R_new' ho0 (Kd.R_lt (by (with_reducible repeat (first | apply Kd.R_alloc | apply Kd.R_drewN | apply Kd.R_drew)); exact HO_3.out))) (below_size (by repeat (first | (with_reducible first | exact HB.out | apply below_alloc | apply pw_below_drewN | apply below_drew1 | refine below_set ?_ GE101.out) | exact HB.out)))); have n3_ := Aside0.mk (blk_below (g := gb101) (o := .cells #[.slice A0_0 l0_0.length c0_0, .int .i64 a0_1, .int .i64 a0_2] 24 (0, 0)) (by (with_reducible repeat (first | refine blk_drewN ?_ _ | refine blk_drew ?_ | refine blk_alloc ?_ _)); exact BK101.out) hb); have n4_ := Aside0.mk (below_step (by repeat (first | (with_reducible first | exact HB.out | apply below_alloc | apply pw_below_drewN | apply below_drew1 | refine below_set ?_ GE101.out) | exact HB.out)) hb); clear HO_3; clear HO_5; clear BK101; clear HB; have HO_3 := n0_; have HO_5 := n1_; have HO116 := n2_; have BK101 := n3_; have HB := n4_; clear n0_ n1_ n2_ n3_ n4_; (try clear hb); (try clear hb2); (try clear hk); (try clear hi); (try clear ho0); obtain ⟨Ao31, co31, eo31⟩ := Kd.R_slice HO_3.out; subst eo31; obtain ⟨Ao32, co32, eo32⟩ := Kd.R_slice HO116.out; subst eo32)))
                  go_loopg [9] kj16 (fun kq v9 w' => ∃ (x9_3 : Int), v9 = .int .i64 x9_3 ∧ Aside0 (icehouselaw09_RingPoints.l0 kq t104 t108 t114 x9_3 l0_0 a0_1 a0_2 = some r) ∧ Aside0 (kq ≤ kj16) ∧ Aside0 (Kd.R k51 51 w' w.heap.size (fun k_ => some k_ ≠ ((.slice Ao32 t114.length co32) : Value).ownBlock) (.slice Ao31 t104.length co31) t104) ∧ Aside0 (Kd.S (Kd.slice 3 (Kd.int .i64)) 22 w' w.heap.size (fun _ => True) v109 t108) ∧ Aside0 (Kd.R k51 51 w' w.heap.size (fun k_ => some k_ ≠ ((.slice Ao31 t104.length co31) : Value).ownBlock) (.slice Ao32 t114.length co32) t114) ∧ Aside0 (w'.heap[gb101]? = some (.cells #[(.slice A0_0 l0_0.length c0_0), .int .i64 a0_1, .int .i64 a0_2] 24 (0, 0))) ∧ Aside0 (Below w.heap.size w w'))
                  case atStart => exact ⟨(0), (by first | rfl | (simp; done) | (simp [*]; done)), H', ⟨Nat.le_refl _⟩, ⟨by (with_reducible repeat (first | apply Kd.R_alloc | apply Kd.R_drewN | apply Kd.R_drew)); exact Kd.R_mono HO_3.out (fun _ hk => hk.2)⟩, ⟨by (with_reducible repeat (first | apply Kd.S_alloc | apply Kd.S_drewN | apply Kd.S_drew)); exact HO_5.out⟩, ⟨by (with_reducible repeat (first | apply Kd.R_alloc | apply Kd.R_drewN | apply Kd.R_drew)); exact Kd.R_mono HO116.out (fun _ hk => hk.2)⟩, ⟨by (with_reducible repeat (first | refine blk_drewN ?_ _ | refine blk_drew ?_ | refine blk_alloc ?_ _)); exact BK101.out⟩, ⟨by repeat (first | (with_reducible first | exact HB.out | apply below_alloc | apply pw_below_drewN | apply below_drew1 | refine below_set ?_ GE101.out) | exact HB.out)⟩⟩
                  case round =>
                    clear H'
                    try clear c1
                    try clear c2
                    try clear p2
                    try clear c5
                    try clear p6
                    try clear c11
                    try clear c24
                    try clear c24b0
                    try clear c24b1
                    try clear c25
                    try clear c26
                    try clear c26b0
                    try clear c26b1
                    try clear c28
                    try clear c28b0
                    try clear c28b1
                    try clear c28b2
                    try clear hcz10_0
                    try clear hcz10_1
                    try clear hcz10_2
                    try clear hcz18_0
                    try clear hcz18_1
                    try clear hcz18_2
                    try clear hcz20_0
                    try clear hcz20_1
                    try clear hcz20_2
                    try clear hcz22_0
                    try clear hcz22_1
                    try clear hcz22_2
                    try clear hcz29_0
                    try clear hcz29_1
                    try clear hcz29_2
                    try clear hcz6_0
                    try clear hcz6_1
                    try clear hcz6_2
                    try clear hcz8_0
                    try clear hcz8_1
                    try clear hcz8_2
                    try clear hfz10_0
                    try clear hfz10_1
                    try clear hfz10_2
                    try clear hfz18_0
                    try clear hfz18_1
                    try clear hfz18_2
                    try clear hfz20_0
                    try clear hfz20_1
                    try clear hfz20_2
                    try clear hfz22_0
                    try clear hfz22_1
                    try clear hfz22_2
                    try clear hfz29_0
                    try clear hfz29_1
                    try clear hfz29_2
                    try clear hfz6_0
                    try clear hfz6_1
                    try clear hfz6_2
                    try clear hfz8_0
                    try clear hfz8_1
                    try clear hfz8_2
                    try clear p2
                    try clear p6
                    obtain ⟨x9_3, rfl, HA, HK3, HO_3, HO_5, HO_8, BK101, HB⟩ := hrel
                    cases gk with
                    | zero => exact absurd HA.out (by simp [icehouselaw09_RingPoints.l0])
                    | succ k3 =>
                      have H := HA.out
                      clear HA
                      simp only [icehouselaw09_RingPoints.l0] at H
                      by_cases c33 : x9_3 < (t104.length : Int)
                      · rw [if_pos c33] at H
                        have c33b0 : decide (x9_3 < (t104.length : Int)) = true := decide_eq_true c33
                        clear c33
                        by_cases c34 : 0 ≤ x9_3
                        · rw [if_pos c34] at H
                          have c34b0 : decide (0 ≤ x9_3) = true := decide_eq_true c34
                          clear c34
                          by_cases c35 : x9_3 < (t114.length : Int)
                          · rw [if_pos c35] at H
                            have c35b0 : decide (x9_3 < (t114.length : Int)) = true := decide_eq_true c35
                            clear c35
                            by_cases c36 : (!(((rd_T51 t104 x9_3).f0) == ((rd_T51 t114 x9_3).f0)) || (!(((rd_T51 t104 x9_3).f1) == ((rd_T51 t114 x9_3).f1)))) = true
                            · rw [if_pos c36] at H
                              have c36b0 : (!(((rd_T51 t104 x9_3).f0) == ((rd_T51 t114 x9_3).f0)) || (!(((rd_T51 t104 x9_3).f1) == ((rd_T51 t114 x9_3).f1)))) = true := c36
                              clear c36
                              obtain rfl := Option.some.inj H
                              have p117 : 0 ≤ (x9_3 : Int) := of_decide_eq_true (by first | (with_reducible assumption) | assumption)
                              have q117 : x9_3 < (t104.length : Int) := of_decide_eq_true (by first | (with_reducible assumption) | assumption)
                              obtain ⟨ad117, e117, hx117_0, hx117_1⟩ := at_T51 (Kd.R_reads' HO_3.out).2.2 x9_3 p117 q117
                              cases e117
                              replace p117 := eq_true p117
                              replace q117 := eq_true q117
                              have p118 : 0 ≤ (x9_3 : Int) := of_decide_eq_true (by first | (with_reducible assumption) | assumption)
                              have q118 : x9_3 < (t114.length : Int) := of_decide_eq_true (by first | (with_reducible assumption) | assumption)
                              obtain ⟨ad118, e118, hx118_0, hx118_1⟩ := at_T51 (Kd.R_reads' HO_8.out).2.2 x9_3 p118 q118
                              cases e118
                              replace p118 := eq_true p118
                              replace q118 := eq_true q118
                              go_wp2
                              repeat (go_quiet (fail); try go_wp2)
                              go_ret
                              exact ⟨by first | rfl | (simp [errW_none, errW_some] <;> rfl) | (simp [*, errW_none, errW_some] <;> rfl), by repeat (first | (with_reducible first | exact HB.out | apply below_alloc | apply pw_below_drewN | apply below_drew1 | refine below_set ?_ GE101.out) | exact HB.out)⟩
                            · rw [if_neg c36] at H
                              have c36b0 : (!(((rd_T51 t104 x9_3).f0) == ((rd_T51 t114 x9_3).f0)) || (!(((rd_T51 t104 x9_3).f1) == ((rd_T51 t114 x9_3).f1)))) = false := by simpa using c36
                              clear c36
                              have H' := Aside0.mk H
                              clear H
                              have p117 : 0 ≤ (x9_3 : Int) := of_decide_eq_true (by first | (with_reducible assumption) | assumption)
                              have q117 : x9_3 < (t104.length : Int) := of_decide_eq_true (by first | (with_reducible assumption) | assumption)
                              obtain ⟨ad117, e117, hx117_0, hx117_1⟩ := at_T51 (Kd.R_reads' HO_3.out).2.2 x9_3 p117 q117
                              cases e117
                              replace p117 := eq_true p117
                              replace q117 := eq_true q117
                              have p118 : 0 ≤ (x9_3 : Int) := of_decide_eq_true (by first | (with_reducible assumption) | assumption)
                              have q118 : x9_3 < (t114.length : Int) := of_decide_eq_true (by first | (with_reducible assumption) | assumption)
                              obtain ⟨ad118, e118, hx118_0, hx118_1⟩ := at_T51 (Kd.R_reads' HO_8.out).2.2 x9_3 p118 q118
                              cases e118
                              replace p118 := eq_true p118
                              replace q118 := eq_true q118
                              go_wp2
                              repeat (go_quiet (fail); try go_wp2)
                              go_roundg k3
                              case measure => have := HJ1.out; have := HJ16.out; have := HK3.out; omega
                              case rel => exact ⟨(wrap64 (x9_3 + 1)), (by first | rfl | (simp; done) | (simp [*]; done)), H', ⟨by have := HJ1.out; have := HJ16.out; have := HK3.out; omega⟩, ⟨by (with_reducible repeat (first | apply Kd.R_alloc | apply Kd.R_drewN | apply Kd.R_drew)); exact HO_3.out⟩, ⟨by (with_reducible repeat (first | apply Kd.S_alloc | apply Kd.S_drewN | apply Kd.S_drew)); exact HO_5.out⟩, ⟨by (with_reducible repeat (first | apply Kd.R_alloc | apply Kd.R_drewN | apply Kd.R_drew)); exact HO_8.out⟩, ⟨by (with_reducible repeat (first | refine blk_drewN ?_ _ | refine blk_drew ?_ | refine blk_alloc ?_ _)); exact BK101.out⟩, ⟨by repeat (first | (with_reducible first | exact HB.out | apply below_alloc | apply pw_below_drewN | apply below_drew1 | refine below_set ?_ GE101.out) | exact HB.out)⟩⟩
                          · rw [if_neg c35] at H
                            exact absurd H (by simp)
                        · rw [if_neg c34] at H
                          exact absurd H (by simp)
                      · rw [if_neg c33] at H
                        have c33b0 : decide (x9_3 < (t104.length : Int)) = false := decide_eq_false c33
                        clear c33
                        replace H := Option.bind_eq_some_iff.mp H
                        obtain ⟨t119, A370, H⟩ := H
                        replace H : ((QH.icehouseref09_SameLists.f k3 t108 t119).bind fun t122 => (if t122 = true then ((QR.icehouselaw09_known.f k3).bind fun t123 => (some t123)) else (some false))) = some r := H
                        have A37 := Aside0.mk A370
                        clear A370
                        replace H := Option.bind_eq_some_iff.mp H
                        obtain ⟨t122, A380, H⟩ := H
                        replace H : (if t122 = true then ((QR.icehouselaw09_known.f k3).bind fun t123 => (some t123)) else (some false)) = some r := H
                        have A38 := Aside0.mk A380
                        clear A380
                        by_cases c39 : t122 = true
                        · subst c39
                          have H1 : ((QR.icehouselaw09_known.f k3).bind fun t123 => (some t123)) = some r := by rw [if_pos rfl] at H; exact H
                          clear H
                          have H := H1
                          clear H1
                          replace H := Option.bind_eq_some_iff.mp H
                          obtain ⟨t123, A400, H⟩ := H
                          replace H : (some t123) = some r := H
                          have A40 := Aside0.mk A400
                          clear A400
                          obtain rfl := Option.some.inj H
                          have hcz41_0 : wr.cell? ⟨gb101, 0, none⟩ = some (.slice A0_0 l0_0.length c0_0) := (blk_cell BK101.out 0).trans rfl
                          have hcz41_1 : wr.cell? ⟨gb101, 1, none⟩ = some (.int .i64 a0_1) := (blk_cell BK101.out 1).trans rfl
                          have hcz41_2 : wr.cell? ⟨gb101, 2, none⟩ = some (.int .i64 a0_2) := (blk_cell BK101.out 2).trans rfl
                          have hfz41_0 := blk_frozen BK101.out 0
                          have hfz41_1 := blk_frozen BK101.out 1
                          have hfz41_2 := blk_frozen BK101.out 2
                          go_wp2_with (first | (go_at_call 26; (with_reducible refine (QH.icehouseref09_Lists.calls k3 _ _ l0_0 a0_1 a0_2 t119 _ ?side1 ?side2 A37.out).mono ?_); (case side1 => repeat (first | exact (Kd.C_below HR0_0.out HB.out) | (with_reducible refine Kd.C_alloc ?_ _) | (with_reducible refine Kd.C_drewN ?_ _) | (with_reducible refine Kd.C_drew ?_))); (case side2 => exact HC0_0.out); rintro e w42 ⟨v120, rfl, ho0, hb⟩; have n0_ := Aside0.mk (Kd.R_below (by (with_reducible repeat (first | apply Kd.R_alloc | apply Kd.R_drewN | apply Kd.R_drew)); exact HO_3.out) hb); have n1_ := Aside0.mk (Kd.S_elder' (by (with_reducible repeat (first | apply Kd.S_alloc | apply Kd.S_drewN | apply Kd.S_drew)); exact HO_5.out) (Kd.S_base ho0) hb); have n2_ := Aside0.mk (Kd.R_below (by (with_reducible repeat (first | apply Kd.R_alloc | apply Kd.R_drewN | apply Kd.R_drew)); exact HO_8.out) hb); have n3_ := Aside0.mk (Kd.S_lower (Kd.S_new' ho0 (Kd.S_lt (by (with_reducible repeat (first | apply Kd.S_alloc | apply Kd.S_drewN | apply Kd.S_drew)); exact HO_5.out))) (below_size (by repeat (first | (with_reducible first | exact HB.out | apply below_alloc | apply pw_below_drewN | apply below_drew1 | refine below_set ?_ GE101.out) | exact HB.out)))); have n4_ := Aside0.mk (blk_below (g := gb101) (o := .cells #[.slice A0_0 l0_0.length c0_0, .int .i64 a0_1, .int .i64 a0_2] 24 (0, 0)) (by (with_reducible repeat (first | refine blk_drewN ?_ _ | refine blk_drew ?_ | refine blk_alloc ?_ _)); exact BK101.out) hb); have n5_ := Aside0.mk (below_step (by repeat (first | (with_reducible first | exact HB.out | apply below_alloc | apply pw_below_drewN | apply below_drew1 | refine below_set ?_ GE101.out) | exact HB.out)) hb); clear HO_3; clear HO_5; clear HO_8; clear BK101; clear HB; have HO_3 := n0_; have HO_5 := n1_; have HO_8 := n2_; have HO121 := n3_; have BK101 := n4_; have HB := n5_; clear n0_ n1_ n2_ n3_ n4_ n5_; (try clear hb); (try clear hb2); (try clear hk); (try clear hi); (try clear ho0); obtain ⟨Ao43, co43, eo43⟩ := Kd.S_slice HO_5.out; subst eo43; obtain ⟨Ao44, co44, eo44⟩ := Kd.S_slice HO121.out; subst eo44) | (go_at_call 25; (with_reducible refine (QH.icehouseref09_SameLists.calls k3 _ _ t108 _ _ t119 true _ ?side1 ?side2 ?side3 ?side4 A38.out).mono ?_); (case side1 => repeat (first | exact (Kd.S_reads' HO_5.out).2.2 | (with_reducible refine Kd.C_alloc ?_ _) | (with_reducible refine Kd.C_drewN ?_ _) | (with_reducible refine Kd.C_drew ?_))); (case side2 => exact (Kd.S_reads' HO_5.out).2.1); (case side3 => repeat (first | exact (Kd.S_reads' HO121.out).2.2 | (with_reducible refine Kd.C_alloc ?_ _) | (with_reducible refine Kd.C_drewN ?_ _) | (with_reducible refine Kd.C_drew ?_))); (case side4 => exact (Kd.S_reads' HO121.out).2.1); rintro e w' ⟨rfl, ⟨nd, rfl⟩⟩; (try first | exact ⟨rfl, _, World.drewN_drewN _ _ _⟩ | exact ⟨rfl, _, Eq.trans (World.drewN_drewN _ _ _) (congrArg (World.drewN _) (Nat.add_assoc _ _ _))⟩)) | (go_at_call 12; (with_reducible refine (QR.icehouselaw09_known.calls k3  t123 _ A40.out).mono ?_); rintro e w45 ⟨rfl, hb⟩; have n0_ := Aside0.mk (Kd.R_below (by (with_reducible repeat (first | apply Kd.R_alloc | apply Kd.R_drewN | apply Kd.R_drew)); exact HO_3.out) hb); have n1_ := Aside0.mk (Kd.S_below (by (with_reducible repeat (first | apply Kd.S_alloc | apply Kd.S_drewN | apply Kd.S_drew)); exact HO_5.out) hb); have n2_ := Aside0.mk (Kd.R_below (by (with_reducible repeat (first | apply Kd.R_alloc | apply Kd.R_drewN | apply Kd.R_drew)); exact HO_8.out) hb); have n3_ := Aside0.mk (Kd.S_below (by (with_reducible repeat (first | apply Kd.S_alloc | apply Kd.S_drewN | apply Kd.S_drew)); exact HO121.out) hb); have n4_ := Aside0.mk (blk_below (g := gb101) (o := .cells #[.slice A0_0 l0_0.length c0_0, .int .i64 a0_1, .int .i64 a0_2] 24 (0, 0)) (by (with_reducible repeat (first | refine blk_drewN ?_ _ | refine blk_drew ?_ | refine blk_alloc ?_ _)); exact BK101.out) hb); have n5_ := Aside0.mk (below_step (by repeat (first | (with_reducible first | exact HB.out | apply below_alloc | apply pw_below_drewN | apply below_drew1 | refine below_set ?_ GE101.out) | exact HB.out)) hb); clear HO_3; clear HO_5; clear HO_8; clear HO121; clear BK101; clear HB; have HO_3 := n0_; have HO_5 := n1_; have HO_8 := n2_; have HO121 := n3_; have BK101 := n4_; have HB := n5_; clear n0_ n1_ n2_ n3_ n4_ n5_; (try clear hb); (try clear hb2); (try clear hk); (try clear hi)))
                          repeat (go_quiet (first | (go_at_call 26; (with_reducible refine (QH.icehouseref09_Lists.calls k3 _ _ l0_0 a0_1 a0_2 t119 _ ?side1 ?side2 A37.out).mono ?_); (case side1 => repeat (first | exact (Kd.C_below HR0_0.out HB.out) | (with_reducible refine Kd.C_alloc ?_ _) | (with_reducible refine Kd.C_drewN ?_ _) | (with_reducible refine Kd.C_drew ?_))); (case side2 => exact HC0_0.out); rintro e w42 ⟨v120, rfl, ho0, hb⟩; have n0_ := Aside0.mk (Kd.R_below (by (with_reducible repeat (first | apply Kd.R_alloc | apply Kd.R_drewN | apply Kd.R_drew)); exact HO_3.out) hb); have n1_ := Aside0.mk (Kd.S_elder' (by (with_reducible repeat (first | apply Kd.S_alloc | apply Kd.S_drewN | apply Kd.S_drew)); exact HO_5.out) (Kd.S_base ho0) hb); have n2_ := Aside0.mk (Kd.R_below (by (with_reducible repeat (first | apply Kd.R_alloc | apply Kd.R_drewN | apply Kd.R_drew)); exact HO_8.out) hb); have n3_ := Aside0.mk (Kd.S_lower (Kd.S_new' ho0 (Kd.S_lt (by (with_reducible repeat (first | apply Kd.S_alloc | apply Kd.S_drewN | apply Kd.S_drew)); exact HO_5.out))) (below_size (by repeat (first | (with_reducible first | exact HB.out | apply below_alloc | apply pw_below_drewN | apply below_drew1 | refine below_set ?_ GE101.out) | exact HB.out)))); have n4_ := Aside0.mk (blk_below (g := gb101) (o := .cells #[.slice A0_0 l0_0.length c0_0, .int .i64 a0_1, .int .i64 a0_2] 24 (0, 0)) (by (with_reducible repeat (first | refine blk_drewN ?_ _ | refine blk_drew ?_ | refine blk_alloc ?_ _)); exact BK101.out) hb); have n5_ := Aside0.mk (below_step (by repeat (first | (with_reducible first | exact HB.out | apply below_alloc | apply pw_below_drewN | apply below_drew1 | refine below_set ?_ GE101.out) | exact HB.out)) hb); clear HO_3; clear HO_5; clear HO_8; clear BK101; clear HB; have HO_3 := n0_; have HO_5 := n1_; have HO_8 := n2_; have HO121 := n3_; have BK101 := n4_; have HB := n5_; clear n0_ n1_ n2_ n3_ n4_ n5_; (try clear hb); (try clear hb2); (try clear hk); (try clear hi); (try clear ho0); obtain ⟨Ao43, co43, eo43⟩ := Kd.S_slice HO_5.out; subst eo43; obtain ⟨Ao44, co44, eo44⟩ := Kd.S_slice HO121.out; subst eo44) | (go_at_call 25; (with_reducible refine (QH.icehouseref09_SameLists.calls k3 _ _ t108 _ _ t119 true _ ?side1 ?side2 ?side3 ?side4 A38.out).mono ?_); (case side1 => repeat (first | exact (Kd.S_reads' HO_5.out).2.2 | (with_reducible refine Kd.C_alloc ?_ _) | (with_reducible refine Kd.C_drewN ?_ _) | (with_reducible refine Kd.C_drew ?_))); (case side2 => exact (Kd.S_reads' HO_5.out).2.1); (case side3 => repeat (first | exact (Kd.S_reads' HO121.out).2.2 | (with_reducible refine Kd.C_alloc ?_ _) | (with_reducible refine Kd.C_drewN ?_ _) | (with_reducible refine Kd.C_drew ?_))); (case side4 => exact (Kd.S_reads' HO121.out).2.1); rintro e w' ⟨rfl, ⟨nd, rfl⟩⟩; (try first | exact ⟨rfl, _, World.drewN_drewN _ _ _⟩ | exact ⟨rfl, _, Eq.trans (World.drewN_drewN _ _ _) (congrArg (World.drewN _) (Nat.add_assoc _ _ _))⟩)) | (go_at_call 12; (with_reducible refine (QR.icehouselaw09_known.calls k3  t123 _ A40.out).mono ?_); rintro e w45 ⟨rfl, hb⟩; have n0_ := Aside0.mk (Kd.R_below (by (with_reducible repeat (first | apply Kd.R_alloc | apply Kd.R_drewN | apply Kd.R_drew)); exact HO_3.out) hb); have n1_ := Aside0.mk (Kd.S_below (by (with_reducible repeat (first | apply Kd.S_alloc | apply Kd.S_drewN | apply Kd.S_drew)); exact HO_5.out) hb); have n2_ := Aside0.mk (Kd.R_below (by (with_reducible repeat (first | apply Kd.R_alloc | apply Kd.R_drewN | apply Kd.R_drew)); exact HO_8.out) hb); have n3_ := Aside0.mk (Kd.S_below (by (with_reducible repeat (first | apply Kd.S_alloc | apply Kd.S_drewN | apply Kd.S_drew)); exact HO121.out) hb); have n4_ := Aside0.mk (blk_below (g := gb101) (o := .cells #[.slice A0_0 l0_0.length c0_0, .int .i64 a0_1, .int .i64 a0_2] 24 (0, 0)) (by (with_reducible repeat (first | refine blk_drewN ?_ _ | refine blk_drew ?_ | refine blk_alloc ?_ _)); exact BK101.out) hb); have n5_ := Aside0.mk (below_step (by repeat (first | (with_reducible first | exact HB.out | apply below_alloc | apply pw_below_drewN | apply below_drew1 | refine below_set ?_ GE101.out) | exact HB.out)) hb); clear HO_3; clear HO_5; clear HO_8; clear HO121; clear BK101; clear HB; have HO_3 := n0_; have HO_5 := n1_; have HO_8 := n2_; have HO121 := n3_; have BK101 := n4_; have HB := n5_; clear n0_ n1_ n2_ n3_ n4_ n5_; (try clear hb); (try clear hb2); (try clear hk); (try clear hi))); try go_wp2_with (first | (go_at_call 26; (with_reducible refine (QH.icehouseref09_Lists.calls k3 _ _ l0_0 a0_1 a0_2 t119 _ ?side1 ?side2 A37.out).mono ?_); (case side1 => repeat (first | exact (Kd.C_below HR0_0.out HB.out) | (with_reducible refine Kd.C_alloc ?_ _) | (with_reducible refine Kd.C_drewN ?_ _) | (with_reducible refine Kd.C_drew ?_))); (case side2 => exact HC0_0.out); rintro e w42 ⟨v120, rfl, ho0, hb⟩; have n0_ := Aside0.mk (Kd.R_below (by (with_reducible repeat (first | apply Kd.R_alloc | apply Kd.R_drewN | apply Kd.R_drew)); exact HO_3.out) hb); have n1_ := Aside0.mk (Kd.S_elder' (by (with_reducible repeat (first | apply Kd.S_alloc | apply Kd.S_drewN | apply Kd.S_drew)); exact HO_5.out) (Kd.S_base ho0) hb); have n2_ := Aside0.mk (Kd.R_below (by (with_reducible repeat (first | apply Kd.R_alloc | apply Kd.R_drewN | apply Kd.R_drew)); exact HO_8.out) hb); have n3_ := Aside0.mk (Kd.S_lower (Kd.S_new' ho0 (Kd.S_lt (by (with_reducible repeat (first | apply Kd.S_alloc | apply Kd.S_drewN | apply Kd.S_drew)); exact HO_5.out))) (below_size (by repeat (first | (with_reducible first | exact HB.out | apply below_alloc | apply pw_below_drewN | apply below_drew1 | refine below_set ?_ GE101.out) | exact HB.out)))); have n4_ := Aside0.mk (blk_below (g := gb101) (o := .cells #[.slice A0_0 l0_0.length c0_0, .int .i64 a0_1, .int .i64 a0_2] 24 (0, 0)) (by (with_reducible repeat (first | refine blk_drewN ?_ _ | refine blk_drew ?_ | refine blk_alloc ?_ _)); exact BK101.out) hb); have n5_ := Aside0.mk (below_step (by repeat (first | (with_reducible first | exact HB.out | apply below_alloc | apply pw_below_drewN | apply below_drew1 | refine below_set ?_ GE101.out) | exact HB.out)) hb); clear HO_3; clear HO_5; clear HO_8; clear BK101; clear HB; have HO_3 := n0_; have HO_5 := n1_; have HO_8 := n2_; have HO121 := n3_; have BK101 := n4_; have HB := n5_; clear n0_ n1_ n2_ n3_ n4_ n5_; (try clear hb); (try clear hb2); (try clear hk); (try clear hi); (try clear ho0); obtain ⟨Ao43, co43, eo43⟩ := Kd.S_slice HO_5.out; subst eo43; obtain ⟨Ao44, co44, eo44⟩ := Kd.S_slice HO121.out; subst eo44) | (go_at_call 25; (with_reducible refine (QH.icehouseref09_SameLists.calls k3 _ _ t108 _ _ t119 true _ ?side1 ?side2 ?side3 ?side4 A38.out).mono ?_); (case side1 => repeat (first | exact (Kd.S_reads' HO_5.out).2.2 | (with_reducible refine Kd.C_alloc ?_ _) | (with_reducible refine Kd.C_drewN ?_ _) | (with_reducible refine Kd.C_drew ?_))); (case side2 => exact (Kd.S_reads' HO_5.out).2.1); (case side3 => repeat (first | exact (Kd.S_reads' HO121.out).2.2 | (with_reducible refine Kd.C_alloc ?_ _) | (with_reducible refine Kd.C_drewN ?_ _) | (with_reducible refine Kd.C_drew ?_))); (case side4 => exact (Kd.S_reads' HO121.out).2.1); rintro e w' ⟨rfl, ⟨nd, rfl⟩⟩; (try first | exact ⟨rfl, _, World.drewN_drewN _ _ _⟩ | exact ⟨rfl, _, Eq.trans (World.drewN_drewN _ _ _) (congrArg (World.drewN _) (Nat.add_assoc _ _ _))⟩)) | (go_at_call 12; (with_reducible refine (QR.icehouselaw09_known.calls k3  t123 _ A40.out).mono ?_); rintro e w45 ⟨rfl, hb⟩; have n0_ := Aside0.mk (Kd.R_below (by (with_reducible repeat (first | apply Kd.R_alloc | apply Kd.R_drewN | apply Kd.R_drew)); exact HO_3.out) hb); have n1_ := Aside0.mk (Kd.S_below (by (with_reducible repeat (first | apply Kd.S_alloc | apply Kd.S_drewN | apply Kd.S_drew)); exact HO_5.out) hb); have n2_ := Aside0.mk (Kd.R_below (by (with_reducible repeat (first | apply Kd.R_alloc | apply Kd.R_drewN | apply Kd.R_drew)); exact HO_8.out) hb); have n3_ := Aside0.mk (Kd.S_below (by (with_reducible repeat (first | apply Kd.S_alloc | apply Kd.S_drewN | apply Kd.S_drew)); exact HO121.out) hb); have n4_ := Aside0.mk (blk_below (g := gb101) (o := .cells #[.slice A0_0 l0_0.length c0_0, .int .i64 a0_1, .int .i64 a0_2] 24 (0, 0)) (by (with_reducible repeat (first | refine blk_drewN ?_ _ | refine blk_drew ?_ | refine blk_alloc ?_ _)); exact BK101.out) hb); have n5_ := Aside0.mk (below_step (by repeat (first | (with_reducible first | exact HB.out | apply below_alloc | apply pw_below_drewN | apply below_drew1 | refine below_set ?_ GE101.out) | exact HB.out)) hb); clear HO_3; clear HO_5; clear HO_8; clear HO121; clear BK101; clear HB; have HO_3 := n0_; have HO_5 := n1_; have HO_8 := n2_; have HO121 := n3_; have BK101 := n4_; have HB := n5_; clear n0_ n1_ n2_ n3_ n4_ n5_; (try clear hb); (try clear hb2); (try clear hk); (try clear hi))))
                          go_ret
                          exact ⟨by first | rfl | (simp [errW_none, errW_some] <;> rfl) | (simp [*, errW_none, errW_some] <;> rfl), by repeat (first | (with_reducible first | exact HB.out | apply below_alloc | apply pw_below_drewN | apply below_drew1 | refine below_set ?_ GE101.out) | exact HB.out)⟩
                        · replace c39 := Bool.eq_false_iff.mpr c39
                          subst c39
                          have H1 : (some false) = some r := by rw [if_neg (show ¬ (false = true) by decide)] at H; exact H
                          clear H
                          have H := H1
                          clear H1
                          obtain rfl := Option.some.inj H
                          have hcz46_0 : wr.cell? ⟨gb101, 0, none⟩ = some (.slice A0_0 l0_0.length c0_0) := (blk_cell BK101.out 0).trans rfl
                          have hcz46_1 : wr.cell? ⟨gb101, 1, none⟩ = some (.int .i64 a0_1) := (blk_cell BK101.out 1).trans rfl
                          have hcz46_2 : wr.cell? ⟨gb101, 2, none⟩ = some (.int .i64 a0_2) := (blk_cell BK101.out 2).trans rfl
                          have hfz46_0 := blk_frozen BK101.out 0
                          have hfz46_1 := blk_frozen BK101.out 1
                          have hfz46_2 := blk_frozen BK101.out 2
                          go_wp2_with (first | (go_at_call 26; (with_reducible refine (QH.icehouseref09_Lists.calls k3 _ _ l0_0 a0_1 a0_2 t119 _ ?side1 ?side2 A37.out).mono ?_); (case side1 => repeat (first | exact (Kd.C_below HR0_0.out HB.out) | (with_reducible refine Kd.C_alloc ?_ _) | (with_reducible refine Kd.C_drewN ?_ _) | (with_reducible refine Kd.C_drew ?_))); (case side2 => exact HC0_0.out); rintro e w47 ⟨v120, rfl, ho0, hb⟩; have n0_ := Aside0.mk (Kd.R_below (by (with_reducible repeat (first | apply Kd.R_alloc | apply Kd.R_drewN | apply Kd.R_drew)); exact HO_3.out) hb); have n1_ := Aside0.mk (Kd.S_elder' (by (with_reducible repeat (first | apply Kd.S_alloc | apply Kd.S_drewN | apply Kd.S_drew)); exact HO_5.out) (Kd.S_base ho0) hb); have n2_ := Aside0.mk (Kd.R_below (by (with_reducible repeat (first | apply Kd.R_alloc | apply Kd.R_drewN | apply Kd.R_drew)); exact HO_8.out) hb); have n3_ := Aside0.mk (Kd.S_lower (Kd.S_new' ho0 (Kd.S_lt (by (with_reducible repeat (first | apply Kd.S_alloc | apply Kd.S_drewN | apply Kd.S_drew)); exact HO_5.out))) (below_size (by repeat (first | (with_reducible first | exact HB.out | apply below_alloc | apply pw_below_drewN | apply below_drew1 | refine below_set ?_ GE101.out) | exact HB.out)))); have n4_ := Aside0.mk (blk_below (g := gb101) (o := .cells #[.slice A0_0 l0_0.length c0_0, .int .i64 a0_1, .int .i64 a0_2] 24 (0, 0)) (by (with_reducible repeat (first | refine blk_drewN ?_ _ | refine blk_drew ?_ | refine blk_alloc ?_ _)); exact BK101.out) hb); have n5_ := Aside0.mk (below_step (by repeat (first | (with_reducible first | exact HB.out | apply below_alloc | apply pw_below_drewN | apply below_drew1 | refine below_set ?_ GE101.out) | exact HB.out)) hb); clear HO_3; clear HO_5; clear HO_8; clear BK101; clear HB; have HO_3 := n0_; have HO_5 := n1_; have HO_8 := n2_; have HO121 := n3_; have BK101 := n4_; have HB := n5_; clear n0_ n1_ n2_ n3_ n4_ n5_; (try clear hb); (try clear hb2); (try clear hk); (try clear hi); (try clear ho0); obtain ⟨Ao48, co48, eo48⟩ := Kd.S_slice HO_5.out; subst eo48; obtain ⟨Ao49, co49, eo49⟩ := Kd.S_slice HO121.out; subst eo49) | (go_at_call 25; (with_reducible refine (QH.icehouseref09_SameLists.calls k3 _ _ t108 _ _ t119 false _ ?side1 ?side2 ?side3 ?side4 A38.out).mono ?_); (case side1 => repeat (first | exact (Kd.S_reads' HO_5.out).2.2 | (with_reducible refine Kd.C_alloc ?_ _) | (with_reducible refine Kd.C_drewN ?_ _) | (with_reducible refine Kd.C_drew ?_))); (case side2 => exact (Kd.S_reads' HO_5.out).2.1); (case side3 => repeat (first | exact (Kd.S_reads' HO121.out).2.2 | (with_reducible refine Kd.C_alloc ?_ _) | (with_reducible refine Kd.C_drewN ?_ _) | (with_reducible refine Kd.C_drew ?_))); (case side4 => exact (Kd.S_reads' HO121.out).2.1); rintro e w' ⟨rfl, ⟨nd, rfl⟩⟩; (try first | exact ⟨rfl, _, World.drewN_drewN _ _ _⟩ | exact ⟨rfl, _, Eq.trans (World.drewN_drewN _ _ _) (congrArg (World.drewN _) (Nat.add_assoc _ _ _))⟩)))
                          repeat (go_quiet (first | (go_at_call 26; (with_reducible refine (QH.icehouseref09_Lists.calls k3 _ _ l0_0 a0_1 a0_2 t119 _ ?side1 ?side2 A37.out).mono ?_); (case side1 => repeat (first | exact (Kd.C_below HR0_0.out HB.out) | (with_reducible refine Kd.C_alloc ?_ _) | (with_reducible refine Kd.C_drewN ?_ _) | (with_reducible refine Kd.C_drew ?_))); (case side2 => exact HC0_0.out); rintro e w47 ⟨v120, rfl, ho0, hb⟩; have n0_ := Aside0.mk (Kd.R_below (by (with_reducible repeat (first | apply Kd.R_alloc | apply Kd.R_drewN | apply Kd.R_drew)); exact HO_3.out) hb); have n1_ := Aside0.mk (Kd.S_elder' (by (with_reducible repeat (first | apply Kd.S_alloc | apply Kd.S_drewN | apply Kd.S_drew)); exact HO_5.out) (Kd.S_base ho0) hb); have n2_ := Aside0.mk (Kd.R_below (by (with_reducible repeat (first | apply Kd.R_alloc | apply Kd.R_drewN | apply Kd.R_drew)); exact HO_8.out) hb); have n3_ := Aside0.mk (Kd.S_lower (Kd.S_new' ho0 (Kd.S_lt (by (with_reducible repeat (first | apply Kd.S_alloc | apply Kd.S_drewN | apply Kd.S_drew)); exact HO_5.out))) (below_size (by repeat (first | (with_reducible first | exact HB.out | apply below_alloc | apply pw_below_drewN | apply below_drew1 | refine below_set ?_ GE101.out) | exact HB.out)))); have n4_ := Aside0.mk (blk_below (g := gb101) (o := .cells #[.slice A0_0 l0_0.length c0_0, .int .i64 a0_1, .int .i64 a0_2] 24 (0, 0)) (by (with_reducible repeat (first | refine blk_drewN ?_ _ | refine blk_drew ?_ | refine blk_alloc ?_ _)); exact BK101.out) hb); have n5_ := Aside0.mk (below_step (by repeat (first | (with_reducible first | exact HB.out | apply below_alloc | apply pw_below_drewN | apply below_drew1 | refine below_set ?_ GE101.out) | exact HB.out)) hb); clear HO_3; clear HO_5; clear HO_8; clear BK101; clear HB; have HO_3 := n0_; have HO_5 := n1_; have HO_8 := n2_; have HO121 := n3_; have BK101 := n4_; have HB := n5_; clear n0_ n1_ n2_ n3_ n4_ n5_; (try clear hb); (try clear hb2); (try clear hk); (try clear hi); (try clear ho0); obtain ⟨Ao48, co48, eo48⟩ := Kd.S_slice HO_5.out; subst eo48; obtain ⟨Ao49, co49, eo49⟩ := Kd.S_slice HO121.out; subst eo49) | (go_at_call 25; (with_reducible refine (QH.icehouseref09_SameLists.calls k3 _ _ t108 _ _ t119 false _ ?side1 ?side2 ?side3 ?side4 A38.out).mono ?_); (case side1 => repeat (first | exact (Kd.S_reads' HO_5.out).2.2 | (with_reducible refine Kd.C_alloc ?_ _) | (with_reducible refine Kd.C_drewN ?_ _) | (with_reducible refine Kd.C_drew ?_))); (case side2 => exact (Kd.S_reads' HO_5.out).2.1); (case side3 => repeat (first | exact (Kd.S_reads' HO121.out).2.2 | (with_reducible refine Kd.C_alloc ?_ _) | (with_reducible refine Kd.C_drewN ?_ _) | (with_reducible refine Kd.C_drew ?_))); (case side4 => exact (Kd.S_reads' HO121.out).2.1); rintro e w' ⟨rfl, ⟨nd, rfl⟩⟩; (try first | exact ⟨rfl, _, World.drewN_drewN _ _ _⟩ | exact ⟨rfl, _, Eq.trans (World.drewN_drewN _ _ _) (congrArg (World.drewN _) (Nat.add_assoc _ _ _))⟩))); try go_wp2_with (first | (go_at_call 26; (with_reducible refine (QH.icehouseref09_Lists.calls k3 _ _ l0_0 a0_1 a0_2 t119 _ ?side1 ?side2 A37.out).mono ?_); (case side1 => repeat (first | exact (Kd.C_below HR0_0.out HB.out) | (with_reducible refine Kd.C_alloc ?_ _) | (with_reducible refine Kd.C_drewN ?_ _) | (with_reducible refine Kd.C_drew ?_))); (case side2 => exact HC0_0.out); rintro e w47 ⟨v120, rfl, ho0, hb⟩; have n0_ := Aside0.mk (Kd.R_below (by (with_reducible repeat (first | apply Kd.R_alloc | apply Kd.R_drewN | apply Kd.R_drew)); exact HO_3.out) hb); have n1_ := Aside0.mk (Kd.S_elder' (by (with_reducible repeat (first | apply Kd.S_alloc | apply Kd.S_drewN | apply Kd.S_drew)); exact HO_5.out) (Kd.S_base ho0) hb); have n2_ := Aside0.mk (Kd.R_below (by (with_reducible repeat (first | apply Kd.R_alloc | apply Kd.R_drewN | apply Kd.R_drew)); exact HO_8.out) hb); have n3_ := Aside0.mk (Kd.S_lower (Kd.S_new' ho0 (Kd.S_lt (by (with_reducible repeat (first | apply Kd.S_alloc | apply Kd.S_drewN | apply Kd.S_drew)); exact HO_5.out))) (below_size (by repeat (first | (with_reducible first | exact HB.out | apply below_alloc | apply pw_below_drewN | apply below_drew1 | refine below_set ?_ GE101.out) | exact HB.out)))); have n4_ := Aside0.mk (blk_below (g := gb101) (o := .cells #[.slice A0_0 l0_0.length c0_0, .int .i64 a0_1, .int .i64 a0_2] 24 (0, 0)) (by (with_reducible repeat (first | refine blk_drewN ?_ _ | refine blk_drew ?_ | refine blk_alloc ?_ _)); exact BK101.out) hb); have n5_ := Aside0.mk (below_step (by repeat (first | (with_reducible first | exact HB.out | apply below_alloc | apply pw_below_drewN | apply below_drew1 | refine below_set ?_ GE101.out) | exact HB.out)) hb); clear HO_3; clear HO_5; clear HO_8; clear BK101; clear HB; have HO_3 := n0_; have HO_5 := n1_; have HO_8 := n2_; have HO121 := n3_; have BK101 := n4_; have HB := n5_; clear n0_ n1_ n2_ n3_ n4_ n5_; (try clear hb); (try clear hb2); (try clear hk); (try clear hi); (try clear ho0); obtain ⟨Ao48, co48, eo48⟩ := Kd.S_slice HO_5.out; subst eo48; obtain ⟨Ao49, co49, eo49⟩ := Kd.S_slice HO121.out; subst eo49) | (go_at_call 25; (with_reducible refine (QH.icehouseref09_SameLists.calls k3 _ _ t108 _ _ t119 false _ ?side1 ?side2 ?side3 ?side4 A38.out).mono ?_); (case side1 => repeat (first | exact (Kd.S_reads' HO_5.out).2.2 | (with_reducible refine Kd.C_alloc ?_ _) | (with_reducible refine Kd.C_drewN ?_ _) | (with_reducible refine Kd.C_drew ?_))); (case side2 => exact (Kd.S_reads' HO_5.out).2.1); (case side3 => repeat (first | exact (Kd.S_reads' HO121.out).2.2 | (with_reducible refine Kd.C_alloc ?_ _) | (with_reducible refine Kd.C_drewN ?_ _) | (with_reducible refine Kd.C_drew ?_))); (case side4 => exact (Kd.S_reads' HO121.out).2.1); rintro e w' ⟨rfl, ⟨nd, rfl⟩⟩; (try first | exact ⟨rfl, _, World.drewN_drewN _ _ _⟩ | exact ⟨rfl, _, Eq.trans (World.drewN_drewN _ _ _) (congrArg (World.drewN _) (Nat.add_assoc _ _ _))⟩))))
                          go_ret
                          exact ⟨by first | rfl | (simp [errW_none, errW_some] <;> rfl) | (simp [*, errW_none, errW_some] <;> rfl), by repeat (first | (with_reducible first | exact HB.out | apply below_alloc | apply pw_below_drewN | apply below_drew1 | refine below_set ?_ GE101.out) | exact HB.out)⟩
                · rw [if_neg c28] at H
                  have c28b0 : ((t104.length : Int) == (t114.length : Int)) = false := beq_eq_false_iff_ne.mpr c28
                  have c28b1 : ((t104.length : Int) != (t114.length : Int)) = true := bne_iff_ne.mpr c28
                  have c28b2 : (t104.length == t114.length) = false := by first | simpa using c28 | (simp at c28 ⊢; omega)
                  obtain rfl := Option.some.inj H
                  have hcz50_0 : wc.cell? ⟨gb101, 0, none⟩ = some (.slice A0_0 l0_0.length c0_0) := (blk_cell BK101.out 0).trans rfl
                  have hcz50_1 : wc.cell? ⟨gb101, 1, none⟩ = some (.int .i64 a0_1) := (blk_cell BK101.out 1).trans rfl
                  have hcz50_2 : wc.cell? ⟨gb101, 2, none⟩ = some (.int .i64 a0_2) := (blk_cell BK101.out 2).trans rfl
                  have hfz50_0 := blk_frozen BK101.out 0
                  have hfz50_1 := blk_frozen BK101.out 1
                  have hfz50_2 := blk_frozen BK101.out 2
                  go_wp2_with (first | (go_at_call 22; (with_reducible refine (QH.icehouseref09_Points.calls kj16 _ _ l0_0 a0_1 a0_2 t114 _ ?side1 ?side2 A27.out).mono ?_); (case side1 => repeat (first | exact (Kd.C_below HR0_0.out HB.out) | (with_reducible refine Kd.C_alloc ?_ _) | (with_reducible refine Kd.C_drewN ?_ _) | (with_reducible refine Kd.C_drew ?_))); (case side2 => exact HC0_0.out); rintro e w51 ⟨v115, rfl, ho0, hb⟩; have n0_ := Aside0.mk (Kd.R_elder' (by (with_reducible repeat (first | apply Kd.R_alloc | apply Kd.R_drewN | apply Kd.R_drew)); exact HO_3.out) (Kd.R_base ho0) hb); have n1_ := Aside0.mk (Kd.S_below (by (with_reducible repeat (first | apply Kd.S_alloc | apply Kd.S_drewN | apply Kd.S_drew)); exact HO_5.out) hb); have n2_ := Aside0.mk (Kd.R_lower (Kd.R_new' ho0 (Kd.R_lt (by (with_reducible repeat (first | apply Kd.R_alloc | apply Kd.R_drewN | apply Kd.R_drew)); exact HO_3.out))) (below_size (by repeat (first | (with_reducible first | exact HB.out | apply below_alloc | apply pw_below_drewN | apply below_drew1 | refine below_set ?_ GE101.out) | exact HB.out)))); have n3_ := Aside0.mk (blk_below (g := gb101) (o := .cells #[.slice A0_0 l0_0.length c0_0, .int .i64 a0_1, .int .i64 a0_2] 24 (0, 0)) (by (with_reducible repeat (first | refine blk_drewN ?_ _ | refine blk_drew ?_ | refine blk_alloc ?_ _)); exact BK101.out) hb); have n4_ := Aside0.mk (below_step (by repeat (first | (with_reducible first | exact HB.out | apply below_alloc | apply pw_below_drewN | apply below_drew1 | refine below_set ?_ GE101.out) | exact HB.out)) hb); clear HO_3; clear HO_5; clear BK101; clear HB; have HO_3 := n0_; have HO_5 := n1_; have HO116 := n2_; have BK101 := n3_; have HB := n4_; clear n0_ n1_ n2_ n3_ n4_; (try clear hb); (try clear hb2); (try clear hk); (try clear hi); (try clear ho0); obtain ⟨Ao52, co52, eo52⟩ := Kd.R_slice HO_3.out; subst eo52; obtain ⟨Ao53, co53, eo53⟩ := Kd.R_slice HO116.out; subst eo53))
                  repeat (go_quiet (first | (go_at_call 22; (with_reducible refine (QH.icehouseref09_Points.calls kj16 _ _ l0_0 a0_1 a0_2 t114 _ ?side1 ?side2 A27.out).mono ?_); (case side1 => repeat (first | exact (Kd.C_below HR0_0.out HB.out) | (with_reducible refine Kd.C_alloc ?_ _) | (with_reducible refine Kd.C_drewN ?_ _) | (with_reducible refine Kd.C_drew ?_))); (case side2 => exact HC0_0.out); rintro e w51 ⟨v115, rfl, ho0, hb⟩; have n0_ := Aside0.mk (Kd.R_elder' (by (with_reducible repeat (first | apply Kd.R_alloc | apply Kd.R_drewN | apply Kd.R_drew)); exact HO_3.out) (Kd.R_base ho0) hb); have n1_ := Aside0.mk (Kd.S_below (by (with_reducible repeat (first | apply Kd.S_alloc | apply Kd.S_drewN | apply Kd.S_drew)); exact HO_5.out) hb); have n2_ := Aside0.mk (Kd.R_lower (Kd.R_new' ho0 (Kd.R_lt (by (with_reducible repeat (first | apply Kd.R_alloc | apply Kd.R_drewN | apply Kd.R_drew)); exact HO_3.out))) (below_size (by repeat (first | (with_reducible first | exact HB.out | apply below_alloc | apply pw_below_drewN | apply below_drew1 | refine below_set ?_ GE101.out) | exact HB.out)))); have n3_ := Aside0.mk (blk_below (g := gb101) (o := .cells #[.slice A0_0 l0_0.length c0_0, .int .i64 a0_1, .int .i64 a0_2] 24 (0, 0)) (by (with_reducible repeat (first | refine blk_drewN ?_ _ | refine blk_drew ?_ | refine blk_alloc ?_ _)); exact BK101.out) hb); have n4_ := Aside0.mk (below_step (by repeat (first | (with_reducible first | exact HB.out | apply below_alloc | apply pw_below_drewN | apply below_drew1 | refine below_set ?_ GE101.out) | exact HB.out)) hb); clear HO_3; clear HO_5; clear BK101; clear HB; have HO_3 := n0_; have HO_5 := n1_; have HO116 := n2_; have BK101 := n3_; have HB := n4_; clear n0_ n1_ n2_ n3_ n4_; (try clear hb); (try clear hb2); (try clear hk); (try clear hi); (try clear ho0); obtain ⟨Ao52, co52, eo52⟩ := Kd.R_slice HO_3.out; subst eo52; obtain ⟨Ao53, co53, eo53⟩ := Kd.R_slice HO116.out; subst eo53)); try go_wp2_with (first | (go_at_call 22; (with_reducible refine (QH.icehouseref09_Points.calls kj16 _ _ l0_0 a0_1 a0_2 t114 _ ?side1 ?side2 A27.out).mono ?_); (case side1 => repeat (first | exact (Kd.C_below HR0_0.out HB.out) | (with_reducible refine Kd.C_alloc ?_ _) | (with_reducible refine Kd.C_drewN ?_ _) | (with_reducible refine Kd.C_drew ?_))); (case side2 => exact HC0_0.out); rintro e w51 ⟨v115, rfl, ho0, hb⟩; have n0_ := Aside0.mk (Kd.R_elder' (by (with_reducible repeat (first | apply Kd.R_alloc | apply Kd.R_drewN | apply Kd.R_drew)); exact HO_3.out) (Kd.R_base ho0) hb); have n1_ := Aside0.mk (Kd.S_below (by (with_reducible repeat (first | apply Kd.S_alloc | apply Kd.S_drewN | apply Kd.S_drew)); exact HO_5.out) hb); have n2_ := Aside0.mk (Kd.R_lower (Kd.R_new' ho0 (Kd.R_lt (by (with_reducible repeat (first | apply Kd.R_alloc | apply Kd.R_drewN | apply Kd.R_drew)); exact HO_3.out))) (below_size (by repeat (first | (with_reducible first | exact HB.out | apply below_alloc | apply pw_below_drewN | apply below_drew1 | refine below_set ?_ GE101.out) | exact HB.out)))); have n3_ := Aside0.mk (blk_below (g := gb101) (o := .cells #[.slice A0_0 l0_0.length c0_0, .int .i64 a0_1, .int .i64 a0_2] 24 (0, 0)) (by (with_reducible repeat (first | refine blk_drewN ?_ _ | refine blk_drew ?_ | refine blk_alloc ?_ _)); exact BK101.out) hb); have n4_ := Aside0.mk (below_step (by repeat (first | (with_reducible first | exact HB.out | apply below_alloc | apply pw_below_drewN | apply below_drew1 | refine below_set ?_ GE101.out) | exact HB.out)) hb); clear HO_3; clear HO_5; clear BK101; clear HB; have HO_3 := n0_; have HO_5 := n1_; have HO116 := n2_; have BK101 := n3_; have HB := n4_; clear n0_ n1_ n2_ n3_ n4_; (try clear hb); (try clear hb2); (try clear hk); (try clear hi); (try clear ho0); obtain ⟨Ao52, co52, eo52⟩ := Kd.R_slice HO_3.out; subst eo52; obtain ⟨Ao53, co53, eo53⟩ := Kd.R_slice HO116.out; subst eo53)))
                  go_ret
                  exact ⟨by first | rfl | (simp [errW_none, errW_some] <;> rfl) | (simp [*, errW_none, errW_some] <;> rfl), by repeat (first | (with_reducible first | exact HB.out | apply below_alloc | apply pw_below_drewN | apply below_drew1 | refine below_set ?_ GE101.out) | exact HB.out)⟩
              · rw [if_neg c26] at H
                have c26b0 : (t112 == 0) = false := beq_eq_false_iff_ne.mpr c26
                have c26b1 : (t112 != 0) = true := bne_iff_ne.mpr c26
                by_cases c54 : (wrap64 ((t104.length : Int) + (t108.length : Int))) = 0
                · rw [if_pos c54] at H
                  have c54b0 : ((wrap64 ((t104.length : Int) + (t108.length : Int))) == 0) = true := beq_iff_eq.mpr c54
                  have c54b1 : ((wrap64 ((t104.length : Int) + (t108.length : Int))) != 0) = false := bne_eq_false_iff_eq.mpr c54
                  clear c54
                  replace H := Option.bind_eq_some_iff.mp H
                  obtain ⟨t113, A550, H⟩ := H
                  replace H : (some t113) = some r := H
                  have A55 := Aside0.mk A550
                  clear A550
                  obtain rfl := Option.some.inj H
                  obtain ⟨Ao56, co56, eo56⟩ := Kd.R_slice HO_3.out
                  subst eo56
                  obtain ⟨Ao57, co57, eo57⟩ := Kd.S_slice HO_5.out
                  subst eo57
                  go_wp2_with (first | (go_at_call 12; (with_reducible refine (QR.icehouselaw09_known.calls kj16  t113 _ A55.out).mono ?_); rintro e w58 ⟨rfl, hb⟩; have n0_ := Aside0.mk (Kd.R_below (by (with_reducible repeat (first | apply Kd.R_alloc | apply Kd.R_drewN | apply Kd.R_drew)); exact HO_3.out) hb); have n1_ := Aside0.mk (Kd.S_below (by (with_reducible repeat (first | apply Kd.S_alloc | apply Kd.S_drewN | apply Kd.S_drew)); exact HO_5.out) hb); have n2_ := Aside0.mk (blk_below (g := gb101) (o := .cells #[.slice A0_0 l0_0.length c0_0, .int .i64 a0_1, .int .i64 a0_2] 24 (0, 0)) (by (with_reducible repeat (first | refine blk_drewN ?_ _ | refine blk_drew ?_ | refine blk_alloc ?_ _)); exact BK101.out) hb); have n3_ := Aside0.mk (below_step (by repeat (first | (with_reducible first | exact HB.out | apply below_alloc | apply pw_below_drewN | apply below_drew1 | refine below_set ?_ GE101.out) | exact HB.out)) hb); clear HO_3; clear HO_5; clear BK101; clear HB; have HO_3 := n0_; have HO_5 := n1_; have BK101 := n2_; have HB := n3_; clear n0_ n1_ n2_ n3_; (try clear hb); (try clear hb2); (try clear hk); (try clear hi)))
                  repeat (go_quiet (first | (go_at_call 12; (with_reducible refine (QR.icehouselaw09_known.calls kj16  t113 _ A55.out).mono ?_); rintro e w58 ⟨rfl, hb⟩; have n0_ := Aside0.mk (Kd.R_below (by (with_reducible repeat (first | apply Kd.R_alloc | apply Kd.R_drewN | apply Kd.R_drew)); exact HO_3.out) hb); have n1_ := Aside0.mk (Kd.S_below (by (with_reducible repeat (first | apply Kd.S_alloc | apply Kd.S_drewN | apply Kd.S_drew)); exact HO_5.out) hb); have n2_ := Aside0.mk (blk_below (g := gb101) (o := .cells #[.slice A0_0 l0_0.length c0_0, .int .i64 a0_1, .int .i64 a0_2] 24 (0, 0)) (by (with_reducible repeat (first | refine blk_drewN ?_ _ | refine blk_drew ?_ | refine blk_alloc ?_ _)); exact BK101.out) hb); have n3_ := Aside0.mk (below_step (by repeat (first | (with_reducible first | exact HB.out | apply below_alloc | apply pw_below_drewN | apply below_drew1 | refine below_set ?_ GE101.out) | exact HB.out)) hb); clear HO_3; clear HO_5; clear BK101; clear HB; have HO_3 := n0_; have HO_5 := n1_; have BK101 := n2_; have HB := n3_; clear n0_ n1_ n2_ n3_; (try clear hb); (try clear hb2); (try clear hk); (try clear hi))); try go_wp2_with (first | (go_at_call 12; (with_reducible refine (QR.icehouselaw09_known.calls kj16  t113 _ A55.out).mono ?_); rintro e w58 ⟨rfl, hb⟩; have n0_ := Aside0.mk (Kd.R_below (by (with_reducible repeat (first | apply Kd.R_alloc | apply Kd.R_drewN | apply Kd.R_drew)); exact HO_3.out) hb); have n1_ := Aside0.mk (Kd.S_below (by (with_reducible repeat (first | apply Kd.S_alloc | apply Kd.S_drewN | apply Kd.S_drew)); exact HO_5.out) hb); have n2_ := Aside0.mk (blk_below (g := gb101) (o := .cells #[.slice A0_0 l0_0.length c0_0, .int .i64 a0_1, .int .i64 a0_2] 24 (0, 0)) (by (with_reducible repeat (first | refine blk_drewN ?_ _ | refine blk_drew ?_ | refine blk_alloc ?_ _)); exact BK101.out) hb); have n3_ := Aside0.mk (below_step (by repeat (first | (with_reducible first | exact HB.out | apply below_alloc | apply pw_below_drewN | apply below_drew1 | refine below_set ?_ GE101.out) | exact HB.out)) hb); clear HO_3; clear HO_5; clear BK101; clear HB; have HO_3 := n0_; have HO_5 := n1_; have BK101 := n2_; have HB := n3_; clear n0_ n1_ n2_ n3_; (try clear hb); (try clear hb2); (try clear hk); (try clear hi))))
                  go_ret
                  exact ⟨by first | rfl | (simp [errW_none, errW_some] <;> rfl) | (simp [*, errW_none, errW_some] <;> rfl), by repeat (first | (with_reducible first | exact HB.out | apply below_alloc | apply pw_below_drewN | apply below_drew1 | refine below_set ?_ GE101.out) | exact HB.out)⟩
                · rw [if_neg c54] at H
                  have c54b0 : ((wrap64 ((t104.length : Int) + (t108.length : Int))) == 0) = false := beq_eq_false_iff_ne.mpr c54
                  have c54b1 : ((wrap64 ((t104.length : Int) + (t108.length : Int))) != 0) = true := bne_iff_ne.mpr c54
                  obtain rfl := Option.some.inj H
                  obtain ⟨Ao59, co59, eo59⟩ := Kd.R_slice HO_3.out
                  subst eo59
                  obtain ⟨Ao60, co60, eo60⟩ := Kd.S_slice HO_5.out
                  subst eo60
                  go_wp2
                  repeat (go_quiet (fail); try go_wp2)
                  go_ret
                  exact ⟨by first | rfl | (simp [errW_none, errW_some] <;> rfl) | (simp [*, errW_none, errW_some] <;> rfl), by repeat (first | (with_reducible first | exact HB.out | apply below_alloc | apply pw_below_drewN | apply below_drew1 | refine below_set ?_ GE101.out) | exact HB.out)⟩
end Go.Proofs.Ytdfjeanlhafipaa.QO
namespace Go.Proofs.Ytdfjeanlhafipaa.QO
open Go.Proofs.Ytdfjeanlhafipaa.QH
open Go.RowKit Go.Proofs.YtdfjeanlhafipaaW.PrintWords Go.Proofs.YtdfjeanlhafipaaW.PrintLast Go.Proofs.YtdfjeanlhafipaaW.PrintMore
attribute [local go_sem] max2_int min2_int max_two min_two max_three min_three max_four min_four   -- for this text's walks alone
set_option linter.unusedVariables false
set_option linter.unusedSimpArgs false
end Go.Proofs.Ytdfjeanlhafipaa.QO
namespace Go.Proofs.Ytdfjeanlhafipaa.Opn
open Go.ChangeShapes Go.WideShapes Go.Proofs.YtdfjeanlhafipaaW.PrintWords
set_option linter.unusedVariables false
set_option linter.unusedSimpArgs false
/-- Whatever is read at type t is of the kind d, and wf. -/
def Opens (P : Program) (t : TypeId) {α : Type} (d : Kd α) (wf : α → Prop) : Prop :=
  ∀ {H : Type} {enc : TypeId × Value → H} {w : World} {base : Nat} {spare : Nat → Bool} {held : Bool} {fuel : Nat} {cs : List Value} {x : DataW H × List MemPlace},
    DataW.trod enc P w base spare held fuel t cs = some x → (∀ n ∈ x.1.weights P t, n ≤ reachBytes) → ∃ a, d.K w a cs ∧ wf a
theorem opens_int {P : Program} {t : TypeId} {k : IntKind} (ht : P.underlying t = some (.int k)) : Opens P t (Kd.int k) (fun n => (Lit.int k n).wf = true) := by
  intro H enc w base spare held fuel cs x h _
  obtain ⟨n, rfl, _, hw⟩ := DataW.trod_int ht h
  exact ⟨n, rfl, hw⟩
theorem weights_elem {H : Type} {P : Program} {e : TypeId} {d : DataW H} : ∀ {l : List (DataW H)}, d ∈ l → ∀ n ∈ d.weights P e, n ∈ DataW.weightsAll P e l
  | [], h, _, _ => by simp at h
  | d0 :: l, h, n, hn => by
    simp only [DataW.weightsAll, List.mem_append]
    rcases List.mem_cons.1 h with rfl | h
    · exact .inl hn
    · exact .inr (weights_elem h n hn)
theorem add_add (a : Addr) (m i : Nat) : (a.add m).add i = a.add (m + i) := by
  unfold Addr.add
  by_cases h1 : m = 0
  · subst h1; simp
  · by_cases h2 : i = 0
    · subst h2; simp
    · rw [if_neg h1, if_neg h2, if_neg (by omega)]; simp [Nat.add_assoc]
theorem opens_slice {P : Program} {t e : TypeId} {α : Type} {d : Kd α} {wf : α → Prop} {B : Nat} (ht : P.underlying t = some (.slice e)) (hc : P.cellsOf e = d.sz) (hB : P.bytesOf e = B) (hs : Opens P e d wf) :
    Opens P t (Kd.slice e d) (fun xs => xs.length ≤ maxLen ∧ xs.length * B ≤ 140737488351232 ∧ ∀ x ∈ xs, wf x) := by
  intro H enc w base spare held fuel cs x h hz
  rcases DataW.trod_slice ht h with ⟨rfl, rfl⟩ | ⟨a, len, cap, elems, rest, n, rfl, rfl, rfl, hb, hl, hm, hlen, hel, _, _⟩
  · exact ⟨[], ⟨none, 0, rfl, Nat.le_refl _, ⟨rfl, by simp, by simp⟩⟩, by simp [maxLen], by simp, by simp⟩
  · have each : ∀ i, i < len → ∃ p c, c.length = d.sz ∧ d.K w p c ∧ wf p ∧ ∀ j u, c[j]? = some u → w.cell? (a.add (i * d.sz + j)) = some u := by
      intro i hi
      have h1 := hel i hi
      obtain ⟨y, hy⟩ : ∃ y, elems[i]? = some y := ⟨_, List.getElem?_eq_getElem (by omega)⟩
      rw [hy] at h1
      obtain ⟨c, hc1, hc2⟩ := Option.bind_eq_some_iff.1 h1
      obtain ⟨_, hcl, hcell⟩ := World.cells?_some hc1
      obtain ⟨p, hp, hw⟩ := hs hc2 (fun q hq => hz q (by
        simp only [DataW.weights, ht, List.mem_cons, List.mem_append]
        exact .inr (.inl (weights_elem (List.mem_map.2 ⟨y, List.mem_of_getElem? hy, rfl⟩) q hq))))
      refine ⟨p, c, by rw [hcl, hc], hp, hw, fun j u hj => ?_⟩
      have hlt : j < c.length := (List.getElem?_eq_some_iff.1 hj).1
      have := hcell j (by omega)
      rw [hj, add_add, hc] at this
      exact this
    have mk : ∃ xs : List α, xs.length = len ∧ ∀ i p, xs[i]? = some p → ∃ c, c.length = d.sz ∧ d.K w p c ∧ wf p ∧ ∀ j u, c[j]? = some u → w.cell? (a.add (i * d.sz + j)) = some u := by
      refine ⟨(List.finRange len).map fun i => Classical.choose (each i.1 i.2), by simp, fun i p hp => ?_⟩
      have hi : i < len := by
        have := (List.getElem?_eq_some_iff.1 hp).1
        simpa using this
      have : p = Classical.choose (each i hi) := by
        rw [List.getElem?_map] at hp
        simp [hi] at hp
        exact hp.symm
      subst this
      exact Classical.choose_spec (each i hi)
    obtain ⟨xs, hxl, hx⟩ := mk
    refine ⟨xs, ⟨some a, cap, by rw [hxl], by omega, ⟨rfl, by unfold maxLen at hm; omega, fun _ => ⟨a, rfl, fun j p hj => ?_⟩⟩⟩, by unfold maxLen at *; omega, ?_, ?_⟩
    · obtain ⟨c, h1, h2, _, h4⟩ := hx j p hj
      exact ⟨c, h1, h2, h4⟩
    · have := hz ((elems.map (·.1)).length + (rest.map (·.1)).length |> (· * P.bytesOf e)) (by simp [DataW.weights, ht])
      simp only [List.length_map, hB] at this
      have h2 : xs.length * B ≤ (elems.length + rest.length) * B := Nat.mul_le_mul_right _ (by omega)
      unfold reachBytes at this
      omega
    · intro p hp
      obtain ⟨i, hi⟩ := List.getElem?_of_mem hp
      obtain ⟨_, _, _, h3, _⟩ := hx i p hi
      exact h3
/-- The fields from a place on, in line. -/
def FOpens (P : Program) (fs : List Field) (off : Nat) {α : Type} (d : Kd α) (wf : α → Prop) : Prop :=
  ∀ {H : Type} {enc : TypeId × Value → H} {w : World} {base : Nat} {spare : Nat → Bool} {held : Bool} {fuel : Nat} {cs : List Value} {xs : List (DataW H × List MemPlace)},
    cs.length = off + d.sz → xs.length = fs.length → (∀ (i : Nat) (f : Field), fs[i]? = some f → DataW.trod enc P w base spare held fuel f.type ((cs.drop f.offset).take (P.cellsOf f.type)) = xs[i]?) →
    (∀ n ∈ DataW.weightsEach P (fs.map (·.type)) (xs.map (·.1)), n ≤ reachBytes) → ∃ a, d.K w a (cs.drop off) ∧ wf a
theorem fopens_one {P : Program} {f : Field} {off : Nat} {α : Type} {d : Kd α} {wf : α → Prop} (ho : f.offset = off) (hc : P.cellsOf f.type = d.sz) (hs : Opens P f.type d wf) : FOpens P [f] off d wf := by
  intro H enc w base spare held fuel cs xs hl hx h hz
  obtain ⟨x, rfl⟩ : ∃ x, xs = [x] := by
    cases xs with
    | nil => simp at hx
    | cons x r => cases r with
      | nil => exact ⟨x, rfl⟩
      | cons _ _ => simp at hx
  have h0 := h 0 f rfl
  rw [ho, hc, List.take_of_length_le (by rw [List.length_drop]; omega)] at h0
  exact hs h0 (fun n hn => hz n (by simpa [DataW.weightsEach] using hn))
theorem fopens_cons {P : Program} {f : Field} {fs : List Field} {off : Nat} {α β : Type} {d : Kd α} {d' : Kd β} {wf : α → Prop} {wf' : β → Prop} (ho : f.offset = off) (hc : P.cellsOf f.type = d.sz) (hs : Opens P f.type d wf) (hr : FOpens P fs (off + d.sz) d' wf') :
    FOpens P (f :: fs) off (Kd.pair d d') (fun p => wf p.1 ∧ wf' p.2) := by
  intro H enc w base spare held fuel cs xs hl hx h hz
  cases xs with
  | nil => simp at hx
  | cons x xs =>
    have hl' : cs.length = off + (d.sz + d'.sz) := hl
    have h0 := h 0 f rfl
    rw [ho, hc] at h0
    obtain ⟨a, ha, hwa⟩ := hs h0 (fun n hn => hz n (by simp only [List.map_cons, DataW.weightsEach, List.mem_append]; exact .inl hn))
    obtain ⟨b, hb, hwb⟩ := hr (enc := enc) (base := base) (spare := spare) (held := held) (fuel := fuel) (cs := cs) (xs := xs) (w := w) (by omega) (by simpa using hx) (fun i g hg => h (i + 1) g (by simpa using hg))
      (fun n hn => hz n (by simp only [List.map_cons, DataW.weightsEach, List.mem_append]; exact .inr hn))
    refine ⟨(a, b), ⟨_, _, ?_, ha, hb⟩, hwa, hwb⟩
    rw [← List.drop_drop]
    exact (List.take_append_drop _ _).symm
theorem opens_struct {P : Program} {t : TypeId} {fs : Array Field} {α : Type} {d : Kd α} {wf : α → Prop} (ht : P.underlying t = some (.struct fs)) (hc : P.cellsOf t = d.sz) (hf : FOpens P fs.toList 0 d wf) : Opens P t d wf := by
  intro H enc w base spare held fuel cs x h hz
  obtain ⟨xs, n, rfl, rfl, hl, hx, hel⟩ := DataW.trod_struct ht h
  have := hf (cs := cs) (xs := xs) (by omega) (by simpa using hx) (fun i f hf => hel i f (by simpa using hf)) (fun q hq => hz q (by simp only [DataW.weights, ht]; exact hq))
  simpa using this
/-- A parameter: its value's cells are of the kind. -/
theorem open_arg {H : Type} {enc : TypeId × Value → H} {P : Program} {W : World} {base : Nat} {spare : Nat → Bool} {held : Bool} {t : TypeId} {α : Type} {d : Kd α} {wf : α → Prop} (ho : Opens P t d wf)
    {v : Value} {x : DataW H} {ps : List MemPlace} (h : DataW.Trod enc P W base spare held t v x ps) {ts : List TypeId} {ds : List (DataW H)} {j : Nat}
    (hsz : (DataW.weightsEach P ts ds).all (· ≤ reachBytes) = true) (ht : ts[j]? = some t) (hd : ds[j]? = some x) : ∃ a, d.K W a v.cells.toList ∧ wf a := by
  obtain ⟨fuel, hf⟩ := h
  refine ho hf (fun n hn => ?_)
  have := List.all_eq_true.1 hsz n (DataW.weights_mem_each ht hd n hn)
  simpa using this
end Go.Proofs.Ytdfjeanlhafipaa.Opn
namespace Go.Proofs.Ytdfjeanlhafipaa.Opn
open Go.RowKit Go.Proofs.YtdfjeanlhafipaaW.PrintWords
abbrev kRing : Kd (List Int × Int × Int) := Kd.pair (Kd.slice 3 (Kd.int .i64)) (Kd.pair (Kd.int .i64) (Kd.int .i64))
def wInt (n : Int) : Prop := (Lit.int .i64 n).wf = true
def wInts (l : List Int) : Prop := l.length ≤ maxLen ∧ l.length * 8 ≤ 140737488351232 ∧ ∀ x ∈ l, (Lit.int .i64 x).wf = true
def wRing (p : List Int × Int × Int) : Prop := wInts p.1 ∧ wInt p.2.1 ∧ wInt p.2.2
theorem opens_ring : Opens Try.prog 24 kRing wRing := by
  refine @opens_struct _ _ _ _ _ _ Try.underlying24 (by kernel_rfl) ?_
  refine @fopens_cons Try.prog _ _ 0 _ _ (Kd.slice 3 (Kd.int .i64)) (Kd.pair (Kd.int .i64) (Kd.int .i64)) (wInts) (fun q => wInt q.1 ∧ wInt q.2) rfl (by kernel_rfl) ?_ ?_
  · exact @opens_slice _ _ _ _ _ _ 8 Try.underlying22 (by kernel_rfl) (by kernel_rfl) (@opens_int _ _ _ Try.underlying3)
  refine @fopens_cons Try.prog _ _ 1 _ _ (Kd.int .i64) (Kd.int .i64) (wInt) (wInt) rfl (by kernel_rfl) ?_ ?_
  · exact @opens_int _ _ _ Try.underlying3
  exact @fopens_one Try.prog _ 2 _ (Kd.int .i64) (wInt) rfl (by kernel_rfl) (@opens_int _ _ _ Try.underlying3)
theorem ring_row {w : World} {cs : List Value} {p : List Int × Int × Int} (h : kRing.K w p cs) : ∃ A c, cs = [.slice A p.1.length c, .int .i64 p.2.1, .int .i64 p.2.2] ∧ p.1.length ≤ c ∧ Kd.C (Kd.int .i64) w A p.1.length p.1 := by
  obtain ⟨_, _, rfl, ⟨A, c, rfl, hc, hC⟩, _, _, rfl, rfl, rfl⟩ := h
  exact ⟨A, c, rfl, hc, hC⟩
end Go.Proofs.Ytdfjeanlhafipaa.Opn
namespace Go.Proofs.Ytdfjeanlhafipaa.Hs
open Go.RowKit Go.Proofs.Ytdfjeanlhafipaa.QH Go.Proofs.Ytdfjeanlhafipaa.Lex Go.Proofs.Ytdfjeanlhafipaa.Rg
open Go.Proofs.YtdfjeanlhafipaaW.PrintWords Go.Proofs.YtdfjeanlhafipaaW.PrintLast Go.Proofs.YtdfjeanlhafipaaW.PrintMore
set_option linter.unusedVariables false
set_option linter.unusedSimpArgs false
theorem points_l0 {l : List Int} {each keep : Int} (ho : okB l each keep = true) : ∀ (n i : Nat), (ptsP l each).length - i = n → i ≤ (ptsP l each).length →
    Since (fun k => QO.icehouselaw09_RingPoints.l0 k (ptsP l each) (listsP l each keep) (ptsP l each) (i : Int) l each keep) true := by
  have hsm := rawP_small ho
  intro n
  induction n with
  | zero =>
    intro i hn hi
    have hf : ¬ ((i : Int) < ((ptsP l each).length : Int)) := by omega
    obtain ⟨K1, h1⟩ := known_ev
    obtain ⟨K2, h2⟩ := rlists_ev ho
    obtain ⟨K3, h3⟩ := slists_ev (listsP l each keep) (fun x hx => by
      obtain ⟨p, _, rfl⟩ := List.mem_map.1 hx
      obtain ⟨k0, k1, k2, k3, k4, k5, _⟩ := okB_len ho
      rw [keepR_len ho _ _ (by omega)]; omega) (by unfold listsP; rw [List.length_map]; omega)
    refine ⟨K1 + K2 + K3 + 1, fun k hk => ?_⟩
    obtain ⟨m, rfl⟩ : ∃ m, k = m + 1 := ⟨k - 1, by omega⟩
    have e1 := h1 m (by omega)
    have e2 := h2 m (by omega)
    have e3 := h3 m (by omega)
    simp only at e1 e2 e3
    simp only [QO.icehouselaw09_RingPoints.l0, if_neg hf, e2, e3, e1, Option.bind_some]
    rfl
  | succ n ih =>
    intro i hn hi
    have h1 : i < (ptsP l each).length := by omega
    have f1 : (i : Int) < ((ptsP l each).length : Int) := by omega
    have f0 : (0 : Int) ≤ (i : Int) := by omega
    refine Since.one (ih (i + 1) (by omega) (by omega)) fun k hk => ?_
    simp only [QO.icehouselaw09_RingPoints.l0, if_pos f1, if_pos f0, w_succ' i (by omega)]
    rw [if_neg (by simp)]
    exact hk
theorem points_j0 (l : List Int) (hl : l.length ≤ 9223372036854775807) (each keep : Int) (b : Bool) : Since (fun k => QO.icehouselaw09_RingPoints.j0 k b l each keep) true := by
  obtain ⟨K1, h1⟩ := known_ev
  cases b
  · obtain ⟨K2, h2⟩ := rcheck_ev l each keep hl
    cases ho : okB l each keep
    · have hc : chk l each keep = 2 := by unfold chk; rw [ho]; rfl
      rw [hc] at h2
      obtain ⟨K3, h3⟩ := lists_out ho
      refine ⟨K1 + K2 + K3 + 2, fun k hk => ?_⟩
      obtain ⟨m, rfl⟩ : ∃ m, k = m + 2 := ⟨k - 2, by omega⟩
      have e1 := h1 m (by omega)
      have e2 := h2 (m + 1) (by omega)
      have e3 := h3 (m + 1) (by omega)
      simp only at e1 e2 e3
      simp only [QO.icehouselaw09_RingPoints.j0, points_out ho, Option.bind_some, e2, e3, QO.icehouselaw09_RingPoints.j1, e1]
      simp [wrap64]
    · have hc : chk l each keep = 0 := by unfold chk; rw [ho]; rfl
      rw [hc] at h2
      obtain ⟨K3, h3⟩ := lists_ok ho
      obtain ⟨K4, h4⟩ := rpoints_ev ho
      obtain ⟨K5, h5⟩ := points_l0 ho _ 0 rfl (Nat.zero_le _)
      refine ⟨K1 + K2 + K3 + K4 + K5 + 2, fun k hk => ?_⟩
      obtain ⟨m, rfl⟩ : ∃ m, k = m + 2 := ⟨k - 2, by omega⟩
      have e1 := h1 m (by omega)
      have e2 := h2 (m + 1) (by omega)
      have e3 := h3 (m + 1) (by omega)
      have e4 := h4 m (by omega)
      have e5 := h5 m (by omega)
      simp only at e1 e2 e3 e4 e5
      simp only [QO.icehouselaw09_RingPoints.j0, points_at ho, Option.bind_some, e2, e3, QO.icehouselaw09_RingPoints.j1, e4, e1]
      simp
      exact e5
  · refine ⟨K1 + 1, fun k hk => ?_⟩
    obtain ⟨m, rfl⟩ : ∃ m, k = m + 1 := ⟨k - 1, by omega⟩
    have e1 := h1 m (by omega)
    simp only at e1
    simp only [QO.icehouselaw09_RingPoints.j0, if_true, e1, Option.bind_some]
theorem rpts_ev (l : List Int) (hl : l.length ≤ 9223372036854775807) (each keep : Int) : Since (fun k => QO.icehouselaw09_RingPoints.f k l each keep) true := by
  cases hb : longB l each
  · refine (points_j0 l hl each keep (decide (wrap64 ((l.length : Int) * each) > 30))).map fun k hk => ?_
    simp only [QO.icehouselaw09_RingPoints.f, long_f, hb, Option.bind_some]
    rw [if_neg (by decide)]
    exact hk
  · refine (points_j0 l hl each keep true).map fun k hk => ?_
    simp only [QO.icehouselaw09_RingPoints.f, long_f, hb, Option.bind_some]
    rw [if_pos trivial]
    exact hk
theorem ringPoints (w : World) (cs0 : Array Value) (a0 : List Int × Int × Int) (K0 : Opn.kRing.K w a0 cs0.toList) (wf0 : Opn.wRing a0) :
    Calls Try.prog 5 #[.agg cs0] w fun e w' => e = .returned (.bool true) ∧ Below w.heap.size w w' := by
  obtain ⟨A0, c0, e0, hc0, C0⟩ := Opn.ring_row K0
  rw [show cs0 = #[.slice A0 a0.1.length c0, .int .i64 a0.2.1, .int .i64 a0.2.2] from by rw [← Array.toList_inj, e0]]
  obtain ⟨K, hK⟩ := rpts_ev a0.1 C0.2.1 a0.2.1 a0.2.2
  exact QO.icehouselaw09_RingPoints.calls K A0 c0 a0.1 a0.2.1 a0.2.2 true w C0 hc0 (hK K (Nat.le_refl K))
end Go.Proofs.Ytdfjeanlhafipaa.Hs
