/- Written by a program of this session over the kit's print: functions and their contracts. · What the reference's Bytes of a message tells, plain. Conditions: lists that fit in memory. · The walk of the law MsgsWrites, for every message. Conditions: the table lies in its variable. · What the card's condition tells: the table of msgs lies in its variable; and the world in which the door lays it. Conditions: none. -/
import Derived.Test.YthaoiamgkpkcbaaDoorYMsgsWrites15
import Derived.Test.YthaoiamgkpkcbaaDoorYMsgsWrites16
import Derived.Deep.RegionHeld3
import Derived.Test.YthaoiamgkpkcbaaDoorRows
import Derived.Test.YthaoiamgkpkcbaaDoorYMsgsWrites10
import Derived.ProofKit
import Derived.LaidMore
import Derived.OpenShut
import Derived.Stop.Joined

namespace Go.Proofs.YthaoiamgkpkcbaaDoor.QB
open Go.Proofs.YthaoiamgkpkcbaaDoor.QL
open Go.RowKit Go.Proofs.YthaoiamgkpkcbaaDoorW.PrintWords Go.Proofs.YthaoiamgkpkcbaaDoorW.PrintLast Go.Proofs.YthaoiamgkpkcbaaDoorW.PrintMore
attribute [local go_sem] max2_int min2_int max_two min_two max_three min_three max_four min_four   -- for this text's walks alone
set_option linter.unusedVariables false
set_option linter.unusedSimpArgs false
end Go.Proofs.YthaoiamgkpkcbaaDoor.QB
namespace Go.Proofs.YthaoiamgkpkcbaaDoor.Ms
open Go.RowKit Go.Proofs.YthaoiamgkpkcbaaDoor.Pk Go.Proofs.YthaoiamgkpkcbaaDoor.Tg Go.Proofs.YthaoiamgkpkcbaaDoor.Enc Go.Proofs.YthaoiamgkpkcbaaDoor.EncC Go.Proofs.YthaoiamgkpkcbaaDoor.EncP Go.Proofs.YthaoiamgkpkcbaaDoor.Lex
open Go.Proofs.YthaoiamgkpkcbaaDoorW.PrintWords Go.Proofs.YthaoiamgkpkcbaaDoorW.PrintLast Go.Proofs.YthaoiamgkpkcbaaDoorW.PrintMore
set_option linter.unusedVariables false
set_option linter.unusedSimpArgs false
theorem since_up {α : Type} {f : Nat → Option α} {K : Nat} {r : α} (h : f K = some r) (hm : ∀ k q, f k = some q → f (k + 1) = some q) : Since f r :=
  ⟨K, fun k hk => by
    induction hk with
    | refl => exact h
    | step _ ih => exact hm _ _ ih⟩
theorem rnum_ev (n : Int) : Since (fun k => QR.icehouseref02_Num.f k n) (numB n) := since_up (rnum_f n) (fun k q h => QR.icehouseref02_Num.mono _ _ _ h)
theorem rhas_ev (k : Int) (c : UInt8) (hc : c ∈ ([110, 102, 101, 108, 114] : List UInt8)) : Since (fun n => QR.icehouseref12_Has.f n k ⟨#[c]⟩) (hasL (hasV k) c) := since_up (has_f k c hc) (fun n q h => QR.icehouseref12_Has.mono _ _ _ _ h)
theorem rhas_ev_n (k : Int) : Since (fun n => QR.icehouseref12_Has.f n k ⟨#[110]⟩) (hasV k).n := rhas_ev k 110 (by decide)
theorem rhas_ev_f (k : Int) : Since (fun n => QR.icehouseref12_Has.f n k ⟨#[102]⟩) (hasV k).f := rhas_ev k 102 (by decide)
theorem rhas_ev_e (k : Int) : Since (fun n => QR.icehouseref12_Has.f n k ⟨#[101]⟩) (hasV k).e := rhas_ev k 101 (by decide)
theorem rhas_ev_l (k : Int) : Since (fun n => QR.icehouseref12_Has.f n k ⟨#[108]⟩) (hasV k).l := rhas_ev k 108 (by decide)
theorem rhas_ev_r (k : Int) : Since (fun n => QR.icehouseref12_Has.f n k ⟨#[114]⟩) (hasV k).r := rhas_ev k 114 (by decide)
theorem numB_le (n : Int) : (numB n).length ≤ 9 := numB_len n
theorem catB_cons (x : Int) (l : List Int) : catB (x :: l) = numB x ++ catB l := rfl
theorem entL_cons (x : E6) (l : List E6) : entL (x :: l) = entX x ++ entL l := rfl
theorem b12_l2 (all : List Int) (hl : all.length < 9223372036854775807) : ∀ (d i : Nat) (acc : List Int), all.length - i = d → i ≤ all.length → acc.length + 9 * d ≤ 140737488355000 → Since (fun k => QB.icehouseref12_Bytes.l2 k acc all (i : Int)) (acc ++ catB (all.drop i), 0) := by
  intro d
  induction d with
  | zero =>
    intro i acc hd hi ha
    obtain rfl : i = all.length := by omega
    refine Since.none fun k => ?_
    simp only [QB.icehouseref12_Bytes.l2]
    rw [if_neg (Int.lt_irrefl _), List.drop_length]
    simp [catB]
  | succ d ih =>
    intro i acc hd hi ha
    have h1 : i < all.length := by omega
    have hr : rd all (i : Int) = all[i] := by simp [rd, h1]
    have hw : wrap64 ((i : Int) + 1) = ((i + 1 : Nat) : Int) := by unfold wrap64; omega
    have h9 := numB_le all[i]
    have ih' := ih (i + 1) (acc ++ numB all[i]) (by omega) (by omega) (by rw [List.length_append]; omega)
    rw [List.drop_eq_getElem_cons h1, catB_cons, ← List.append_assoc]
    refine Since.two (rnum_ev all[i]) ih' fun k ha' hb => ?_
    simp only [QB.icehouseref12_Bytes.l2]
    rw [if_pos (by omega), if_pos (by omega), hr, ha', Option.bind_some, if_pos (by omega), hw]
    exact hb
section
variable (m : Ms)
def t5 : List Int := if (hasV m.kind).r = true then catB [m.each, m.keep, (m.R.length : Int)] ++ catB m.R else []
def t4 : List Int := (if (hasV m.kind).l = true then catB [(m.L.length : Int)] ++ entL m.L else []) ++ t5 m
def t3 : List Int := (if (hasV m.kind).e = true then entX m.e else []) ++ t4 m
def t2 : List Int := (if (hasV m.kind).f = true then truthB m.f else []) ++ t3 m
theorem bytesM_t : bytesM m = (catB [m.kind, m.fr, m.dst, m.ep, m.op] ++ (if (hasV m.kind).n = true then catB [m.n] else [])) ++ t2 m := by
  unfold bytesM b5 b4 b3 b2 b1 t2 t3 t4 t5
  simp only [List.append_assoc]
variable (hR : m.R.length ≤ 17592186043904) (hL : m.L.length ≤ 1000) (hE : ∀ x ∈ m.L, okE x)
include hR
theorem b12_j5 (acc : List Int) (ha : acc.length ≤ 1000000000) (hR2 : (hasV m.kind).r = true → m.R.length ≤ 64) : Since (fun k => QB.icehouseref12_Bytes.j5 k acc m.kind m.fr m.dst m.ep m.op m.n m.f m.e.f0 m.e.f1.f0 m.e.f1.f1 m.e.f1.f2 m.e.f2.f0 m.e.f2.f1 m.L m.R m.each m.keep) (acc ++ t5 m, 0) := by
  have hh := rhas_ev_r m.kind
  unfold t5
  cases hr : (hasV m.kind).r
  · rw [hr] at hh
    refine Since.one hh fun k hk => ?_
    simp only [QB.icehouseref12_Bytes.j5]
    rw [hk, Option.bind_some, if_neg (by decide), if_neg (by decide), List.append_nil]
  · rw [hr] at hh
    have h64 := hR2 hr
    have h2 := b12_l2 ([m.each, m.keep, (m.R.length : Int)] ++ m.R) (by simp; omega) _ 0 acc rfl (Nat.zero_le _) (by simp; omega)
    refine Since.two hh h2 fun k hk h3 => ?_
    simp only [QB.icehouseref12_Bytes.j5]
    rw [hk, Option.bind_some, if_pos rfl, Option.bind_some, if_pos (by simp; omega), if_pos trivial]
    rw [List.drop_zero] at h3
    refine (show _ = _ from h3).trans ?_
    rw [show catB ([m.each, m.keep, (m.R.length : Int)] ++ m.R) = catB [m.each, m.keep, (m.R.length : Int)] ++ catB m.R from by simp [catB]]
include hL hE
theorem b12_l1 (hR2 : (hasV m.kind).r = true → m.R.length ≤ 64) : ∀ (d i : Nat) (acc : List Int), m.L.length - i = d → i ≤ m.L.length → acc.length + 61000 * d ≤ 900000000 → Since (fun k => QB.icehouseref12_Bytes.l1 k acc (i : Int) m.kind m.fr m.dst m.ep m.op m.n m.f m.e.f0 m.e.f1.f0 m.e.f1.f1 m.e.f1.f2 m.e.f2.f0 m.e.f2.f1 m.L m.R m.each m.keep) (acc ++ (entL (m.L.drop i) ++ t5 m), 0) := by
  intro d
  induction d with
  | zero =>
    intro i acc hd hi ha
    obtain rfl : i = m.L.length := by omega
    rw [List.drop_length]
    refine Since.one (b12_j5 m hR acc (by omega) hR2) fun k hk => ?_
    simp only [QB.icehouseref12_Bytes.l1]
    rw [if_neg (Int.lt_irrefl _)]
    exact hk
  | succ d ih =>
    intro i acc hd hi ha
    have h1 : i < m.L.length := by omega
    have ho := hE _ (List.getElem_mem h1)
    have h6 := entX_len m.L[i] ho
    have hw : wrap64 ((i : Int) + 1) = ((i + 1 : Nat) : Int) := by unfold wrap64; omega
    have hb : bytesV m.L[i].f0 m.L[i].f1.f0 m.L[i].f1.f1 m.L[i].f1.f2 m.L[i].f2.f0 m.L[i].f2.f1 = (entX m.L[i], 0) := if_pos ho
    rw [List.drop_eq_getElem_cons h1, entL_cons, List.append_assoc, ← List.append_assoc acc]
    refine Since.one (ih (i + 1) (acc ++ entX m.L[i]) (by omega) (by omega) (by rw [List.length_append]; omega)) fun k hk => ?_
    simp only [QB.icehouseref12_Bytes.l1]
    rw [if_pos (by omega), if_pos (by omega), rd_E h1]
    unfold Fb.icehouseref03_Bytes.f
    rw [hb, Option.bind_some]
    dsimp only
    rw [if_pos (by omega), hw]
    exact hk
theorem b12_j3 (hR2 : (hasV m.kind).r = true → m.R.length ≤ 64) (acc : List Int) (ha : acc.length ≤ 100000) : Since (fun k => QB.icehouseref12_Bytes.j3 k acc m.kind m.fr m.dst m.ep m.op m.n m.f m.e.f0 m.e.f1.f0 m.e.f1.f1 m.e.f1.f2 m.e.f2.f0 m.e.f2.f1 m.L m.R m.each m.keep) (acc ++ t4 m, 0) := by
  have hh := rhas_ev_l m.kind
  unfold t4
  cases hr : (hasV m.kind).l
  · rw [hr] at hh
    refine Since.two hh (b12_j5 m hR acc (by omega) hR2) fun k hk h2 => ?_
    simp only [QB.icehouseref12_Bytes.j3]
    rw [hk, Option.bind_some, if_neg (by decide), if_neg (by decide), List.nil_append]
    exact h2
  · rw [hr] at hh
    have h9 := numB_le (m.L.length : Int)
    have hs := rnum_ev (m.L.length : Int)
    obtain ⟨K1, k1⟩ := hh
    obtain ⟨K2, k2⟩ := hs
    obtain ⟨K3, k3⟩ := b12_l1 m hR hL hE hR2 _ 0 (acc ++ numB (m.L.length : Int)) rfl (Nat.zero_le _) (by rw [List.length_append]; omega)
    refine ⟨K1 + K2 + K3 + 1, fun k hk => ?_⟩
    obtain ⟨k, rfl⟩ : ∃ j, k = j + 1 := ⟨k - 1, by omega⟩
    have e1 := k1 k (by omega)
    have e2 := k2 k (by omega)
    have e3 := k3 k (by omega)
    dsimp only at e1 e2 e3
    simp only [QB.icehouseref12_Bytes.j3]
    rw [e1, Option.bind_some, if_pos rfl, e2, Option.bind_some, if_pos (by omega), if_pos trivial]
    rw [List.drop_zero] at e3
    refine (show _ = _ from e3).trans ?_
    rw [show catB [(m.L.length : Int)] = numB (m.L.length : Int) from by simp [catB]]
    simp only [List.append_assoc]
theorem b12_j2 (hR2 : (hasV m.kind).r = true → m.R.length ≤ 64) (hE2 : (hasV m.kind).e = true → okE m.e) (acc : List Int) (ha : acc.length ≤ 1000) : Since (fun k => QB.icehouseref12_Bytes.j2 k acc m.kind m.fr m.dst m.ep m.op m.n m.f m.e.f0 m.e.f1.f0 m.e.f1.f1 m.e.f1.f2 m.e.f2.f0 m.e.f2.f1 m.L m.R m.each m.keep) (acc ++ t3 m, 0) := by
  have hh := rhas_ev_e m.kind
  unfold t3
  cases hr : (hasV m.kind).e
  · rw [hr] at hh
    refine Since.two hh (b12_j3 m hR hL hE hR2 acc (by omega)) fun k hk h2 => ?_
    simp only [QB.icehouseref12_Bytes.j2]
    rw [hk, Option.bind_some, if_neg (by decide), if_neg (by decide), List.nil_append]
    exact h2
  · rw [hr] at hh
    have ho := hE2 hr
    have h6 := entX_len m.e ho
    have hb : bytesV m.e.f0 m.e.f1.f0 m.e.f1.f1 m.e.f1.f2 m.e.f2.f0 m.e.f2.f1 = (entX m.e, 0) := if_pos ho
    refine Since.two hh (b12_j3 m hR hL hE hR2 (acc ++ entX m.e) (by rw [List.length_append]; omega)) fun k hk h2 => ?_
    simp only [QB.icehouseref12_Bytes.j2]
    rw [hk, Option.bind_some, if_pos rfl]
    unfold Fb.icehouseref03_Bytes.f
    rw [hb, Option.bind_some]
    dsimp only
    rw [if_pos (by omega), if_pos trivial, ← List.append_assoc]
    exact h2
theorem b12_l0 (hR2 : (hasV m.kind).r = true → m.R.length ≤ 64) (hE2 : (hasV m.kind).e = true → okE m.e) (all : List Int) (h6 : all.length ≤ 6) : ∀ (d i : Nat) (acc : List Int), all.length - i = d → i ≤ all.length → acc.length + 9 * d ≤ 900 → Since (fun k => QB.icehouseref12_Bytes.l0 k all acc (i : Int) m.kind m.fr m.dst m.ep m.op m.n m.f m.e.f0 m.e.f1.f0 m.e.f1.f1 m.e.f1.f2 m.e.f2.f0 m.e.f2.f1 m.L m.R m.each m.keep) (acc ++ (catB (all.drop i) ++ t2 m), 0) := by
  intro d
  induction d with
  | zero =>
    intro i acc hd hi ha
    obtain rfl : i = all.length := by omega
    rw [List.drop_length]
    have hh := rhas_ev_f m.kind
    unfold t2
    cases hr : (hasV m.kind).f
    · rw [hr] at hh
      refine Since.two hh (b12_j2 m hR hL hE hR2 hE2 acc (by omega)) fun k hk h2 => ?_
      simp only [QB.icehouseref12_Bytes.l0]
      rw [if_neg (Int.lt_irrefl _), hk, Option.bind_some, if_neg (by decide), if_neg (by decide)]
      exact h2
    · rw [hr] at hh
      cases hf : m.f
      · have hj := b12_j2 m hR hL hE hR2 hE2 (acc ++ [0]) (by simp; omega)
        rw [hf] at hj
        refine Since.two hh hj fun k hk h2 => ?_
        simp only [QB.icehouseref12_Bytes.l0]
        rw [if_neg (Int.lt_irrefl _), hk, Option.bind_some, if_pos rfl, if_neg (by decide), if_pos (by omega), if_pos trivial]
        refine (show _ = _ from h2).trans ?_
        simp [catB, truthB]
      · have hj := b12_j2 m hR hL hE hR2 hE2 (acc ++ [1]) (by simp; omega)
        rw [hf] at hj
        refine Since.two hh hj fun k hk h2 => ?_
        simp only [QB.icehouseref12_Bytes.l0]
        rw [if_neg (Int.lt_irrefl _), hk, Option.bind_some, if_pos rfl, if_pos trivial, if_pos (by omega), if_pos trivial]
        refine (show _ = _ from h2).trans ?_
        simp [catB, truthB]
  | succ d ih =>
    intro i acc hd hi ha
    have h1 : i < all.length := by omega
    have hr : rd all (i : Int) = all[i] := by simp [rd, h1]
    have hw : wrap64 ((i : Int) + 1) = ((i + 1 : Nat) : Int) := by unfold wrap64; omega
    have h9 := numB_le all[i]
    rw [List.drop_eq_getElem_cons h1, catB_cons, List.append_assoc, ← List.append_assoc acc]
    refine Since.two (rnum_ev all[i]) (ih (i + 1) (acc ++ numB all[i]) (by omega) (by omega) (by rw [List.length_append]; omega)) fun k ha' hb => ?_
    simp only [QB.icehouseref12_Bytes.l0]
    rw [if_pos (by omega), if_pos (by omega), hr, ha', Option.bind_some, if_pos (by omega), hw]
    exact hb
end
theorem b12_yes {m : Ms} (ok : Okm m) : ∃ K, QB.icehouseref12_Bytes.f K m.kind m.fr m.dst m.ep m.op m.n m.f m.e.f0 m.e.f1.f0 m.e.f1.f1 m.e.f1.f2 m.e.f2.f0 m.e.f2.f1 m.L m.R m.each m.keep = some (bytesM m, 0) := by
  have hR2 : (hasV m.kind).r = true → m.R.length ≤ 64 := fun h => ring_len (ok.r1 h)
  have hR : m.R.length ≤ 17592186043904 := by
    cases hr : (hasV m.kind).r
    · have h := ok.r0 hr
      unfold noneB at h
      have := (of_decide_eq_true h).1
      omega
    · have := hR2 hr; omega
  have hLl := ok.len
  have hck : Fb.icehouseref12_Check.f m.kind m.fr m.dst m.ep m.op m.n m.f m.e.f0 m.e.f1.f0 m.e.f1.f1 m.e.f1.f2 m.e.f2.f0 m.e.f2.f1 m.L m.R m.each m.keep = some 0 := by
    unfold Fb.icehouseref12_Check.f
    rw [if_pos ⟨by omega, by omega⟩]
    exact congrArg some (checkM_yes ok)
  have hh := rhas_ev_n m.kind
  rw [bytesM_t]
  cases hn : (hasV m.kind).n
  · rw [hn] at hh
    obtain ⟨K1, k1⟩ := hh
    obtain ⟨K2, k2⟩ := b12_l0 m hR hLl ok.all hR2 ok.e1 [m.kind, m.fr, m.dst, m.ep, m.op] (by simp) _ 0 [] rfl (Nat.zero_le _) (by simp)
    refine ⟨K1 + K2 + 1, ?_⟩
    have e1 := k1 (K1 + K2 + 1) (by omega)
    have e2 := k2 (K1 + K2) (by omega)
    dsimp only at e1 e2
    unfold QB.icehouseref12_Bytes.f
    rw [hck, Option.bind_some, if_pos rfl, Option.bind_some, e1, Option.bind_some, if_neg (by decide), if_neg (by decide)]
    simp only [QB.icehouseref12_Bytes.j0]
    refine (show _ = _ from e2).trans ?_
    simp
  · rw [hn] at hh
    obtain ⟨K1, k1⟩ := hh
    obtain ⟨K2, k2⟩ := b12_l0 m hR hLl ok.all hR2 ok.e1 [m.kind, m.fr, m.dst, m.ep, m.op, m.n] (by simp) _ 0 [] rfl (Nat.zero_le _) (by simp)
    refine ⟨K1 + K2 + 1, ?_⟩
    have e1 := k1 (K1 + K2 + 1) (by omega)
    have e2 := k2 (K1 + K2) (by omega)
    dsimp only at e1 e2
    unfold QB.icehouseref12_Bytes.f
    rw [hck, Option.bind_some, if_pos rfl, Option.bind_some, e1, Option.bind_some, if_pos rfl, if_pos (by simp), if_pos rfl]
    simp only [QB.icehouseref12_Bytes.j0]
    refine (show _ = _ from e2).trans ?_
    simp [catB]
theorem b12_no {m : Ms} (hL : m.L.length < 9223372036854775807) (hR : m.R.length < 9223372036854775807) (h : checkM m = 2) : QB.icehouseref12_Bytes.f 0 m.kind m.fr m.dst m.ep m.op m.n m.f m.e.f0 m.e.f1.f0 m.e.f1.f1 m.e.f1.f2 m.e.f2.f0 m.e.f2.f1 m.L m.R m.each m.keep = some ([], 2) := by
  have hck : Fb.icehouseref12_Check.f m.kind m.fr m.dst m.ep m.op m.n m.f m.e.f0 m.e.f1.f0 m.e.f1.f1 m.e.f1.f2 m.e.f2.f0 m.e.f2.f1 m.L m.R m.each m.keep = some 2 := by
    unfold Fb.icehouseref12_Check.f
    rw [if_pos ⟨hL, hR⟩]
    exact congrArg some h
  unfold QB.icehouseref12_Bytes.f
  rw [hck, Option.bind_some, if_neg (by decide)]
end Go.Proofs.YthaoiamgkpkcbaaDoor.Ms
namespace Go.Proofs.YthaoiamgkpkcbaaDoor.Ms
open Go.ChangeShapes Go.WideShapes Go.ChangeAt Go.RowKit Go.Proofs.YthaoiamgkpkcbaaDoor.Pk Go.Proofs.YthaoiamgkpkcbaaDoor.Tg Go.Proofs.YthaoiamgkpkcbaaDoor.Enc Go.Proofs.YthaoiamgkpkcbaaDoor.EncC Go.Proofs.YthaoiamgkpkcbaaDoor.EncP
open Go.Proofs.YthaoiamgkpkcbaaDoor.Hlp Go.Proofs.YthaoiamgkpkcbaaDoor.Wrd Go.Proofs.YthaoiamgkpkcbaaDoor.Lex Go.Proofs.YthaoiamgkpkcbaaDoorW.PrintWords Go.Proofs.YthaoiamgkpkcbaaDoorW.PrintLast Go.Proofs.YthaoiamgkpkcbaaDoorW.PrintMore
set_option linter.unusedVariables false
set_option linter.unusedSimpArgs false
/-- what both answer: a message's bytes, or none -/
def bytesOr (m : Ms) : List Int × Int := if checkM m = 0 then (bytesM m, 0) else ([], 2)
theorem checkM_two (m : Ms) : Okm m ∧ checkM m = 0 ∨ checkM m = 2 := by
  unfold checkM
  by_cases h : a4 m = true
  · left; exact ⟨(okm_iff m).1 h, if_pos h⟩
  · right; exact if_neg h
theorem wbytes_c {w : World} {m : Ms} {p : Pl} {l : List Int} {x : Int} (hq : bytesOr m = (l, x)) (hK : Kin w) (hm : Lies w m p) (hv : Bytes m.e.f2.f1) (hR : m.R.length < 9223372036854775807) :
    Calls Tryd.prog 12 #[.agg (m.val p)] w fun e w' => ∃ A c, e = .returned (.tuple #[.slice A l.length c, .int .i64 x]) ∧ Kd.C (Kd.int .u8) w' A l.length l ∧ l.length ≤ c ∧ Below w.heap.size w w' := by
  unfold bytesOr at hq
  rcases checkM_two m with ⟨ok, h0⟩ | h2
  · rw [if_pos h0] at hq
    obtain ⟨rfl, rfl⟩ := Prod.mk.inj hq
    refine (bytes_ok hK hm hv hR ok).mono ?_
    rintro e w' ⟨v, rfl, hR3, hb⟩
    obtain ⟨A3, k3, rfl, hc3, hC3⟩ := Kd.R_reads hR3
    exact ⟨A3, k3, rfl, hC3, hc3, hb⟩
  · rw [if_neg (by omega)] at hq
    obtain ⟨rfl, rfl⟩ := Prod.mk.inj hq
    refine (bytes_no hK hm hv hR h2).mono ?_
    rintro e w' ⟨rfl, hb⟩
    exact ⟨none, 0, rfl, Kd.C_nil _ _, Nat.le_refl _, hb⟩
theorem rbytes12_c {w : World} {m : Ms} {p : Pl} {l : List Int} {x : Int} (hq : bytesOr m = (l, x)) (hm : Lies w m p) (hL : m.L.length < 9223372036854775807) (hR : m.R.length < 9223372036854775807) :
    Calls Tryd.prog 13 #[.agg (m.val p)] w fun e w' => ∃ A c, e = .returned (.tuple #[.slice A l.length c, .int .i64 x]) ∧ Kd.C (Kd.int .u8) w' A l.length l ∧ l.length ≤ c ∧ Below w.heap.size w w' := by
  have key : ∃ K, QB.icehouseref12_Bytes.f K m.kind m.fr m.dst m.ep m.op m.n m.f m.e.f0 m.e.f1.f0 m.e.f1.f1 m.e.f1.f2 m.e.f2.f0 m.e.f2.f1 m.L m.R m.each m.keep = some (l, x) := by
    unfold bytesOr at hq
    rcases checkM_two m with ⟨ok, h0⟩ | h2
    · rw [if_pos h0] at hq; rw [← hq]; exact b12_yes ok
    · rw [if_neg (by omega)] at hq; rw [← hq]; exact ⟨0, b12_no hL hR h2⟩
  obtain ⟨K, hK⟩ := key
  refine (QB.icehouseref12_Bytes.calls K m.kind m.fr m.dst m.ep m.op m.n m.f m.e.f0 m.e.f1.f0 m.e.f1.f1 m.e.f1.f2 m.e.f2.f0 p.vA p.vc m.e.f2.f1 p.lA p.lc m.L p.rA p.rc m.R m.each m.keep l x w hm.v hm.vc hm.l hm.lc hm.r hm.rc hK).mono ?_
  rintro e w' ⟨v, rfl, hR3, hb⟩
  obtain ⟨A3, k3, rfl, hc3, hC3⟩ := Kd.R_reads hR3
  exact ⟨A3, k3, rfl, hC3, hc3, hb⟩
set_option maxHeartbeats 8000000 in
set_option maxRecDepth 100000 in
theorem writes_law {w : World} {m : Ms} {p : Pl} (hK : Kin w) (hm : Lies w m p) (wm : Opn.Wm m) :
    Calls Tryd.prog 3 #[.agg (m.val p)] w fun e w' => e = .returned (.bool true) ∧ Below w.heap.size w w' := by
  have HB0 := Aside0.mk (below_alloc (Below.refl w.heap.size w) (.cells (m.val p) 34))
  have BM := Aside0.mk (blk_new w (.cells (m.val p) 34))
  have HK := Aside0.mk hK
  have HM := Aside0.mk hm
  clear hK hm
  have hl : m.L.length < 9223372036854775807 := by have := wm.ll; omega
  have hR : m.R.length < 9223372036854775807 := by have := wm.rl; omega
  have WM := Aside0.mk wm
  clear wm
  obtain ⟨⟨l, x⟩, hq⟩ : ∃ r, bytesOr m = r := ⟨_, rfl⟩
  have HQ := Aside0.mk hq
  obtain ⟨cm, hcm⟩ : ∃ r, checkM m = r := ⟨_, rfl⟩
  have HCM := Aside0.mk hcm
  clear hq hcm
  go_enter Tryd.func3, Tryd.ntmps3
  go_upto_region 1 with fail
  generalize w.alloc (.cells (m.val p) 34) = W at *
  go_upto_if 8 with (first
    | (refine wpList_load_row rfl 34 (.tmp 1) rfl w.heap.size rfl 34 (m.val p) (0, 0) _ BM.out Tryd.underlying34 rfl (by kernel_rfl) ?_)
    | (go_at_call 10; (with_reducible refine (long_c (HM.out.below HB0.out) hl).mono ?_); rintro y w1 ⟨⟨r, rfl⟩, hq⟩; have HB1 := Aside0.mk (HB0.out.trans (hq.mono HB0.out.size)); have BM1 := Aside0.mk ((hq.block _ (blk_lt BM.out)).trans BM.out); clear hq; cases r))
  · go_upto_region 4 with (first
      | (refine wpList_load_row rfl 34 (.tmp 1) rfl w.heap.size rfl 34 (m.val p) (0, 0) _ BM1.out Tryd.underlying34 rfl (by kernel_rfl) ?_)
      | (go_at_call 12; (with_reducible refine (wbytes_c HQ.out (HK.out.below HB1.out) (HM.out.below HB1.out) WM.out.e hR).mono ?_); rintro y w2 ⟨A1, c1, rfl, hC, hc1, hq⟩; have HC1 := Aside0.mk hC; have HB2 := Aside0.mk (HB1.out.trans (hq.mono HB1.out.size)); have BM2 := Aside0.mk ((hq.block _ (blk_lt BM1.out)).trans BM1.out); clear hq hC))
    go_upto_region 5 with (first
      | (refine wpList_load_row rfl 34 (.tmp 1) rfl w.heap.size rfl 34 (m.val p) (0, 0) _ BM2.out Tryd.underlying34 rfl (by kernel_rfl) ?_)
      | (go_at_call 13; (with_reducible refine (rbytes12_c HQ.out (HM.out.below HB2.out) hl hR).mono ?_); rintro y w3 ⟨A2, c2, rfl, hC, hc2, hq⟩; have HC2 := Aside0.mk hC; have HC1 := Aside0.mk (Kd.C_below HC1.out hq); have HB3 := Aside0.mk (HB2.out.trans (hq.mono HB2.out.size)); have BM3 := Aside0.mk ((hq.block _ (blk_lt BM2.out)).trans BM2.out); clear hq hC))
    have HC1 := Aside0.mk (Kd.C_drew HC1.out)
    have HC2 := Aside0.mk (Kd.C_drew HC2.out)
    have HBd : Aside0 (Below w.heap.size w w3.drew) := ⟨⟨HB3.out.os, HB3.out.tape, HB3.out.output, HB3.out.size, HB3.out.block⟩⟩
    have BM5 : Aside0 (w3.drew.heap[w.heap.size]? = some (.cells (m.val p) 34 (0, 0))) := ⟨BM3.out⟩
    have hxx : (x == x) = true := by simp
    have hcc : (cm == cm) = true := by simp
    clear HB0 HB1 HB2 HB3 BM BM1 BM2 BM3
    as_aux_lemma =>
    go_region_held3 (fun W => W.cell? ⟨w.heap.size, 0, none⟩ = some (.int .i64 m.kind) ∧ W.cell? ⟨w.heap.size, 1, none⟩ = some (.int .i64 m.fr) ∧ W.cell? ⟨w.heap.size, 2, none⟩ = some (.int .i64 m.dst) ∧ W.cell? ⟨w.heap.size, 3, none⟩ = some (.int .i64 m.ep) ∧ W.cell? ⟨w.heap.size, 4, none⟩ = some (.int .i64 m.op) ∧ W.cell? ⟨w.heap.size, 5, none⟩ = some (.int .i64 m.n) ∧ W.cell? ⟨w.heap.size, 6, none⟩ = some (.bool m.f) ∧ W.cell? ⟨w.heap.size, 7, none⟩ = some (.string m.e.f0) ∧ W.cell? ⟨w.heap.size, 8, none⟩ = some (.int .i64 m.e.f1.f0) ∧ W.cell? ⟨w.heap.size, 9, none⟩ = some (.int .i64 m.e.f1.f1) ∧ W.cell? ⟨w.heap.size, 10, none⟩ = some (.int .i64 m.e.f1.f2) ∧ W.cell? ⟨w.heap.size, 11, none⟩ = some (.bool m.e.f2.f0) ∧ W.cell? ⟨w.heap.size, 12, none⟩ = some (.slice p.vA m.e.f2.f1.length p.vc) ∧ W.cell? ⟨w.heap.size, 13, none⟩ = some (.slice p.lA m.L.length p.lc) ∧ W.cell? ⟨w.heap.size, 14, none⟩ = some (.slice p.rA m.R.length p.rc) ∧ W.cell? ⟨w.heap.size, 15, none⟩ = some (.int .i64 m.each) ∧ W.cell? ⟨w.heap.size, 16, none⟩ = some (.int .i64 m.keep)) (first | (exact ms_cells BM5.out)) (first
      | (go_at_call 14; (with_reducible refine (same_c HC1.out hc1 HC2.out hc2).mono ?_); rintro z w5 ⟨rfl, hd⟩; have hb := hd.below; clear hd; have HC1 := Aside0.mk (Kd.C_below HC1.out hb); have HC2 := Aside0.mk (Kd.C_below HC2.out hb); have BM5 := Aside0.mk ((hb.block _ (blk_lt BM5.out)).trans BM5.out); have HBd := Aside0.mk (HBd.out.trans (hb.mono HBd.out.size)); clear hb)
      | (go_at_call 15; (with_reducible refine (check_ (HK.out.below HBd.out) (HM.out.below HBd.out) WM.out.e hR).mono ?_); rw [HCM.out]; rintro z w5 ⟨rfl, hb⟩; have HC1 := Aside0.mk (Kd.C_below HC1.out hb); have HC2 := Aside0.mk (Kd.C_below HC2.out hb); have BM5 := Aside0.mk ((hb.block _ (blk_lt BM5.out)).trans BM5.out); have HBd := Aside0.mk (HBd.out.trans (hb.mono HBd.out.size)); clear hb)
      | (go_at_call 16; (with_reducible refine (rcheck_ (HM.out.below HBd.out) hl hR).mono ?_); rw [HCM.out]; rintro z w5 ⟨rfl, hb⟩; have HC1 := Aside0.mk (Kd.C_below HC1.out hb); have HC2 := Aside0.mk (Kd.C_below HC2.out hb); have BM5 := Aside0.mk ((hb.block _ (blk_lt BM5.out)).trans BM5.out); have HBd := Aside0.mk (HBd.out.trans (hb.mono HBd.out.size)); clear hb)
      | (go_at_call 11; (with_reducible refine (known_ _ (HK.out.below HBd.out)).mono ?_); rintro z w5 ⟨rfl, hb⟩; have HC1 := Aside0.mk (Kd.C_below HC1.out hb); have HC2 := Aside0.mk (Kd.C_below HC2.out hb); have BM5 := Aside0.mk ((hb.block _ (blk_lt BM5.out)).trans BM5.out); have HBd := Aside0.mk (HBd.out.trans (hb.mono HBd.out.size)); clear hb))
    all_goals
      go_wp2_with fail
      go_ret
      exact ⟨rfl, HBd.out⟩
  · go_wp2_with (go_at_call 11; (with_reducible refine (known_ _ (HK.out.below HB1.out)).mono ?_); rintro z w9 ⟨rfl, hq⟩; have HB9 := Aside0.mk (HB1.out.trans (hq.mono HB1.out.size)); clear hq)
    go_ret
    exact ⟨rfl, HB9.out⟩
open Go.Proofs.YthaoiamgkpkcbaaDoor.Opn in
theorem msgsWrites (w : World) (hK : Kin w) (cs : Array Value) (t : TM) (K : kMsg.K w t cs.toList) (wf : wMsg t) :
    Calls Tryd.prog 3 #[.agg cs] w fun e w' => e = .returned (.bool true) ∧ Below w.heap.size w w' := by
  obtain ⟨p, hc, hl⟩ := msg_cells K
  obtain rfl : cs = (toMs t).val p := Array.toList_inj.1 hc
  exact writes_law hK hl (wm_of wf)
end Go.Proofs.YthaoiamgkpkcbaaDoor.Ms
namespace Go.Proofs.YthaoiamgkpkcbaaDoor.Ms
open Go.ChangeShapes Go.WideShapes Go.ChangeAt Go.RowKit
abbrev laidK : List (String × DataW Unit) := [("icehouse/msgs.kinds", Rows.laid_icehouse_msgs_kinds)]
theorem gKinds : Tryd.prog.globalNamed "icehouse/msgs.kinds" = some 0 := by kernel_rfl
theorem tKinds : (Tryd.prog.globals[0]?).map (·.type) = some 98 := by kernel_rfl
theorem door_met (os : Os) (args : Array Value) : laidMetH Tryd.prog laidK ((World.doorLaid Tryd.prog 30 os).forCall (fun _ _ => 0) ⟨#[], args, []⟩).memory :=
  laidMetH_of_parts3 (fuel := 8) (laidMet_of_run' 8 (by kernel_rfl) (by kernel_rfl)) (by kernel_rfl) (by kernel_rfl)
theorem bool_trod {H : Type} {enc : TypeId × Value → H} {P : Program} {w : World} {base : Nat} {sp : Nat → Bool} {held : Bool} {fuel : Nat} {t : TypeId} {cs : List Value} {y : DataW H × List MemPlace}
    (ht : P.underlying t = some .bool) (hl : cs.length = 1) (h : DataW.trod enc P w base sp held fuel t cs = some y) : ∃ b, cs = [.bool b] ∧ y.1 = .lit (.bool b) := by
  match cs, hl with
  | [c], _ =>
    cases fuel with
    | zero => simp [DataW.trod] at h
    | succ fuel =>
      cases c with
      | bool b =>
        simp [DataW.trod, ht] at h
        exact ⟨b, rfl, by rw [← h]⟩
      | _ => simp [DataW.trod, ht] at h
set_option maxRecDepth 100000 in
theorem five_trod {H : Type} {enc : TypeId × Value → H} {w : World} {base : Nat} {sp : Nat → Bool} {held : Bool} {fuel : Nat} {cs : List Value} {y : DataW H × List MemPlace} {b0 b1 b2 b3 b4 : Bool}
    (h : DataW.trod enc Tryd.prog w base sp held fuel 97 cs = some y) (hy : y.1 = .agg [.lit (.bool b0), .lit (.bool b1), .lit (.bool b2), .lit (.bool b3), .lit (.bool b4)]) : cs = [.bool b0, .bool b1, .bool b2, .bool b3, .bool b4] := by
  obtain ⟨xs, m1, rfl, rfl, hlen, hn, hel⟩ := DataW.trod_array Tryd.underlying97 h
  have c5 : Tryd.prog.cellsOf 97 = 5 := by kernel_rfl
  have c1 : Tryd.prog.cellsOf 4 = 1 := by kernel_rfl
  rw [c5] at hlen
  match cs, hlen with
  | [v0, v1, v2, v3, v4], _ =>
    have e0 := hel 0 (by decide)
    have e1 := hel 1 (by decide)
    have e2 := hel 2 (by decide)
    have e3 := hel 3 (by decide)
    have e4 := hel 4 (by decide)
    rw [c1] at e0 e1 e2 e3 e4
    match xs, hn with
    | [x0, x1, x2, x3, x4], _ =>
      simp only [List.map_cons, List.map_nil, DataW.agg.injEq, List.cons.injEq, and_true] at hy
      obtain ⟨y0, y1, y2, y3, y4⟩ := hy
      obtain ⟨z0, h0, q0⟩ := bool_trod Tryd.underlying4 rfl (show DataW.trod enc Tryd.prog w base sp held m1 4 [v0] = some x0 from e0)
      obtain ⟨z1, h1, q1⟩ := bool_trod Tryd.underlying4 rfl (show DataW.trod enc Tryd.prog w base sp held m1 4 [v1] = some x1 from e1)
      obtain ⟨z2, h2, q2⟩ := bool_trod Tryd.underlying4 rfl (show DataW.trod enc Tryd.prog w base sp held m1 4 [v2] = some x2 from e2)
      obtain ⟨z3, h3, q3⟩ := bool_trod Tryd.underlying4 rfl (show DataW.trod enc Tryd.prog w base sp held m1 4 [v3] = some x3 from e3)
      obtain ⟨z4, h4, q4⟩ := bool_trod Tryd.underlying4 rfl (show DataW.trod enc Tryd.prog w base sp held m1 4 [v4] = some x4 from e4)
      rw [q0] at y0; rw [q1] at y1; rw [q2] at y2; rw [q3] at y3; rw [q4] at y4
      simp only [DataW.lit.injEq, Lit.bool.injEq] at y0 y1 y2 y3 y4
      subst y0 y1 y2 y3 y4
      simp only [List.cons.injEq, and_true] at h0 h1 h2 h3 h4
      rw [h0, h1, h2, h3, h4]
theorem chunks : ∀ (n : Nat) (l : List Value) (f : Nat → List Value), l.length = n * 5 → (∀ i, i < n → (l.drop (i * 5)).take 5 = f i) → l = (List.range n).flatMap f := by
  intro n
  induction n with
  | zero => intro l f hl _; simpa using hl
  | succ n ih =>
    intro l f hl h
    have h1 := ih (l.take (n * 5)) f (by rw [List.length_take]; omega) (fun i hi => by
      rw [← h i (by omega), List.drop_take, List.take_take]
      congr 1; omega)
    have h2 := h n (by omega)
    rw [List.range_succ, List.flatMap_append, ← h1]
    simp only [List.flatMap_cons, List.flatMap_nil, List.append_nil]
    rw [← h2, List.take_of_length_le (i := 5) (l := l.drop (n * 5)) (by rw [List.length_drop]; omega), List.take_append_drop]
def rowK (i : Nat) : List Value := match tab[i]? with
  | some h => [.bool h.n, .bool h.f, .bool h.e, .bool h.l, .bool h.r]
  | none => []
theorem kinds_chunks : kindsC.toList = (List.range 18).flatMap rowK := by kernel_rfl
set_option maxRecDepth 100000 in
theorem kin_of_laid {W : World} (h : laidMetH Tryd.prog laidK W) : Kin W := by
  rw [MakeChecks.laidMetH_plain _ _ _ (by kernel_rfl)] at h
  obtain ⟨ps, ⟨g0, t0, cs0, f0, p0, q0, hg0, ht0, hv0, hd0, _, _⟩, _⟩ := h
  obtain rfl := Option.some.inj (gKinds.symm.trans hg0)
  obtain rfl := Option.some.inj (tKinds.symm.trans ht0)
  obtain ⟨xs, m1, rfl, hx, hlen, hn, hel⟩ := DataW.trod_array Tryd.underlying98 hd0
  have c5 : Tryd.prog.cellsOf 97 = 5 := by kernel_rfl
  have c90 : Tryd.prog.cellsOf 98 = 90 := by kernel_rfl
  rw [c90] at hlen
  simp only [c5] at hel
  have hcs : cs0.toList = kindsC.toList := by
    rw [kinds_chunks]
    refine chunks 18 cs0.toList rowK hlen fun i hi => ?_
    have he := hel i hi
    have hxs : xs.map (·.1) = (tab.map fun h => (DataW.agg [.lit (.bool h.n), .lit (.bool h.f), .lit (.bool h.e), .lit (.bool h.l), .lit (.bool h.r)] : DataW Unit)) := by
      have := congrArg Prod.fst hx
      simp only at this
      injection this with this
      rw [← this]; rfl
    obtain ⟨x, hxi⟩ : ∃ x, xs[i]? = some x := ⟨xs[i]'(by omega), List.getElem?_eq_getElem (by omega)⟩
    rw [hxi] at he
    have ht : i < tab.length := hi
    have hm : (xs.map (·.1))[i]? = some x.1 := by rw [List.getElem?_map, hxi]; rfl
    rw [hxs, List.getElem?_map, List.getElem?_eq_getElem ht] at hm
    have hm2 := Option.some.inj hm
    unfold rowK
    rw [List.getElem?_eq_getElem ht]
    exact five_trod he hm2.symm
  have : cs0 = kindsC := Array.toList_inj.1 hcs
  subst this
  unfold World.var? at hv0
  rw [gKinds, Option.bind_some] at hv0
  split at hv0
  · rename_i c t fr hb
    obtain rfl := Option.some.inj hv0
    exact ⟨t, fr, hb⟩
  · cases hv0
end Go.Proofs.YthaoiamgkpkcbaaDoor.Ms
