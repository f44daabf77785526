/- Written by a program of this session over the kit's print: functions and their contracts. · What the reference reads of a message's bytes, piece by piece, plain. Conditions: bytes that fit in memory. · The contracts of the reference's Has, of long, and of msgs.Back. Conditions: the table lies in its variable. · The contract of msgs.Copy: the same message, its rows the call's own. Conditions: rows that fit in memory. · A message that the reference reads: its block, its rows, and how far it has come. Conditions: none. -/
import Derived.Test.YthaoiamgkpkcbaaDoorYMsgsReads18
import Derived.Test.YthaoiamgkpkcbaaDoorYMsgsReads19
import Derived.Test.YthaoiamgkpkcbaaDoorYMsgsReads17
import Derived.Deep.Light

namespace Go.Proofs.YthaoiamgkpkcbaaDoor.QD
open Go.Proofs.YthaoiamgkpkcbaaDoor.QL
open Go.RowKit Go.Proofs.YthaoiamgkpkcbaaDoorW.PrintWords Go.Proofs.YthaoiamgkpkcbaaDoorW.PrintLast Go.Proofs.YthaoiamgkpkcbaaDoorW.PrintMore
attribute [local go_sem] max2_int min2_int max_two min_two max_three min_three max_four min_four   -- for this text's walks alone
set_option linter.unusedVariables false
set_option linter.unusedSimpArgs false
end Go.Proofs.YthaoiamgkpkcbaaDoor.QD
namespace Go.Proofs.YthaoiamgkpkcbaaDoor.Ms
open Go Go.RowKit Go.Proofs.YthaoiamgkpkcbaaDoor.Pk Go.Proofs.YthaoiamgkpkcbaaDoor.Tg Go.Proofs.YthaoiamgkpkcbaaDoor.Enc Go.Proofs.YthaoiamgkpkcbaaDoor.EncP Go.Proofs.YthaoiamgkpkcbaaDoor.Lex Go.Proofs.YthaoiamgkpkcbaaDoor.EncC
open Go.Proofs.YthaoiamgkpkcbaaDoorW.PrintWords Go.Proofs.YthaoiamgkpkcbaaDoorW.PrintLast Go.Proofs.YthaoiamgkpkcbaaDoorW.PrintMore
set_option linter.unusedVariables false
set_option linter.unusedSimpArgs false
def numsS : List Int → St → List Int × St
  | [], s => ([], s)
  | m :: ms, s => ((belowS (m + 1) s).1 :: (numsS ms (belowS (m + 1) s).2).1, (numsS ms (belowS (m + 1) s).2).2)
theorem numsS_cons (m : Int) (ms : List Int) (s : St) : numsS (m :: ms) s = ((belowS (m + 1) s).1 :: (numsS ms (belowS (m + 1) s).2).1, (numsS ms (belowS (m + 1) s).2).2) := rfl
theorem numsS_dead : ∀ {ms : List Int} {s : St}, s.e ≠ 0 → (numsS ms s).2.e = s.e
  | [], s, _ => rfl
  | m :: ms, s, h => by
    have h1 : (belowS (m + 1) s).2.e = s.e := by rw [belowS_dead h]
    rw [numsS_cons]
    exact (numsS_dead (ms := ms) (s := (belowS (m + 1) s).2) (by rw [h1]; exact h)).trans h1
theorem iter_add {f : Ms × St → Ms × St} : ∀ (a b : Nat) (x : Ms × St), iter f (a + b) x = iter f a (iter f b x)
  | 0, b, x => by rw [Nat.zero_add]; rfl
  | a + 1, b, x => by rw [show a + 1 + b = (a + b) + 1 by omega]; show f (iter f (a + b) x) = f (iter f a (iter f b x)); rw [iter_add a b x]
theorem iter_bad {f : Ms × St → Ms × St} (hd : Dead f) {N i : Nat} {x : Ms × St} {e : Int} (h : (iter f i x).2.e = e) (he : e ≠ 0) (hi : i ≤ N) : (iter f N x).2.e = e := by
  obtain ⟨a, rfl⟩ : ∃ a, N = a + i := ⟨N - i, by omega⟩
  rw [iter_add]
  exact (iter_dead hd a _ (by rw [h]; exact he)).trans h
theorem fill_l0 {l : List Int} (x7 : List Int) (x8 : Int) (n : Nat) (hn : n ≤ 64) {r : List Int × Int × Int × Int × Int} : ∀ (d i : Nat), n - i = d → i ≤ n → Since (fun k => QD.icehouseref12_ring.l0 k l x7 x8 (List.replicate n 1048575) (n : Int)) r → Since (fun k => QD.icehouseref12_ring.l0 k l x7 x8 (List.replicate i 1048575 ++ List.replicate (n - i) 0) (i : Int)) r := by
  intro d
  induction d with
  | zero =>
    intro i hd hi h
    obtain rfl : i = n := by omega
    rw [Nat.sub_self, List.replicate_zero, List.append_nil]
    exact h
  | succ d ih =>
    intro i hd hi h
    have hw : wrap64 ((i : Int) + 1) = ((i + 1 : Nat) : Int) := by unfold wrap64; omega
    refine Since.one (ih (i + 1) (by omega) (by omega) h) fun k hk => ?_
    simp only [QD.icehouseref12_ring.l0]
    have hlen : (List.replicate i (1048575 : Int) ++ List.replicate (n - i) 0).length = n := by simp; omega
    have hset : (List.replicate i (1048575 : Int) ++ List.replicate (n - i) 0).set i 1048575 = List.replicate (i + 1) 1048575 ++ List.replicate (n - (i + 1)) 0 := by
      rw [List.set_append_right _ _ (by simp)]
      rw [List.length_replicate, Nat.sub_self, show n - i = (n - (i + 1)) + 1 by omega, List.replicate_succ, List.set_cons_zero, List.replicate_succ' (n := i), List.append_assoc]
      rfl
    rw [if_pos (by rw [hlen]; omega), if_pos (by omega), hw, Int.toNat_natCast, hset]
    exact hk
theorem rstep_nums : ∀ (n : Nat) (m : Ms) (s : St), iter rstep n (m, s) = ({ m with R := m.R ++ (numsS (List.replicate n 1048575) s).1 }, (numsS (List.replicate n 1048575) s).2)
  | 0, m, s => by simp [iter, numsS]
  | n + 1, m, s => by
    rw [iter_succ', List.replicate_succ, numsS_cons]
    have : rstep (m, s) = ({ m with R := m.R ++ [(belowS 1048576 s).1] }, (belowS 1048576 s).2) := rfl
    rw [this, rstep_nums n]
    simp only [List.append_assoc]
    rfl
section
variable {l : List Int} (hb : ∀ x ∈ l, 0 ≤ x ∧ x < 256) (hl : l.length ≤ 140737488351232)
include hb hl
theorem nums_l0 (all : List Int) (ha : all.length ≤ 1000) : ∀ (d i p : Nat) (acc : List Int), all.length - i = d → i ≤ all.length → p ≤ l.length → acc.length ≤ i →
    (∃ (ns : List Int) (j : Nat), j ≤ l.length ∧ numsS (all.drop i) ⟨l.drop p, 0⟩ = (ns, ⟨l.drop j, 0⟩) ∧ Since (fun k => QD.icehouseref12_numbers.l0 k l (p : Int) all acc (i : Int)) (acc ++ ns, (j : Int), 0)) ∨
    (∃ t e : Int, e ≠ 0 ∧ (numsS (all.drop i) ⟨l.drop p, 0⟩).2.e = e ∧ Since (fun k => QD.icehouseref12_numbers.l0 k l (p : Int) all acc (i : Int)) ([], t, e)) := by
  intro d
  induction d with
  | zero =>
    intro i p acc hd hi hp hc
    obtain rfl : i = all.length := by omega
    refine .inl ⟨[], p, hp, by rw [List.drop_length]; rfl, Since.none fun k => ?_⟩
    simp only [QD.icehouseref12_numbers.l0]
    rw [if_neg (Int.lt_irrefl _), List.append_nil]
  | succ d ih =>
    intro i p acc hd hi hp hc
    have h1 : i < all.length := by omega
    have hr : rd all (i : Int) = all[i] := by simp [rd, h1]
    have hw : wrap64 ((i : Int) + 1) = ((i + 1 : Nat) : Int) := by unfold wrap64; omega
    have hg := rgetnum_ev l p all[i] hp hl hb
    obtain ⟨n, t, e, hq⟩ : ∃ x y z, getNumP l p all[i] = (x, y, z) := ⟨_, _, _, rfl⟩
    rw [hq] at hg
    rw [List.drop_eq_getElem_cons h1, numsS_cons]
    by_cases he : e = 0
    · subst he
      obtain ⟨j, rfl, hj, _⟩ := getNumP_ok hq hb
      rw [num_ok hb hq]
      rcases ih (i + 1) j (acc ++ [n]) (by omega) (by omega) hj (by rw [List.length_append]; simp; omega) with ⟨ns, j2, hj2, hn, hs⟩ | ⟨t2, e2, he2, hn, hs⟩
      · refine .inl ⟨n :: ns, j2, hj2, by rw [hn], Since.two hg hs fun k h2 h3 => ?_⟩
        simp only [QD.icehouseref12_numbers.l0]
        rw [if_pos (by omega), if_pos (by omega), hr, h2, Option.bind_some, if_pos rfl, if_pos (by omega), hw]
        refine (show _ = _ from h3).trans ?_
        simp
      · refine .inr ⟨t2, e2, he2, hn, Since.two hg hs fun k h2 h3 => ?_⟩
        simp only [QD.icehouseref12_numbers.l0]
        rw [if_pos (by omega), if_pos (by omega), hr, h2, Option.bind_some, if_pos rfl, if_pos (by omega), hw]
        exact h3
    · rw [num_bad hb hq he]
      refine .inr ⟨(p : Int), e, he, numsS_dead he, Since.one hg fun k h2 => ?_⟩
      simp only [QD.icehouseref12_numbers.l0]
      rw [if_pos (by omega), if_pos (by omega), hr, h2, Option.bind_some, if_neg he]
theorem nums_ev (all : List Int) (ha : all.length ≤ 1000) (p : Nat) (hp : p ≤ l.length) :
    (∃ (ns : List Int) (j : Nat), j ≤ l.length ∧ numsS all ⟨l.drop p, 0⟩ = (ns, ⟨l.drop j, 0⟩) ∧ Since (fun k => QD.icehouseref12_numbers.f k l (p : Int) all) (ns, (j : Int), 0)) ∨
    (∃ t e : Int, e ≠ 0 ∧ (numsS all ⟨l.drop p, 0⟩).2.e = e ∧ Since (fun k => QD.icehouseref12_numbers.f k l (p : Int) all) ([], t, e)) :=
  nums_l0 hb hl all ha _ 0 p [] rfl (Nat.zero_le _) hp (Nat.le_refl _)
theorem listl_ev (m : Ms) (s0 : St) (p0 : Int) (N : Nat) (hN : N ≤ 1000) : ∀ (d i p : Nat) (acc : List E6), N - i = d → i ≤ N → p ≤ l.length → acc.length ≤ i → iter lstep i (m, s0) = ({ m with L := m.L ++ acc }, ⟨l.drop p, 0⟩) →
    (∃ (L : List E6) (j : Nat), j ≤ l.length ∧ iter lstep N (m, s0) = ({ m with L := m.L ++ L }, ⟨l.drop j, 0⟩) ∧ Since (fun k => QD.icehouseref12_list.l0 k l p0 (N : Int) (p : Int) acc (i : Int)) (L, (j : Int), 0)) ∨
    (∃ e : Int, e ≠ 0 ∧ (iter lstep N (m, s0)).2.e = e ∧ Since (fun k => QD.icehouseref12_list.l0 k l p0 (N : Int) (p : Int) acc (i : Int)) ([], p0, e)) := by
  intro d
  induction d with
  | zero =>
    intro i p acc hd hi hp hc hit
    obtain rfl : i = N := by omega
    refine .inl ⟨acc, p, hp, hit, Since.none fun k => ?_⟩
    simp only [QD.icehouseref12_list.l0]
    rw [if_neg (Int.lt_irrefl _)]
  | succ d ih =>
    intro i p acc hd hi hp hc hit
    have hw : wrap64 ((i : Int) + 1) = ((i + 1 : Nat) : Int) := by unfold wrap64; omega
    have hG := Fd.icehouseref03_Get.is (l := l) (a := (p : Int)) ⟨hl, hb, by omega, by omega⟩
    rw [Int.toNat_natCast] at hG
    have hstep : iter lstep (i + 1) (m, s0) = lstep (iter lstep i (m, s0)) := rfl
    rw [hit] at hstep
    rcases rget_eq hb hp with ⟨en, j, hr, hj, hs⟩ | ⟨e, s, he, hr, hse, hs⟩
    · have hst : iter lstep (i + 1) (m, s0) = ({ m with L := m.L ++ (acc ++ [toE en]) }, ⟨l.drop j, 0⟩) := by
        rw [hstep]
        unfold lstep
        simp only [hs, List.append_assoc]
      rw [hr] at hG
      rcases ih (i + 1) j (acc ++ [toE en]) (by omega) (by omega) hj (by rw [List.length_append]; simp; omega) hst with ⟨L, j2, hj2, hn, hs2⟩ | ⟨e2, he2, hn, hs2⟩
      · refine .inl ⟨L, j2, hj2, hn, Since.one hs2 fun k h3 => ?_⟩
        simp only [QD.icehouseref12_list.l0]
        rw [if_pos (by omega), hG, Option.bind_some, if_pos rfl, if_pos (by omega), hw]
        exact h3
      · refine .inr ⟨e2, he2, hn, Since.one hs2 fun k h3 => ?_⟩
        simp only [QD.icehouseref12_list.l0]
        rw [if_pos (by omega), hG, Option.bind_some, if_pos rfl, if_pos (by omega), hw]
        exact h3
    · have hst : (iter lstep (i + 1) (m, s0)).2.e = e := by
        rw [hstep]
        unfold lstep
        simp only [hs, hse]
      rw [hr] at hG
      refine .inr ⟨e, he, iter_bad lstep_dead hst he (by omega), Since.none fun k => ?_⟩
      simp only [QD.icehouseref12_list.l0]
      rw [if_pos (by omega), hG, Option.bind_some, if_neg he]
/-- the list, from a place on -/
theorem list_ev (m : Ms) (hm : m.L = []) (p : Nat) (hp : p ≤ l.length) :
    (∃ (L : List E6) (j : Nat), j ≤ l.length ∧ iter lstep (belowS 1001 ⟨l.drop p, 0⟩).1.toNat (m, (belowS 1001 ⟨l.drop p, 0⟩).2) = ({ m with L := L }, ⟨l.drop j, 0⟩) ∧ Since (fun k => QD.icehouseref12_list.f k l (p : Int)) (L, (j : Int), 0)) ∨
    (∃ e : Int, e ≠ 0 ∧ (iter lstep (belowS 1001 ⟨l.drop p, 0⟩).1.toNat (m, (belowS 1001 ⟨l.drop p, 0⟩).2)).2.e = e ∧ Since (fun k => QD.icehouseref12_list.f k l (p : Int)) ([], (p : Int), e)) := by
  have hg := rgetnum_ev l p 1000 hp hl hb
  obtain ⟨n, t, e, hq⟩ : ∃ x y z, getNumP l p 1000 = (x, y, z) := ⟨_, _, _, rfl⟩
  rw [hq] at hg
  by_cases he : e = 0
  · subst he
    obtain ⟨j, rfl, hj, _, n0, n1⟩ := getNumP_ok hq hb
    have hB : belowS 1001 ⟨l.drop p, 0⟩ = (n, ⟨l.drop j, 0⟩) := num_ok hb hq
    rw [hB]
    obtain ⟨N, rfl⟩ := Int.eq_ofNat_of_zero_le n0
    rw [Int.toNat_natCast]
    have h0 : iter lstep 0 (m, (⟨l.drop j, 0⟩ : St)) = ({ m with L := m.L ++ [] }, ⟨l.drop j, 0⟩) := by rw [List.append_nil]; rfl
    rcases listl_ev hb hl m ⟨l.drop j, 0⟩ (p : Int) N (by omega) _ 0 j [] rfl (Nat.zero_le _) hj (Nat.le_refl _) h0 with ⟨L, j2, hj2, hn, hs2⟩ | ⟨e2, he2, hn, hs2⟩
    · refine .inl ⟨L, j2, hj2, by rw [hn, hm, List.nil_append], Since.and hg hs2 fun k h2 h3 => ?_⟩
      unfold QD.icehouseref12_list.f
      rw [h2, Option.bind_some, if_pos rfl]
      exact h3
    · refine .inr ⟨e2, he2, hn, Since.and hg hs2 fun k h2 h3 => ?_⟩
      unfold QD.icehouseref12_list.f
      rw [h2, Option.bind_some, if_pos rfl]
      exact h3
  · have hB : belowS 1001 ⟨l.drop p, 0⟩ = (0, ⟨l.drop p, e⟩) := num_bad hb hq he
    rw [hB]
    refine .inr ⟨e, he, rfl, hg.map fun k h2 => ?_⟩
    unfold QD.icehouseref12_list.f
    rw [h2, Option.bind_some, if_neg he]
/-- the ring, from a place on -/
theorem ring_rd_ev (m : Ms) (hm : m.R = []) (p : Nat) (hp : p ≤ l.length) :
    (∃ (R : List Int) (ea kp : Int) (j : Nat), j ≤ l.length ∧ iter rstep (belowS 65 (gk (m, (⟨l.drop p, 0⟩ : St))).2).1.toNat ((gk (m, (⟨l.drop p, 0⟩ : St))).1, (belowS 65 (gk (m, (⟨l.drop p, 0⟩ : St))).2).2) = ({ m with R := R, each := ea, keep := kp }, ⟨l.drop j, 0⟩) ∧ Since (fun k => QD.icehouseref12_ring.f k l (p : Int)) (R, ea, kp, (j : Int), 0)) ∨
    (∃ (R : List Int) (ea kp t e : Int), e ≠ 0 ∧ (iter rstep (belowS 65 (gk (m, (⟨l.drop p, 0⟩ : St))).2).1.toNat ((gk (m, (⟨l.drop p, 0⟩ : St))).1, (belowS 65 (gk (m, (⟨l.drop p, 0⟩ : St))).2).2)).2.e = e ∧ Since (fun k => QD.icehouseref12_ring.f k l (p : Int)) (R, ea, kp, t, e)) := by
  have hgk : gk (m, (⟨l.drop p, 0⟩ : St)) = ({ m with each := (belowS 65 ⟨l.drop p, 0⟩).1, keep := (belowS 65 (belowS 65 ⟨l.drop p, 0⟩).2).1 }, (belowS 65 (belowS 65 ⟨l.drop p, 0⟩).2).2) := rfl
  have h3n : numsS [64, 64, 64] ⟨l.drop p, 0⟩ = ([(belowS 65 ⟨l.drop p, 0⟩).1, (belowS 65 (belowS 65 ⟨l.drop p, 0⟩).2).1, (belowS 65 (belowS 65 (belowS 65 ⟨l.drop p, 0⟩).2).2).1], (belowS 65 (belowS 65 (belowS 65 ⟨l.drop p, 0⟩).2).2).2) := rfl
  rw [hgk]
  dsimp only
  rcases nums_ev hb hl [64, 64, 64] (by simp) p hp with ⟨ns, j, hj, hn, hs⟩ | ⟨t, e, he, hn, hs⟩
  · rw [h3n] at hn
    obtain ⟨n1, n2⟩ := Prod.mk.inj hn
    obtain ⟨ea, hea⟩ : ∃ x, (belowS 65 ⟨l.drop p, 0⟩).1 = x := ⟨_, rfl⟩
    obtain ⟨kp, hkp⟩ : ∃ x, (belowS 65 (belowS 65 ⟨l.drop p, 0⟩).2).1 = x := ⟨_, rfl⟩
    obtain ⟨N, hN, hN2⟩ := below_rng 65 (belowS 65 (belowS 65 ⟨l.drop p, 0⟩).2).2 (by decide)
    rw [hea, hkp, hN] at n1
    rw [hea, hkp, hN, n2, Int.toNat_natCast, rstep_nums]
    subst n1
    have hr0 : rd [ea, kp, (N : Int)] 0 = ea := rfl
    have hr1 : rd [ea, kp, (N : Int)] 1 = kp := rfl
    have hr2 : rd [ea, kp, (N : Int)] 2 = (N : Int) := rfl
    have hf : ∀ {r : List Int × Int × Int × Int × Int}, Since (fun k => QD.icehouseref12_ring.l0 k l [ea, kp, (N : Int)] (j : Int) (List.replicate N 1048575) (N : Int)) r → Since (fun k => QD.icehouseref12_ring.f k l (p : Int)) r := by
      intro r h
      have h0 := fill_l0 [ea, kp, (N : Int)] (j : Int) N (by omega) _ 0 rfl (Nat.zero_le _) h
      refine Since.and hs h0 fun k h2 h3 => ?_
      unfold QD.icehouseref12_ring.f
      rw [h2, Option.bind_some, if_pos rfl, if_pos (by simp), hr2, if_pos (by omega), if_pos (by omega), Int.toNat_natCast]
      refine (show _ = _ from h3)
    rcases nums_ev hb hl (List.replicate N 1048575) (by simp; omega) j hj with ⟨ns2, j2, hj2, hn2, hs2⟩ | ⟨t2, e2, he2, hn2, hs2⟩
    · rw [hn2]
      refine .inl ⟨ns2, ea, kp, j2, hj2, by rw [hm, List.nil_append], hf (Since.one hs2 fun k h2 => ?_)⟩
      simp only [QD.icehouseref12_ring.l0]
      rw [if_neg (by simp), h2, Option.bind_some, if_pos (by simp), if_pos (by simp), hr0, hr1]
    · refine .inr ⟨[], ea, kp, t2, e2, he2, hn2, hf (Since.one hs2 fun k h2 => ?_)⟩
      simp only [QD.icehouseref12_ring.l0]
      rw [if_neg (by simp), h2, Option.bind_some, if_pos (by simp), if_pos (by simp), hr0, hr1]
  · rw [h3n] at hn
    dsimp only at hn
    refine .inr ⟨[], 0, 0, (p : Int), e, he, ?_, hs.map fun k h2 => ?_⟩
    · exact (iter_dead rstep_dead _ (_, (belowS 65 (belowS 65 (belowS 65 ⟨l.drop p, 0⟩).2).2).2) (by show (belowS 65 (belowS 65 (belowS 65 ⟨l.drop p, 0⟩).2).2).2.e ≠ 0; rw [hn]; exact he)).trans hn
    · unfold QD.icehouseref12_ring.f
      rw [h2, Option.bind_some, if_neg he]
end
section
variable {l : List Int}
/-- what comes of a message's head: four ways -/
theorem head_bad1 {e : Int} (h : (belowS 18 ⟨l, 0⟩).2.e = e) (he : e ≠ 0) : (gep (gfr (g0 ⟨l, 0⟩))).2.e = e := by
  have h0 : (g0 ⟨l, 0⟩).2.e = e := by
    show (if (belowS 18 ⟨l, 0⟩).1 = 0 then failS (belowS 18 ⟨l, 0⟩).2 else (belowS 18 ⟨l, 0⟩).2).e = e
    split
    · rw [show failS (belowS 18 ⟨l, 0⟩).2 = (belowS 18 ⟨l, 0⟩).2 from by unfold failS; rw [if_neg (by rw [h]; exact he)]]; exact h
    · exact h
  have h1 : (gfr (g0 ⟨l, 0⟩)).2.e = e := (gfr_dead _ (by rw [h0]; exact he)).trans h0
  exact (gep_dead _ (by rw [h1]; exact he)).trans h1
theorem head_zero {j : Nat} (h : belowS 18 ⟨l, 0⟩ = (0, ⟨l.drop j, 0⟩)) : (gep (gfr (g0 ⟨l, 0⟩))).2.e = 11 := by
  have h0 : (g0 ⟨l, 0⟩).2.e = 11 := by
    show (if (belowS 18 ⟨l, 0⟩).1 = 0 then failS (belowS 18 ⟨l, 0⟩).2 else (belowS 18 ⟨l, 0⟩).2).e = 11
    rw [h]; rfl
  have h1 : (gfr (g0 ⟨l, 0⟩)).2.e = 11 := (gfr_dead _ (by rw [h0]; decide)).trans h0
  exact (gep_dead _ (by rw [h1]; decide)).trans h1
theorem head_on {j : Nat} {kd : Int} (h : belowS 18 ⟨l, 0⟩ = (kd, ⟨l.drop j, 0⟩)) (hk : kd ≠ 0) : g0 ⟨l, 0⟩ = ({ zM with kind := kd }, ⟨l.drop j, 0⟩) := by
  show ({ zM with kind := (belowS 18 ⟨l, 0⟩).1 }, if (belowS 18 ⟨l, 0⟩).1 = 0 then failS (belowS 18 ⟨l, 0⟩).2 else (belowS 18 ⟨l, 0⟩).2) = _
  rw [h, if_neg hk]
theorem nums4 (s : St) : numsS [1048575, 1048575, 1099511627775, 1099511627775] s = ([(belowS 1048576 s).1, (belowS 1048576 (belowS 1048576 s).2).1, (belowS 1099511627776 (belowS 1048576 (belowS 1048576 s).2).2).1, (belowS 1099511627776 (belowS 1099511627776 (belowS 1048576 (belowS 1048576 s).2).2).2).1], (belowS 1099511627776 (belowS 1099511627776 (belowS 1048576 (belowS 1048576 s).2).2).2).2) := rfl
theorem head_four {j : Nat} {kd : Int} {ns : List Int} {s : St} (h : belowS 18 ⟨l, 0⟩ = (kd, ⟨l.drop j, 0⟩)) (hk : kd ≠ 0) (h4 : numsS [1048575, 1048575, 1099511627775, 1099511627775] ⟨l.drop j, 0⟩ = (ns, s)) : ∃ a b c d, ns = [a, b, c, d] ∧ gep (gfr (g0 ⟨l, 0⟩)) = ({ zM with kind := kd, fr := a, dst := b, ep := c, op := d }, s) := by
  rw [nums4] at h4
  obtain ⟨rfl, rfl⟩ := Prod.mk.inj h4
  rw [head_on (l := l) h hk]
  exact ⟨_, _, _, _, rfl, rfl⟩
end
end Go.Proofs.YthaoiamgkpkcbaaDoor.Ms
namespace Go.Proofs.YthaoiamgkpkcbaaDoor.Ms
open Go.ChangeShapes Go.WideShapes Go.ChangeAt Go.RowKit Go.Proofs.YthaoiamgkpkcbaaDoor.Pk Go.Proofs.YthaoiamgkpkcbaaDoor.Tg Go.Proofs.YthaoiamgkpkcbaaDoor.Enc Go.Proofs.YthaoiamgkpkcbaaDoor.EncC Go.Proofs.YthaoiamgkpkcbaaDoor.EncP
open Go.Proofs.YthaoiamgkpkcbaaDoor.Hlp Go.Proofs.YthaoiamgkpkcbaaDoor.Wrd Go.Proofs.YthaoiamgkpkcbaaDoor.Lex Go.Proofs.YthaoiamgkpkcbaaDoorW.PrintWords Go.Proofs.YthaoiamgkpkcbaaDoorW.PrintLast Go.Proofs.YthaoiamgkpkcbaaDoorW.PrintMore
set_option linter.unusedVariables false
set_option linter.unusedSimpArgs false
/-- what a kind has, by its letter -/
def hasL (h : Hs) (c : UInt8) : Bool := if c = 110 then h.n else if c = 102 then h.f else if c = 101 then h.e else if c = 108 then h.l else h.r
theorem has_tab : ∀ c ∈ ([110, 102, 101, 108, 114] : List UInt8), (List.range 18).map (fun i => QR.icehouseref12_Has.f 12 ((i : Nat) : Int) ⟨#[c]⟩) = (List.range 18).map (fun i => some (hasL (hasV ((i : Nat) : Int)) c)) := by
  intro c hc
  simp only [List.mem_cons, List.not_mem_nil, or_false] at hc
  rcases hc with rfl | rfl | rfl | rfl | rfl <;> kernel_rfl
theorem has_f (k : Int) (c : UInt8) (hc : c ∈ ([110, 102, 101, 108, 114] : List UInt8)) : QR.icehouseref12_Has.f 12 k ⟨#[c]⟩ = some (hasL (hasV k) c) := by
  by_cases hk : 1 ≤ k ∧ k ≤ 17
  · obtain ⟨n, rfl⟩ := Int.eq_ofNat_of_zero_le (show 0 ≤ k by omega)
    have := congrArg (fun l => l[n]?) (has_tab c hc)
    simp only [List.getElem?_map, List.getElem?_range (show n < 18 by omega), Option.map_some] at this
    exact Option.some.inj this
  · have hn : hasV k = Hs.none := by unfold hasV; rw [if_neg hk]
    have hl : hasL (hasV k) c = false := by rw [hn]; unfold hasL Hs.none; repeat' split
                                            all_goals rfl
    rw [hl]
    unfold QR.icehouseref12_Has.f
    by_cases h1 : k < 1
    · rw [if_pos h1]; simp only [QR.icehouseref12_Has.j0]; rfl
    · rw [if_neg h1, decide_eq_true (show k > 17 by omega)]; simp only [QR.icehouseref12_Has.j0]; rfl
theorem rhas_c (k : Int) (c : UInt8) (hc : c ∈ ([110, 102, 101, 108, 114] : List UInt8)) {r : Bool} (hr : hasL (hasV k) c = r) (w : World) : Calls Tryd.prog 21 #[.int .i64 k, .string ⟨#[c]⟩] w fun e w' => e = .returned (.bool r) ∧ Below w.heap.size w w' :=
  QR.icehouseref12_Has.calls 12 k ⟨#[c]⟩ r w (by rw [has_f k c hc, hr])
theorem rhas_n (k : Int) {r : Bool} (hr : (hasV k).n = r) (w : World) : Calls Tryd.prog 21 #[.int .i64 k, .string ⟨#[110]⟩] w fun e w' => e = .returned (.bool r) ∧ Below w.heap.size w w' := rhas_c k 110 (by decide) hr w
theorem rhas_f (k : Int) {r : Bool} (hr : (hasV k).f = r) (w : World) : Calls Tryd.prog 21 #[.int .i64 k, .string ⟨#[102]⟩] w fun e w' => e = .returned (.bool r) ∧ Below w.heap.size w w' := rhas_c k 102 (by decide) hr w
theorem rhas_e (k : Int) {r : Bool} (hr : (hasV k).e = r) (w : World) : Calls Tryd.prog 21 #[.int .i64 k, .string ⟨#[101]⟩] w fun e w' => e = .returned (.bool r) ∧ Below w.heap.size w w' := rhas_c k 101 (by decide) hr w
theorem rhas_l (k : Int) {r : Bool} (hr : (hasV k).l = r) (w : World) : Calls Tryd.prog 21 #[.int .i64 k, .string ⟨#[108]⟩] w fun e w' => e = .returned (.bool r) ∧ Below w.heap.size w w' := rhas_c k 108 (by decide) hr w
theorem rhas_r (k : Int) {r : Bool} (hr : (hasV k).r = r) (w : World) : Calls Tryd.prog 21 #[.int .i64 k, .string ⟨#[114]⟩] w fun e w' => e = .returned (.bool r) ∧ Below w.heap.size w w' := rhas_c k 114 (by decide) hr w
/-! long -/
/-! Back -/
end Go.Proofs.YthaoiamgkpkcbaaDoor.Ms
namespace Go.Proofs.YthaoiamgkpkcbaaDoor.Ms
open Go.ChangeShapes Go.WideShapes Go.ChangeAt Go.RowKit Go.Proofs.YthaoiamgkpkcbaaDoor.Pk Go.Proofs.YthaoiamgkpkcbaaDoor.Tg Go.Proofs.YthaoiamgkpkcbaaDoor.Enc Go.Proofs.YthaoiamgkpkcbaaDoor.EncC Go.Proofs.YthaoiamgkpkcbaaDoor.EncP
open Go.Proofs.YthaoiamgkpkcbaaDoor.Hlp Go.Proofs.YthaoiamgkpkcbaaDoor.Wrd Go.Proofs.YthaoiamgkpkcbaaDoor.Lex Go.Proofs.YthaoiamgkpkcbaaDoorW.PrintWords Go.Proofs.YthaoiamgkpkcbaaDoorW.PrintLast Go.Proofs.YthaoiamgkpkcbaaDoorW.PrintMore
set_option linter.unusedVariables false
set_option linter.unusedSimpArgs false
/-- a message's block, and that all else stands -/
structure Cb (w W : World) (M : Nat) (m : Ms) (vE vL vR : Value) : Prop where
  blk : W.heap[M]? = some (.cells (cellsG m vE vL vR) 34 (0, 0))
  up : Kg w W M M
  lt : M < w.heap.size
section
variable {w W W1 : World} {M : Nat} {m m' : Ms} {vE vL vR vE' vL' vR' : Value}
theorem Cb.below (h : Cb w W M m vE vL vR) (hb : Below W.heap.size W W1) : Cb w W1 M m vE vL vR :=
  ⟨(hb.block M (blk_lt h.blk)).trans h.blk, h.up.grown (grown_of_below hb none) (fun q hq => by cases hq), h.lt⟩
theorem Cb.put (h : Cb w W M m vE vL vR) (i : Nat) (u : Value) (hc : (cellsG m vE vL vR).setIfInBounds i u = cellsG m' vE' vL' vR') : Cb w (W.setCell ⟨M, i, none⟩ u) M m' vE' vL' vR' :=
  ⟨by rw [blk_set h.blk, hc], h.up.grown (upd_set W M i u) (fun q hq => by injection hq with hq; exact .inl hq.symm), h.lt⟩
theorem Cb.grow (h : Cb w W M m vE vL vR) {row : Option Nat} (hg : W.grownBy W1 row) (hrow : ∀ q : Nat, row = some q → w.heap.size ≤ q) : Cb w W1 M m vE vL vR :=
  ⟨(hg.block M (blk_lt h.blk) (fun e => by have := hrow M e.symm; have := h.lt; omega)).trans h.blk, h.up.grown hg (fun q hq => .inr (.inr (hrow q hq))), h.lt⟩
theorem Cb.putE (x : E6) {v : Value} (h : Cb w W M m vE vL vR) : Cb w (putX W M x v) M { m with e := x } v vL vR := by
  have h1 := h.put (m' := { m with e := ⟨x.f0, m.e.f1, m.e.f2⟩ }) (vE' := vE) (vL' := vL) (vR' := vR) 7 (.string x.f0) rfl
  have h2 := h1.put (m' := { m with e := ⟨x.f0, ⟨x.f1.f0, m.e.f1.f1, m.e.f1.f2⟩, m.e.f2⟩ }) (vE' := vE) (vL' := vL) (vR' := vR) 8 (.int .i64 x.f1.f0) rfl
  have h3 := h2.put (m' := { m with e := ⟨x.f0, ⟨x.f1.f0, x.f1.f1, m.e.f1.f2⟩, m.e.f2⟩ }) (vE' := vE) (vL' := vL) (vR' := vR) 9 (.int .i64 x.f1.f1) rfl
  have h4 := h3.put (m' := { m with e := ⟨x.f0, x.f1, m.e.f2⟩ }) (vE' := vE) (vL' := vL) (vR' := vR) 10 (.int .i64 x.f1.f2) rfl
  have h5 := h4.put (m' := { m with e := ⟨x.f0, x.f1, ⟨x.f2.f0, m.e.f2.f1⟩⟩ }) (vE' := vE) (vL' := vL) (vR' := vR) 11 (.bool x.f2.f0) rfl
  exact h5.put (m' := { m with e := x }) (vE' := v) (vL' := vL) (vR' := vR) 12 v rfl
theorem Cb.out0 {w0 : World} (h : Cb w W M m vE vL vR) (h0 : Below w0.heap.size w0 w) (hM : w0.heap.size ≤ M) : Below w0.heap.size w0 W :=
  ⟨h.up.os.trans h0.os, h.up.tape.trans h0.tape, h.up.output.trans h0.output, Nat.le_trans h0.size h.up.size, fun k hk => (h.up.block k (Nat.lt_of_lt_of_le hk h0.size) (by omega) (by omega)).trans (h0.block k hk)⟩
end
theorem ownR {α : Type} {d : Kd α} {e : Nat} {W : World} {base : Nat} {ok : Nat → Prop} {v : Value} {xs : List α} (h : d.R e W base ok v xs) : ∀ q : Nat, v.ownBlock = some q → base ≤ q := fun q hq => Kd.R_base h q hq
/-- the same, with the rows that are the call's own by now -/
structure Ck (w W : World) (M : Nat) (m : Ms) (L : List E6) (vE vL vR : Value) : Prop where
  cb : Cb w W M { m with L := L } vE vL vR
  rE : Kd.R (Kd.int .u8) 5 W w.heap.size (fun _ => True) vE m.e.f2.f1
  rL : Kd.R kE 28 W w.heap.size (fun _ => True) vL L
theorem Ck.below {w W W1 : World} {M : Nat} {m : Ms} {L : List E6} {vE vL vR : Value} (h : Ck w W M m L vE vL vR) (hb : Below W.heap.size W W1) : Ck w W1 M m L vE vL vR :=
  ⟨h.cb.below hb, Kd.R_below h.rE hb, Kd.R_below h.rL hb⟩
theorem Ck.putL {w W W1 : World} {M : Nat} {m : Ms} {L L' : List E6} {vE vL vR v1 : Value} (h : Ck w W M m L vE vL vR) (hR : Kd.R kE 28 W1 w.heap.size (fun _ => True) v1 L') (hg : W.grownBy W1 vL.ownBlock) : Ck w (W1.setCell ⟨M, 13, none⟩ v1) M m L' vE v1 vR := by
  have hb := h.cb.grow hg (ownR h.rL)
  have hE := Kd.R_over h.rE h.rL (by
    intro q hq
    rcases List.mem_cons.1 hq with rfl | hq
    · decide
    · cases hq) hg
  exact ⟨hb.put 13 v1 rfl, R_farg hE hb.lt 13 v1, R_farg hR hb.lt 13 v1⟩
end Go.Proofs.YthaoiamgkpkcbaaDoor.Ms
namespace Go.Proofs.YthaoiamgkpkcbaaDoor.Ms
open Go.ChangeShapes Go.WideShapes Go.ChangeAt Go.RowKit Go.Proofs.YthaoiamgkpkcbaaDoor.Pk Go.Proofs.YthaoiamgkpkcbaaDoor.Tg Go.Proofs.YthaoiamgkpkcbaaDoor.Enc Go.Proofs.YthaoiamgkpkcbaaDoor.EncC Go.Proofs.YthaoiamgkpkcbaaDoor.EncP
open Go.Proofs.YthaoiamgkpkcbaaDoor.Hlp Go.Proofs.YthaoiamgkpkcbaaDoor.Wrd Go.Proofs.YthaoiamgkpkcbaaDoor.Lex Go.Proofs.YthaoiamgkpkcbaaDoorW.PrintWords Go.Proofs.YthaoiamgkpkcbaaDoorW.PrintLast Go.Proofs.YthaoiamgkpkcbaaDoorW.PrintMore
set_option linter.unusedVariables false
set_option linter.unusedSimpArgs false
theorem R_setM {α : Type} {d : Kd α} {e : Nat} {W : World} {base M : Nat} {v : Value} {xs : List α} (h : d.R e W base (fun k => k ≠ M) v xs) (i : Nat) (u : Value) : d.R e (W.setCell ⟨M, i, none⟩ u) base (fun k => k ≠ M) v xs := Kd.R_far (p := ⟨M, i, none⟩) h (fun k hk => hk) u
theorem R_newM {α : Type} {d : Kd α} {e : Nat} {W W1 : World} {base M : Nat} {v : Value} {xs : List α} (h : d.R e W1 W.heap.size (fun _ => True) v xs) (hM : M < W.heap.size) (h0 : base ≤ W.heap.size) : d.R e W1 base (fun k => k ≠ M) v xs :=
  Kd.R_lower (Kd.R_mono (Kd.R_bound h) (fun k hk => by have := hk.2.1; omega)) h0
structure Rz (base : Nat) (wb W : World) (M : Nat) (m : Ms) (vE vL vR : Value) : Prop where
  cb : Cb wb W M m vE vL vR
  rE : Kd.R (Kd.int .u8) 5 W base (fun k => k ≠ M) vE m.e.f2.f1
  rL : Kd.R kE 28 W base (fun k => k ≠ M) vL m.L
  rR : Kd.R (Kd.int .i64) 3 W base (fun k => k ≠ M) vR m.R
section
variable {base : Nat} {wb W W1 : World} {M : Nat} {m m' : Ms} {vE vL vR v : Value}
theorem Rz.below (h : Rz base wb W M m vE vL vR) (hb : Below W.heap.size W W1) : Rz base wb W1 M m vE vL vR :=
  ⟨h.cb.below hb, Kd.R_below h.rE hb, Kd.R_below h.rL hb, Kd.R_below h.rR hb⟩
theorem Rz.put (h : Rz base wb W M m vE vL vR) (i : Nat) (u : Value) (hc : (cellsG m vE vL vR).setIfInBounds i u = cellsG m' vE vL vR) (he : m'.e.f2.f1 = m.e.f2.f1) (hL : m'.L = m.L) (hR : m'.R = m.R) : Rz base wb (W.setCell ⟨M, i, none⟩ u) M m' vE vL vR :=
  ⟨h.cb.put i u hc, by rw [he]; exact R_setM h.rE i u, by rw [hL]; exact R_setM h.rL i u, by rw [hR]; exact R_setM h.rR i u⟩
theorem Rz.putE (x : E6) (h : Rz base wb W M m vE vL vR) (hv : Kd.R (Kd.int .u8) 5 W base (fun k => k ≠ M) v x.f2.f1) : Rz base wb (putX W M x v) M { m with e := x } v vL vR :=
  ⟨h.cb.putE x, R_setM (R_setM (R_setM (R_setM (R_setM (R_setM hv 7 (.string x.f0)) 8 (.int .i64 x.f1.f0)) 9 (.int .i64 x.f1.f1)) 10 (.int .i64 x.f1.f2)) 11 (.bool x.f2.f0)) 12 v,
    R_setM (R_setM (R_setM (R_setM (R_setM (R_setM h.rL 7 (.string x.f0)) 8 (.int .i64 x.f1.f0)) 9 (.int .i64 x.f1.f1)) 10 (.int .i64 x.f1.f2)) 11 (.bool x.f2.f0)) 12 v,
    R_setM (R_setM (R_setM (R_setM (R_setM (R_setM h.rR 7 (.string x.f0)) 8 (.int .i64 x.f1.f0)) 9 (.int .i64 x.f1.f1)) 10 (.int .i64 x.f1.f2)) 11 (.bool x.f2.f0)) 12 v⟩
theorem Rz.putL (L : List E6) (h : Rz base wb W M m vE vL vR) (hv : Kd.R kE 28 W base (fun k => k ≠ M) v L) : Rz base wb (W.setCell ⟨M, 13, none⟩ v) M { m with L := L } vE v vR :=
  ⟨h.cb.put 13 v rfl, R_setM h.rE 13 v, R_setM hv 13 v, R_setM h.rR 13 v⟩
theorem Rz.putR (R : List Int) (ea kp : Int) (h : Rz base wb W M m vE vL vR) (hv : Kd.R (Kd.int .i64) 3 W base (fun k => k ≠ M) v R) : Rz base wb (((W.setCell ⟨M, 14, none⟩ v).setCell ⟨M, 15, none⟩ (.int .i64 ea)).setCell ⟨M, 16, none⟩ (.int .i64 kp)) M { m with R := R, each := ea, keep := kp } vE vL v :=
  ⟨((h.cb.put (m' := { m with R := R }) (vE' := vE) (vL' := vL) (vR' := v) 14 v rfl).put (m' := { m with R := R, each := ea }) (vE' := vE) (vL' := vL) (vR' := v) 15 (.int .i64 ea) rfl).put 16 (.int .i64 kp) rfl, R_setM (R_setM (R_setM h.rE 14 v) 15 (.int .i64 ea)) 16 (.int .i64 kp), R_setM (R_setM (R_setM h.rL 14 v) 15 (.int .i64 ea)) 16 (.int .i64 kp), R_setM (R_setM (R_setM hv 14 v) 15 (.int .i64 ea)) 16 (.int .i64 kp)⟩
end
/-! how far it has come -/
structure Rl (l : List Int) (kd : Int) (Q : Ms → Prop) (m : Ms) (t e : Int) (x : Ms × St) : Prop where mk ::
  out : (∃ p : Nat, e = 0 ∧ t = (p : Int) ∧ p ≤ l.length ∧ m.kind = kd ∧ Q m ∧ x = (m, ⟨l.drop p, 0⟩)) ∨ (e ≠ 0 ∧ x.2.e = e)
def Q0 (m : Ms) : Prop := m.L = [] ∧ m.R = []
def Q1 (m : Ms) : Prop := m.R = []
def Q2 (_ : Ms) : Prop := True
section
variable {l : List Int} {kd : Int} {Q Q' : Ms → Prop} {m : Ms} {t e : Int} {x : Ms × St}
theorem Rl.bad (h : Rl l kd Q m t e x) (he : e ≠ 0) {G : Ms × St → Ms × St} (hd : Dead G) : Rl l kd Q' m t e (G x) := ⟨.inr ⟨he, by
  rcases h.out with ⟨p, h0, _⟩ | ⟨_, h1⟩
  · exact absurd h0 he
  · exact (hd x (by rw [h1]; exact he)).trans h1⟩⟩
theorem Rl.good (h : Rl l kd Q m t 0 x) : ∃ p : Nat, t = (p : Int) ∧ p ≤ l.length ∧ m.kind = kd ∧ Q m ∧ x = (m, ⟨l.drop p, 0⟩) := by
  rcases h.out with ⟨p, _, h⟩ | ⟨h, _⟩
  · exact ⟨p, h⟩
  · exact absurd rfl h
variable (hb : ∀ x ∈ l, 0 ≤ x ∧ x < 256) (hl : l.length ≤ 140737488351232)
include hb
theorem rl_n {p : Nat} {n t' e' : Int} {b : Hs} (hn : b.n = true) (hk : m.kind = kd) (hQ : Q0 m) (hq : getNumP l p 1099511627775 = (n, t', e')) : Rl l kd Q0 { m with n := n } t' e' (gn b (m, ⟨l.drop p, 0⟩)) := by
  have hg : gn b (m, ⟨l.drop p, 0⟩) = ({ m with n := (belowS 1099511627776 ⟨l.drop p, 0⟩).1 }, (belowS 1099511627776 ⟨l.drop p, 0⟩).2) := by unfold gn; rw [if_pos hn]
  rw [hg]
  by_cases he : e' = 0
  · subst he
    obtain ⟨j, rfl, hj, _⟩ := getNumP_ok hq hb
    rw [show belowS 1099511627776 ⟨l.drop p, 0⟩ = (n, ⟨l.drop j, 0⟩) from num_ok hb hq]
    exact ⟨.inl ⟨j, rfl, rfl, hj, hk, hQ, rfl⟩⟩
  · rw [show belowS 1099511627776 ⟨l.drop p, 0⟩ = (0, ⟨l.drop p, e'⟩) from num_bad hb hq he]
    exact ⟨.inr ⟨he, rfl⟩⟩
theorem rl_f {p : Nat} (hp : p ≤ l.length) {n : Bool} {t' e' : Int} {b : Hs} (hn : b.f = true) (hk : m.kind = kd) (hQ : Q0 m) (hq : getTruthP l p = (n, t', e')) : Rl l kd Q0 { m with f := n } t' e' (gf b (m, ⟨l.drop p, 0⟩)) := by
  have _h := hb
  have hg : gf b (m, ⟨l.drop p, 0⟩) = ({ m with f := (truthS ⟨l.drop p, 0⟩).1 }, (truthS ⟨l.drop p, 0⟩).2) := by unfold gf; rw [if_pos hn]
  rw [hg]
  by_cases he : e' = 0
  · subst he
    obtain ⟨j, rfl, hj⟩ := getTruthP_ok hq hp
    rw [truth_ok hq]
    exact ⟨.inl ⟨j, rfl, rfl, hj, hk, hQ, rfl⟩⟩
  · rw [truth_bad hq he]
    exact ⟨.inr ⟨he, rfl⟩⟩
theorem rl_e {p : Nat} (hp : p ≤ l.length) {b : Hs} (hn : b.e = true) (hk : m.kind = kd) (hQ : Q0 m) : Rl l kd Q0 { m with e := toE (rgetS l p).1 } (rgetS l p).2.1 (rgetS l p).2.2 (ge b (m, ⟨l.drop p, 0⟩)) := by
  have hg : ge b (m, ⟨l.drop p, 0⟩) = ({ m with e := toE (getS ⟨l.drop p, 0⟩).1 }, (getS ⟨l.drop p, 0⟩).2) := by unfold ge; rw [if_pos hn]
  rw [hg]
  rcases rget_eq hb hp with ⟨en, j, h1, hj, h2⟩ | ⟨e, s, he, h1, h2, h3⟩
  · rw [h1, h2]
    exact ⟨.inl ⟨j, rfl, rfl, hj, hk, hQ, rfl⟩⟩
  · rw [h1, h3]
    exact ⟨.inr ⟨he, h2⟩⟩
include hl
theorem rl_l {p : Nat} (hp : p ≤ l.length) {b : Hs} (hn : b.l = true) (hk : m.kind = kd) (hQ : Q0 m) : ∃ (L : List E6) (t' e' : Int), Since (fun k => QD.icehouseref12_list.f k l (p : Int)) (L, t', e') ∧ Rl l kd Q1 { m with L := L } t' e' (gl b (m, ⟨l.drop p, 0⟩)) := by
  have hg : gl b (m, ⟨l.drop p, 0⟩) = iter lstep (belowS 1001 ⟨l.drop p, 0⟩).1.toNat (m, (belowS 1001 ⟨l.drop p, 0⟩).2) := by unfold gl; rw [if_pos hn]
  rw [hg]
  rcases list_ev hb hl m hQ.1 p hp with ⟨L, j, hj, h1, h2⟩ | ⟨e, he, h1, h2⟩
  · exact ⟨L, _, _, h2, ⟨.inl ⟨j, rfl, rfl, hj, hk, hQ.2, h1⟩⟩⟩
  · exact ⟨[], _, _, h2, ⟨.inr ⟨he, h1⟩⟩⟩
theorem rl_r {p : Nat} (hp : p ≤ l.length) {b : Hs} (hn : b.r = true) (hk : m.kind = kd) (hQ : Q1 m) : ∃ (R : List Int) (ea kp t' e' : Int), Since (fun k => QD.icehouseref12_ring.f k l (p : Int)) (R, ea, kp, t', e') ∧ Rl l kd Q2 { m with R := R, each := ea, keep := kp } t' e' (gr b (m, ⟨l.drop p, 0⟩)) := by
  have hg : gr b (m, ⟨l.drop p, 0⟩) = iter rstep (belowS 65 (gk (m, (⟨l.drop p, 0⟩ : St))).2).1.toNat ((gk (m, (⟨l.drop p, 0⟩ : St))).1, (belowS 65 (gk (m, (⟨l.drop p, 0⟩ : St))).2).2) := by unfold gr; rw [if_pos hn]
  rw [hg]
  rcases ring_rd_ev hb hl m hQ p hp with ⟨R, ea, kp, j, hj, h1, h2⟩ | ⟨R, ea, kp, t, e, he, h1, h2⟩
  · exact ⟨R, ea, kp, _, _, h2, ⟨.inl ⟨j, rfl, rfl, hj, hk, trivial, h1⟩⟩⟩
  · exact ⟨R, ea, kp, _, _, h2, ⟨.inr ⟨he, h1⟩⟩⟩
end
theorem gn_no {b : Hs} (h : b.n = false) (x : Ms × St) : gn b x = x := by unfold gn; rw [if_neg (by rw [h]; decide)]
theorem gf_no {b : Hs} (h : b.f = false) (x : Ms × St) : gf b x = x := by unfold gf; rw [if_neg (by rw [h]; decide)]
theorem ge_no {b : Hs} (h : b.e = false) (x : Ms × St) : ge b x = x := by unfold ge; rw [if_neg (by rw [h]; decide)]
theorem gl_no {b : Hs} (h : b.l = false) (x : Ms × St) : gl b x = x := by unfold gl; rw [if_neg (by rw [h]; decide)]
theorem gr_no {b : Hs} (h : b.r = false) (x : Ms × St) : gr b x = x := by unfold gr; rw [if_neg (by rw [h]; decide)]
end Go.Proofs.YthaoiamgkpkcbaaDoor.Ms
