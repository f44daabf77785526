/- The reference's Get and Nums, by what the reader's peek tells. Conditions: bytes that fit in memory. -/
import Derived.Test.YtfhgclojfjiblaaZPackBack10
import Derived.Test.YtfhgclojfjiblaaZPackBack13
namespace Go.Proofs.Ytfhgclojfjiblaa.Pk
open Go.ChangeShapes Go.WideShapes Go.ChangeAt Go.RowKit Go.Proofs.Ytfhgclojfjiblaa.Lex
open Go.Proofs.Ytfhgclojfjiblaa.Hlp Go.Proofs.Ytfhgclojfjiblaa.Wrd Go.Proofs.YtfhgclojfjiblaaW.PrintWords Go.Proofs.YtfhgclojfjiblaaW.PrintLast Go.Proofs.YtfhgclojfjiblaaW.PrintMore
set_option linter.unusedVariables false
set_option linter.unusedSimpArgs false
theorem rd_nat {l : List Int} {q : Nat} (h : q < l.length) : rd l (q : Int) = l[q] := by simp [rd, h]
theorem rd_drop {l r : List Int} {k : Int} {p i : Nat} (h : l.drop p = k :: r) (hi : i < r.length) : rd l ((p + 1 + i : Nat) : Int) = r[i] := by
  have h2 : l.drop (p + 1) = r := by
    rw [← List.drop_drop, h]; rfl
  have hl : p + 1 + i < l.length := by
    have := congrArg List.length h2
    rw [List.length_drop] at this; omega
  have e : r[i] = l[p + 1 + i] := by
    simp only [← h2, List.getElem_drop]
  rw [e]
  exact rd_nat hl
theorem rd_here {l r : List Int} {k : Int} {p : Nat} (h : l.drop p = k :: r) : rd l (p : Int) = k := by
  have hl : p < l.length := by
    have := congrArg List.length h
    rw [List.length_drop] at this; simp at this; omega
  have e : l.drop p = l[p] :: l.drop (p + 1) := List.drop_eq_getElem_cons hl
  rw [h] at e
  injection e with e1 _
  rw [e1]
  exact rd_nat hl
theorem drop_len {l r : List Int} {k : Int} {p : Nat} (h : l.drop p = k :: r) : l.length = p + 1 + r.length := by
  have := congrArg List.length h
  rw [List.length_drop] at this; simp at this; omega
theorem u64_in {x : Int} (h0 : 0 ≤ x) (h1 : x < 18446744073709551616) : IntKind.u64.wrap x = x := by
  simp [IntKind.wrap, IntKind.bits, IntKind.signed]
  omega
theorem word_take {r : List Int} {i : Nat} (hb : ∀ x ∈ r, 0 ≤ x ∧ x < 256) (hi : i ≤ 7) : 0 ≤ wordOf (r.take i) ∧ wordOf (r.take i) < 72057594037927936 := by
  have hU := wordOf_bd (r.take i) (fun x hx => hb x (List.mem_of_mem_take hx))
  have hp : (256 : Int) ^ (r.take i).length ≤ 256 ^ 7 := by
    have := Nat.pow_le_pow_right (n := 256) (by decide) (show (r.take i).length ≤ 7 by rw [List.length_take]; omega)
    have e : ((256 ^ (r.take i).length : Nat) : Int) ≤ ((256 ^ 7 : Nat) : Int) := Int.ofNat_le.2 this
    simpa using e
  exact ⟨hU.1, by have := hU.2; omega⟩
theorem rget_l0 {l r : List Int} {p K : Nat} (h : l.drop p = (K : Int) :: r) (hK : K ≤ 8) (hr : K ≤ r.length) (hl : l.length ≤ 140737488351232) (hb : ∀ x ∈ l, 0 ≤ x ∧ x < 256) :
    ∀ (d i : Nat), K - i = d → i ≤ K → Since (fun f => QR.icehouseref02_Get.l0 f l (p : Int) (K : Int) (wordOf (r.take i)) (i : Int)) (if 0 < (K : Int) ∧ r.getD 0 0 = 0 then (0, (p : Int), 11) else (wrap64 (wordOf (r.take K)), (p : Int) + (1 + (K : Int)), 0)) := by
  have hlen := drop_len h
  have W1 : Hid (wrap64 ((p : Int) + 1) = ((p + 1 : Nat) : Int)) := Lib.hid (by unfold wrap64; omega)
  have hbr : ∀ x ∈ r, 0 ≤ x ∧ x < 256 := fun x hx => hb x (by
    have : x ∈ l.drop p := by rw [h]; exact List.mem_cons_of_mem _ hx
    exact List.mem_of_mem_drop this)
  intro d
  induction d with
  | zero =>
    intro i hd hi
    obtain rfl : i = K := by omega
    refine Since.none fun f => ?_
    simp only [QR.icehouseref02_Get.l0]
    rw [if_neg (Int.lt_irrefl _)]
    have W2 : Hid (wrap64 (((p + 1 : Nat) : Int) + (i : Int)) = (p : Int) + (1 + (i : Int))) := Lib.hid (by unfold wrap64; omega)
    have i1 : 0 ≤ ((p + 1 : Nat) : Int) := by omega
    have i2 : (i : Int) > 0 → ((p + 1 : Nat) : Int) < (l.length : Int) := by omega
    by_cases h0 : (i : Int) > 0
    · have hr0 : 0 < r.length := by omega
      have e0 := rd_drop h hr0
      rw [Nat.add_zero] at e0
      have g0 : r.getD 0 0 = r[0] := by simp [List.getD, hr0]
      rw [if_pos h0, W1.out, W2.out, if_pos i1, if_pos (i2 h0), e0, g0]
      by_cases hz : r[0] = 0
      · rw [if_pos hz, if_pos ⟨by omega, hz⟩]
      · rw [if_neg hz, if_neg (by rintro ⟨_, h⟩; exact hz h)]
    · rw [if_neg h0, W1.out, W2.out, if_neg (by rintro ⟨h, _⟩; omega)]
  | succ d ih =>
    intro i hd hi
    have hi1 : i < K := by omega
    have hir : i < r.length := by omega
    have e0 := rd_drop h hir
    have i1 : (i : Int) < (K : Int) := by omega
    have i2 : 0 ≤ ((p + 1 + i : Nat) : Int) := by omega
    have i3 : ((p + 1 + i : Nat) : Int) < (l.length : Int) := by omega
    have i7 : i ≤ 7 := by omega
    have W2 : Hid (wrap64 (((p + 1 : Nat) : Int) + (i : Int)) = ((p + 1 + i : Nat) : Int)) := Lib.hid (by unfold wrap64; omega)
    have W3 : Hid (wrap64 ((i : Int) + 1) = ((i + 1 : Nat) : Int)) := Lib.hid (by unfold wrap64; omega)
    obtain ⟨hx0, hx1⟩ := hbr r[i] (List.getElem_mem hir)
    obtain ⟨hU0, hU1⟩ := word_take hbr i7
    have w4 : IntKind.u64.wrap (IntKind.u64.wrap (wordOf (r.take i) * 256) + IntKind.u64.wrap r[i]) = wordOf (r.take (i + 1)) := by
      rw [List.take_succ_eq_append_getElem hir, wordOf_snoc]
      generalize wordOf (r.take i) = u at *
      generalize r[i] = x at *
      rw [u64_in (x := u * 256) (by omega) (by omega), u64_in (x := x) (by omega) (by omega), u64_in (by omega) (by omega)]
    refine Since.one (ih (i + 1) (by omega) (by omega)) fun f hf => ?_
    simp only [QR.icehouseref02_Get.l0]
    rw [if_pos i1, W1.out, W2.out, if_pos i2, if_pos i3, e0, w4, W3.out]
    exact hf
/-- a number at a place -/
def getP (l : List Int) (p : Nat) : Int × Int × Int := if (peekP (l.drop p)).2.2 = 0 then ((peekP (l.drop p)).1, (p : Int) + (peekP (l.drop p)).2.1, 0) else (0, (p : Int), (peekP (l.drop p)).2.2)
theorem rget_ev (l : List Int) (p : Nat) (hp : p ≤ l.length) (hl : l.length ≤ 140737488351232) (hb : ∀ x ∈ l, 0 ≤ x ∧ x < 256) : Since (fun f => QR.icehouseref02_Get.f f l (p : Int)) (getP l p) := by
  cases hs : l.drop p with
  | nil =>
    have hlen : p = l.length := by
      have := congrArg List.length hs
      rw [List.length_drop] at this; simp at this; omega
    refine ⟨0, fun f _ => ?_⟩
    show QR.icehouseref02_Get.f f l (p : Int) = some (getP l p)
    unfold QR.icehouseref02_Get.f getP
    rw [if_pos (by omega), hs]
    rfl
  | cons k r =>
    have hlen := drop_len hs
    have hk := hb k (by
      have : k ∈ l.drop p := by rw [hs]; exact List.mem_cons_self
      exact List.mem_of_mem_drop this)
    obtain ⟨K, rfl⟩ := Int.eq_ofNat_of_zero_le hk.1
    have e0 := rd_here hs
    have i1 : ¬ ((p : Int) ≥ (l.length : Int)) := by omega
    have i2 : 0 ≤ (p : Int) := by omega
    have i3 : (p : Int) < (l.length : Int) := by omega
    have i4 : (r.length : Int) < (K : Int) → ((p + 1 + K : Nat) : Int) > (l.length : Int) := by omega
    have i5 : ¬ ((r.length : Int) < (K : Int)) → ¬ (((p + 1 + K : Nat) : Int) > (l.length : Int)) := by omega
    have Wk : Hid (wrap64 (K : Int) = (K : Int)) := Lib.hid (by unfold wrap64; omega)
    have W1 : Hid (wrap64 (wrap64 ((p : Int) + 1) + (K : Int)) = ((p + 1 + K : Nat) : Int)) := Lib.hid (by unfold wrap64; omega)
    by_cases h8 : 8 < (K : Int)
    · refine ⟨0, fun f _ => ?_⟩
      show QR.icehouseref02_Get.f f l (p : Int) = some (getP l p)
      unfold QR.icehouseref02_Get.f getP
      rw [if_neg i1, if_pos i2, if_pos i3, e0, Wk.out, if_pos h8, hs, peekP_cons, if_pos h8]
      rfl
    · by_cases hsh : (r.length : Int) < (K : Int)
      · refine ⟨0, fun f _ => ?_⟩
        show QR.icehouseref02_Get.f f l (p : Int) = some (getP l p)
        unfold QR.icehouseref02_Get.f getP
        rw [if_neg i1, if_pos i2, if_pos i3, e0, Wk.out, if_neg h8, W1.out, if_pos (i4 hsh), hs, peekP_cons, if_neg h8, if_pos hsh]
        rfl
      · have hq := rget_l0 hs (by omega) (by omega) hl hb K 0 rfl (Nat.zero_le _)
        refine hq.map fun f hf => ?_
        unfold QR.icehouseref02_Get.f getP
        rw [if_neg i1, if_pos i2, if_pos i3, e0, Wk.out, if_neg h8, W1.out, if_neg (i5 hsh)]
        rw [List.take_zero] at hf
        refine Eq.trans hf ?_
        rw [hs, peekP_cons, if_neg h8, if_neg hsh]
        by_cases hz : 0 < (K : Int) ∧ r.getD 0 0 = 0
        · rw [if_pos hz, if_pos hz]; rfl
        · rw [if_neg hz, if_neg hz, if_pos rfl, Int.toNat_natCast]

theorem getP_ok {l : List Int} {p : Nat} {n k : Int} (h : peekP (l.drop p) = (n, k, 0)) : getP l p = (n, (p : Int) + k, 0) := by simp [getP, h]
theorem getP_bad {l : List Int} {p : Nat} {n k e : Int} (h : peekP (l.drop p) = (n, k, e)) (he : e ≠ 0) : getP l p = (0, (p : Int), e) := by simp [getP, h, he]
theorem drop_bytes {l : List Int} (hb : ∀ x ∈ l, 0 ≤ x ∧ x < 256) (p : Nat) : ∀ x ∈ l.drop p, 0 ≤ x ∧ x < 256 := fun x hx => hb x (List.mem_of_mem_drop hx)
theorem drop_ne {l : List Int} {p : Nat} (h : p < l.length) : l.drop p ≠ [] := by
  intro h0
  have := congrArg List.length h0
  rw [List.length_drop] at this; simp at this; omega
def numsR (out l : List Int) : List Int × Int := if (numsS l).2 = 0 then (out ++ (numsS l).1, 0) else ([], (numsS l).2)
theorem numsR_nil (out : List Int) : numsR out [] = (out, 0) := by simp [numsR, numsS_nil]
theorem numsR_ok {l : List Int} {n k : Int} (h0 : l ≠ []) (hp : peekP l = (n, k, 0)) (hk : 1 ≤ k) (out : List Int) : numsR out l = numsR (out ++ [n]) (l.drop k.toNat) := by
  unfold numsR; rw [numsS_ok h0 hp hk]; simp
theorem numsR_bad {l : List Int} {n k e : Int} (h0 : l ≠ []) (hp : peekP l = (n, k, e)) (he : e ≠ 0) (out : List Int) : numsR out l = ([], e) := by
  unfold numsR; rw [numsS_bad h0 hp he]; simp [he]
theorem rnums_l0 {l : List Int} (hl : l.length ≤ 17592186044415) (hb : ∀ x ∈ l, 0 ≤ x ∧ x < 256) :
    ∀ (d p : Nat) (out : List Int), l.length - p = d → p ≤ l.length → out.length ≤ p → Since (fun f => QR.icehouseref02_Nums.l0 f l out (p : Int)) (numsR out (l.drop p)) := by
  intro d
  induction d using Nat.strongRecOn with
  | ind d ih =>
    intro p out hd hp ho
    by_cases h1 : p < l.length
    · obtain ⟨n, k, e, hpk⟩ : ∃ n k e, peekP (l.drop p) = (n, k, e) := ⟨_, _, _, rfl⟩
      have hg := rget_ev l p hp (by omega) hb
      have i1 : (p : Int) < (l.length : Int) := by omega
      have i2 : out.length < 17592186044416 := by omega
      by_cases he : e = 0
      · subst he
        obtain ⟨hk1, hk9, hkl⟩ := peekP_ok hpk (drop_bytes hb p)
        rw [List.length_drop] at hkl
        obtain ⟨K, rfl⟩ := Int.eq_ofNat_of_zero_le (show 0 ≤ k by omega)
        have hi := ih (l.length - (p + K)) (by omega) (p + K) (out ++ [n]) rfl (by omega) (by simp; omega)
        rw [numsR_ok (drop_ne h1) hpk hk1, Int.toNat_natCast, List.drop_drop]
        refine Since.two hg hi fun f hf hf2 => ?_
        rw [getP_ok hpk] at hf
        have hf : QR.icehouseref02_Get.f f l (p : Int) = some (n, (p : Int) + (K : Int), 0) := hf
        have hf2 : QR.icehouseref02_Nums.l0 f l (out ++ [n]) ((p + K : Nat) : Int) = _ := hf2
        show QR.icehouseref02_Nums.l0 (f + 1) l out (p : Int) = _
        rw [Int.natCast_add] at hf2
        rw [QR.icehouseref02_Nums.l0, if_pos i1, hf, Option.bind_some, if_pos rfl, if_pos i2]
        exact hf2
      · rw [numsR_bad (drop_ne h1) hpk he]
        refine Since.one hg fun f hf => ?_
        rw [getP_bad hpk he] at hf
        have hf : QR.icehouseref02_Get.f f l (p : Int) = some (0, (p : Int), e) := hf
        show QR.icehouseref02_Nums.l0 (f + 1) l out (p : Int) = _
        rw [QR.icehouseref02_Nums.l0, if_pos i1, hf, Option.bind_some, if_neg he]
    · obtain rfl : p = l.length := by omega
      rw [List.drop_length, numsR_nil]
      refine Since.none fun f => ?_
      rw [QR.icehouseref02_Nums.l0, if_neg (by omega)]
theorem rnums_ev {l : List Int} (hl : l.length ≤ 17592186044415) (hb : ∀ x ∈ l, 0 ≤ x ∧ x < 256) : Since (fun f => QR.icehouseref02_Nums.f f l) (numsR [] l) := by
  have := rnums_l0 hl hb _ 0 [] rfl (Nat.zero_le _) (Nat.le_refl _)
  simpa [QR.icehouseref02_Nums.f] using this
end Go.Proofs.Ytfhgclojfjiblaa.Pk
