/- The law PackBack returns true: numbers, and rows, are read as they were. Conditions: those of the row alone. -/
import Derived.Test.YtfhgclojfjiblaaZPackBack26
import Derived.Test.YtfhgclojfjiblaaZPackBack29
import Derived.Test.YtfhgclojfjiblaaZPackBack13
namespace Go.Proofs.Ytfhgclojfjiblaa.Bk
open Go Go.RowKit Go.ChangeShapes Go.WideShapes Go.ChangeAt Go.Proofs.Ytfhgclojfjiblaa.Wrd Go.Proofs.Ytfhgclojfjiblaa.Enc Go.Proofs.Ytfhgclojfjiblaa.EncP Go.Proofs.Ytfhgclojfjiblaa.Dec Go.Proofs.Ytfhgclojfjiblaa.Pk Go.Proofs.Ytfhgclojfjiblaa.Seg Go.Proofs.Ytfhgclojfjiblaa.QB Go.Proofs.Ytfhgclojfjiblaa.Lex
open Go.Proofs.YtfhgclojfjiblaaW.PrintWords Go.Proofs.YtfhgclojfjiblaaW.PrintLast Go.Proofs.YtfhgclojfjiblaaW.PrintMore
set_option linter.unusedVariables false
set_option linter.unusedSimpArgs false
theorem w_suc (i : Nat) (h : i < 9223372036854775807) : wrap64 ((i : Int) + 1) = ((i + 1 : Nat) : Int) := by unfold wrap64; omega
theorem rd_at {l : List Int} {i : Nat} (h : i < l.length) : rd l (i : Int) = l[i] := by simp [rd, h]
theorem rdL_at {l : List (List Int)} {i : Nat} (h : i < l.length) : QB.rd_L1 l (i : Int) = l[i] := by simp [QB.rd_L1, h]
theorem qsame (l : List Int) : QR.icehouseref00_Same.f l l = some true := by unfold QR.icehouseref00_Same.f; simp
theorem cat_take {z : List Int} {i : Nat} (h : i < z.length) : cat (z.take (i + 1)) = cat (z.take i) ++ numB z[i] := by rw [List.take_succ_eq_append_getElem h, cat_snoc]
theorem catR_take {z : List (List Int)} {i : Nat} (h : i < z.length) : catR (z.take (i + 1)) = catR (z.take i) ++ rowB z[i] := by rw [List.take_succ_eq_append_getElem h, catR_snoc]
theorem cat_take_len (z : List Int) (i : Nat) : (cat (z.take i)).length ≤ 9 * z.length := by
  have := cat_len (z.take i); have := List.length_take_le i z; have := List.length_take_le' i z; omega
theorem l2_ev (x2 z : List Int) (g : Int) (hg : g = 0 → cat z = x2) (hz : z.length ≤ 1000) : ∀ (d i : Nat), z.length - i = d → i ≤ z.length → Since (fun k => icehouselaw02_PackBack.l2 k x2 z g (cat (z.take i)) (i : Int)) true := by
  intro d
  induction d with
  | zero =>
    intro i hd hi
    obtain rfl : i = z.length := by omega
    refine Since.none fun k => ?_
    simp only [icehouselaw02_PackBack.l2]
    rw [if_neg (Int.lt_irrefl _), List.take_length]
    by_cases h0 : g = 0
    · rw [if_pos h0, hg h0, qsame]; rfl
    · rw [if_neg h0]; rfl
  | succ d ih =>
    intro i hd hi
    have h1 : i < z.length := by omega
    have hb := cat_take_len z i
    have hn := numB_len z[i]
    refine Since.one (ih (i + 1) (by omega) (by omega)) fun k hk => ?_
    simp only [icehouselaw02_PackBack.l2]
    rw [if_pos (by omega), if_pos (by omega), rd_at h1, w_suc i (by omega)]
    unfold Fp.pack_Num.f
    rw [Option.bind_some, if_pos (by omega), ← cat_take h1]
    exact hk
theorem okRow_of {l : List Int} (h : Byte l) (hl : l.length ≤ 100000) : Fp.okRow l := ⟨h, by omega⟩
theorem okRow_nums {l : List Int} (h : Fp.okRow l) : Fp.pack_Nums.f l = some (if (numsS l).2 = 0 then ((numsS l).1, 0) else ([], (numsS l).2)) := by
  rw [Fp.pack_Nums.is h]; unfold numsR; rw [List.nil_append]
theorem j4_ev (x2 : List Int) (h : Byte x2) (hl : x2.length ≤ 500) : Since (fun k => icehouselaw02_PackBack.j4 k x2) true := by
  by_cases h0 : (numsS x2).2 = 0
  · obtain ⟨b1, b2, _⟩ := nums_back _ x2 (Nat.le_refl _) h h0
    refine Since.one (l2_ev x2 (numsS x2).1 0 (fun _ => b1) (by omega) _ 0 rfl (Nat.zero_le _)) fun k hk => ?_
    simp only [icehouselaw02_PackBack.j4]
    rw [okRow_nums (okRow_of h (by omega)), if_pos h0, Option.bind_some]
    exact hk
  · refine Since.one (l2_ev x2 [] (numsS x2).2 (fun e => absurd e h0) (by simp) _ 0 rfl (Nat.zero_le _)) fun k hk => ?_
    simp only [icehouselaw02_PackBack.j4]
    rw [okRow_nums (okRow_of h (by omega)), if_neg h0, Option.bind_some]
    exact hk
theorem j3_ev (x0 x2 : List Int) (x3 : Int) (h0 : ∀ x ∈ x0, I64 x) (hl0 : x0.length ≤ 100) (h : Byte x2) (hl : x2.length ≤ 500) (h3 : 0 ≤ x3 ∧ x3 < 65536) :
    Since (fun k => icehouselaw02_PackBack.j3 k x0 x2 x3 (cat x0) false) true := by
  refine Since.one (j4_ev x2 h hl) fun k hk => ?_
  simp only [icehouselaw02_PackBack.j3]
  rw [if_neg (by decide)]
  have hc := cat_len x0
  by_cases hp : ((cat x0).length : Int) > 0
  · have hw : wrap64 x3 = x3 := by unfold wrap64; omega
    rw [if_pos hp, if_neg (by omega), hw, Int.tmod_eq_emod_of_nonneg h3.1]
    have q0 := Int.emod_nonneg x3 (show ((cat x0).length : Int) ≠ 0 by omega)
    have q1 := Int.emod_lt_of_pos x3 hp
    obtain ⟨q, hq⟩ := Int.eq_ofNat_of_zero_le q0
    rw [hq] at q1 ⊢
    rw [if_pos (by omega), if_pos (by omega), Int.toNat_natCast, okRow_nums (okRow_of ((cat_byte x0).take q) (by rw [List.length_take]; omega)), Option.bind_some]
    rcases nums_cut x0 h0 q (by omega) with hn | ⟨hn, hlt⟩
    · rw [hn, if_neg (show ¬ ((12 : Int) = 0) by decide), if_pos rfl]
      exact hk
    · rw [hn, if_pos rfl]
      show (if (0 : Int) = 12 then _ else _) = some true
      rw [if_neg (by decide), if_pos rfl, if_neg (show ¬ (((numsS (List.take q (cat x0))).1.length : Int) ≥ (x0.length : Int)) by omega)]
      exact hk
  · rw [if_neg hp]; exact hk
theorem ints_ev (l : List Int) (hl : l.length ≤ 9223372036854775807) : Since (fun k => QR.icehouseref00_SameInts.f k l l) true := by
  obtain ⟨k, hk⟩ := same_l0 l hl _ 0 rfl (Nat.zero_le _)
  refine ⟨k, fun m hm => ?_⟩
  have e : QR.icehouseref00_SameInts.f k l l = some true := by unfold QR.icehouseref00_SameInts.f; rw [if_pos rfl]; exact hk
  exact at_rounds (g := fun k => QR.icehouseref00_SameInts.f k l l) (fun k => QR.icehouseref00_SameInts.mono l l k) hm e
theorem lists_ev (l : List (List Int)) (hl : l.length ≤ 9223372036854775807) : Since (fun k => QR.icehouseref00_SameLists.f k l l) true := by
  obtain ⟨k, hk⟩ := lists_l0 l hl _ 0 rfl (Nat.zero_le _)
  refine ⟨k, fun m hm => ?_⟩
  have e : QR.icehouseref00_SameLists.f k l l = some true := by unfold QR.icehouseref00_SameLists.f; rw [if_pos rfl]; exact hk
  exact at_rounds (g := fun k => QR.icehouseref00_SameLists.f k l l) (fun k => QR.icehouseref00_SameLists.mono l l k) hm e
section
variable (x0 : List Int) (x1 : List (List Int)) (x2 : List Int) (x3 : Int) (h0 : ∀ x ∈ x0, I64 x) (hl0 : x0.length ≤ 100) (h1 : ∀ x ∈ x1, Byte x) (hl1 : x1.length ≤ 20) (h2 : Byte x2) (hl2 : x2.length ≤ 500) (h3 : 0 ≤ x3 ∧ x3 < 65536)
include h0 hl0 h1 hl1 h2 hl2 h3
theorem l1_ev : ∀ (d i : Nat), x1.length - i = d → i ≤ x1.length → (∀ x ∈ x1.take i, x.length ≤ 500) → Since (fun k => icehouselaw02_PackBack.l1 k x0 x1 x2 x3 (cat x0) (catR (x1.take i)) (i : Int)) true := by
  intro d
  induction d with
  | zero =>
    intro i hd hi hs
    obtain rfl : i = x1.length := by omega
    rw [List.take_length] at hs ⊢
    have hc := cat_len x0
    have hcr := catR_len x1 hs
    have e1 := okRow_nums (okRow_of (cat_byte x0) (by omega))
    rw [nums_cat x0 h0] at e1
    have e2 := Fp.pack_Rows.is (okRow_of (catR_byte x1 h1) (by omega))
    rw [rowsR_cat (fun x hx => Nat.le_trans (hs x hx) (by decide))] at e2
    have hI := ints_ev x0 (by omega)
    have hL := lists_ev x1 (by omega)
    have hJ := j3_ev x0 x2 x3 h0 hl0 h2 hl2 h3
    refine Since.one (f := fun k => (QR.icehouseref00_SameInts.f k x0 x0).bind fun a => (QR.icehouseref00_SameLists.f k x1 x1).bind fun b => if a = true ∧ b = true then icehouselaw02_PackBack.j3 k x0 x2 x3 (cat x0) false else none) (r := true) (Since.and (Since.and hI hL (F := fun k => (QR.icehouseref00_SameInts.f k x0 x0).bind fun a => (QR.icehouseref00_SameLists.f k x1 x1).bind fun b => some (a && b)) (q := true) (fun k a b => by rw [a, b]; rfl)) hJ (fun k a b => ?_)) fun k hk => ?_
    · simp only [Option.bind_eq_some_iff] at a
      obtain ⟨u, hu, v, hv, huv⟩ := a
      injection huv with huv
      rw [hu, hv, Option.bind_some, Option.bind_some, if_pos (by simpa using huv)]; exact b
    · simp only [Option.bind_eq_some_iff] at hk
      obtain ⟨u, hu, v, hv, huv⟩ := hk
      split at huv
      · rename_i hb
        obtain ⟨rfl, rfl⟩ := hb
        simp only [icehouselaw02_PackBack.l1]
        rw [if_neg (Int.lt_irrefl _), e1, Option.bind_some, e2, Option.bind_some]
        simp only [if_true]
        rw [hu, Option.bind_some, if_pos rfl, hv, Option.bind_some]
        exact huv
      · cases huv
  | succ d ih =>
    intro i hd hi hs
    have hlt : i < x1.length := by omega
    have hmem := List.getElem_mem hlt
    have hcr := catR_len (x1.take i) hs
    have hti := List.length_take_le i x1
    by_cases hg : ((x1[i]).length : Int) > 500
    · refine Since.none fun k => ?_
      simp only [icehouselaw02_PackBack.l1]
      rw [if_pos (by omega), if_pos (by omega), rdL_at hlt, if_pos hg]
      rfl
    · have hr : (rowB x1[i]).length ≤ 509 := by rw [rowB_length]; have := numB_len ((x1[i]).length : Int); omega
      refine Since.one (ih (i + 1) (by omega) (by omega) (by
        intro x hx
        rw [List.take_succ_eq_append_getElem hlt] at hx
        rcases List.mem_append.1 hx with hx | hx
        · exact hs x hx
        · simp at hx; subst hx; omega)) fun k hk => ?_
      simp only [icehouselaw02_PackBack.l1]
      rw [if_pos (by omega), if_pos (by omega), rdL_at hlt, if_neg hg, w_suc i (by omega)]
      unfold Fp.pack_Row.f
      rw [if_pos (by omega), Option.bind_some]
      simp only [if_true]
      rw [if_pos (by omega), ← catR_take hlt]
      exact hk
theorem l0_ev : ∀ (d i : Nat), x0.length - i = d → i ≤ x0.length → Since (fun k => icehouselaw02_PackBack.l0 k x0 x1 x2 x3 (cat (x0.take i)) (i : Int)) true := by
  intro d
  induction d with
  | zero =>
    intro i hd hi
    obtain rfl : i = x0.length := by omega
    rw [List.take_length]
    refine Since.one (l1_ev x0 x1 x2 x3 h0 hl0 h1 hl1 h2 hl2 h3 _ 0 rfl (Nat.zero_le _) (by simp)) fun k hk => ?_
    simp only [icehouselaw02_PackBack.l0]
    rw [if_neg (Int.lt_irrefl _)]
    exact hk
  | succ d ih =>
    intro i hd hi
    have hlt : i < x0.length := by omega
    have hb := cat_take_len x0 i
    have hn := numB_len x0[i]
    refine Since.one (ih (i + 1) (by omega) (by omega)) fun k hk => ?_
    simp only [icehouselaw02_PackBack.l0]
    rw [if_pos (by omega), if_pos (by omega), rd_at hlt, w_suc i (by omega)]
    unfold Fp.pack_Num.f
    rw [Option.bind_some, if_pos (by omega), ← cat_take hlt]
    exact hk
end
theorem back_ev (x0 : List Int) (x1 : List (List Int)) (x2 : List Int) (x3 : Int) (h0 : ∀ x ∈ x0, I64 x) (h1 : ∀ x ∈ x1, Byte x) (h2 : Byte x2) (h3 : 0 ≤ x3 ∧ x3 < 65536) :
    ∃ k, icehouselaw02_PackBack.f k x0 x1 x2 x3 = some true := by
  have hT : Since (fun k => icehouselaw02_PackBack.j0 k x0 x1 x2 x3 true) true := Since.none fun k => by simp only [icehouselaw02_PackBack.j0]; rfl
  unfold icehouselaw02_PackBack.f
  by_cases hl0 : (x0.length : Int) > 100
  · obtain ⟨k, hk⟩ := hT; exact ⟨k, by rw [if_pos hl0]; exact hk k (Nat.le_refl _)⟩
  by_cases hl1 : (x1.length : Int) > 20
  · obtain ⟨k, hk⟩ := hT; exact ⟨k, by rw [if_neg hl0, if_pos hl1]; exact hk k (Nat.le_refl _)⟩
  by_cases hl2 : (x2.length : Int) > 500
  · obtain ⟨k, hk⟩ := hT; exact ⟨k, by rw [if_neg hl0, if_neg hl1, decide_eq_true hl2]; exact hk k (Nat.le_refl _)⟩
  obtain ⟨k, hk⟩ := Since.one (F := fun k => icehouselaw02_PackBack.j0 k x0 x1 x2 x3 false) (l0_ev x0 x1 x2 x3 h0 (by omega) h1 (by omega) h2 (by omega) h3 _ 0 rfl (Nat.zero_le _)) fun k hk => by
    simp only [icehouselaw02_PackBack.j0]; rw [if_neg (by decide)]; exact hk
  exact ⟨k, by rw [if_neg hl0, if_neg hl1, decide_eq_false hl2]; exact hk k (Nat.le_refl _)⟩
end Go.Proofs.Ytfhgclojfjiblaa.Bk
namespace Go.Proofs.Ytfhgclojfjiblaa.Pk
open Go Go.RowKit Go.ChangeShapes Go.WideShapes Go.ChangeAt Go.Proofs.Ytfhgclojfjiblaa.Bk
open Go.Proofs.YtfhgclojfjiblaaW.PrintWords Go.Proofs.YtfhgclojfjiblaaW.PrintLast Go.Proofs.YtfhgclojfjiblaaW.PrintMore
theorem byteB {x : Int} (h : (Lit.int .u8 x).wf = true) : 0 ≤ x ∧ x < 256 := by
  simp [Lit.wf] at h
  have h2 := h.2
  simp [IntKind.max, IntKind.bits, IntKind.signed] at h2
  exact ⟨h.1, by omega⟩
theorem i64B {x : Int} (h : (Lit.int .i64 x).wf = true) : I64 x := by
  simp [Lit.wf, IntKind.min, IntKind.max, IntKind.bits, IntKind.signed] at h
  unfold I64; omega
theorem u16B {x : Int} (h : (Lit.int .u16 x).wf = true) : 0 ≤ x ∧ x < 65536 := by
  simp [Lit.wf, IntKind.min, IntKind.max, IntKind.bits, IntKind.signed] at h
  omega
theorem packBack (w : World) (A0 : Option Addr) (c0 : Nat) (l0 : List Int) (hr0 : Kd.C (Kd.int .i64) w A0 l0.length l0) (hc0 : l0.length ≤ c0) (wf0 : l0.length ≤ maxLen ∧ l0.length * 8 ≤ 140737488351232 ∧ ∀ x ∈ l0, (Lit.int .i64 x).wf = true)
    (A1 : Option Addr) (c1 : Nat) (l1 : List (List Int)) (hr1 : Kd.C (Kd.slice 5 (Kd.int .u8)) w A1 l1.length l1) (hc1 : l1.length ≤ c1) (wf1 : l1.length ≤ maxLen ∧ l1.length * 24 ≤ 140737488351232 ∧ ∀ x ∈ l1, x.length ≤ maxLen ∧ x.length * 1 ≤ 140737488351232 ∧ ∀ y ∈ x, (Lit.int .u8 y).wf = true)
    (A2 : Option Addr) (c2 : Nat) (l2 : List Int) (hr2 : Kd.C (Kd.int .u8) w A2 l2.length l2) (hc2 : l2.length ≤ c2) (wf2 : l2.length ≤ maxLen ∧ l2.length * 1 ≤ 140737488351232 ∧ ∀ x ∈ l2, (Lit.int .u8 x).wf = true)
    (a3 : Int) (wf3 : (Lit.int .u16 a3).wf = true) :
    Calls Try.prog 9 #[.slice A0 l0.length c0, .slice A1 l1.length c1, .slice A2 l2.length c2, .int .u16 a3] w fun e w' => e = .returned (.bool true) ∧ Below w.heap.size w w' := by
  obtain ⟨k, hk⟩ := back_ev l0 l1 l2 a3 (fun x hx => i64B (wf0.2.2 x hx)) (fun x hx y hy => byteB ((wf1.2.2 x hx).2.2 y hy)) (fun x hx => byteB (wf2.2.2 x hx)) (u16B wf3)
  exact QB.icehouselaw02_PackBack.calls k A0 c0 l0 A1 c1 l1 A2 c2 l2 a3 true w hr0 hc0 hr1 hc1 hr2 hc2 hk
end Go.Proofs.Ytfhgclojfjiblaa.Pk
