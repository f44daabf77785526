/- The contract of the reference's Check of a message: what msgs.Check tells. Conditions: lists that fit in memory. · The contract of the reference's Check of a message, walked. Conditions: lists that fit in memory. -/
import Derived.Test.YthaoiamgkpkcbaaDoorYMsgsReads20
import Derived.Test.YthaoiamgkpkcbaaDoorYMsgsReads25
import Derived.Test.YthaoiamgkpkcbaaDoorYMsgsReads17
import Derived.Test.YthaoiamgkpkcbaaDoorYMsgsReads26
import Derived.Deep.Light

namespace Go.Proofs.YthaoiamgkpkcbaaDoor.Ms
open Go.ChangeShapes Go.WideShapes Go.ChangeAt Go.RowKit Go.Proofs.YthaoiamgkpkcbaaDoor.Pk Go.Proofs.YthaoiamgkpkcbaaDoor.Tg Go.Proofs.YthaoiamgkpkcbaaDoor.Enc Go.Proofs.YthaoiamgkpkcbaaDoor.EncC Go.Proofs.YthaoiamgkpkcbaaDoor.EncP
open Go.Proofs.YthaoiamgkpkcbaaDoor.Hlp Go.Proofs.YthaoiamgkpkcbaaDoor.Wrd Go.Proofs.YthaoiamgkpkcbaaDoor.Lex Go.Proofs.YthaoiamgkpkcbaaDoorW.PrintWords Go.Proofs.YthaoiamgkpkcbaaDoorW.PrintLast Go.Proofs.YthaoiamgkpkcbaaDoorW.PrintMore
set_option linter.unusedVariables false
set_option linter.unusedSimpArgs false
theorem checkM_yes {m : Ms} (ok : Okm m) : checkM m = 0 := if_pos ((okm_iff m).2 ok)
theorem checkM_no {m : Ms} (ok : ¬ Okm m) : checkM m = 2 := if_neg (fun h => ok ((okm_iff m).1 h))
theorem rwithin_d (n m : Int) {r : Bool} (hq : withinB n m = r) (w : World) : Calls Tryd.prog 42 #[.int .i64 n, .int .i64 m] w fun e w' => e = .returned (.bool r) ∧ Drawn0 w w' := by
  subst hq
  refine QR.icehouseref12_within.calls n m (withinB n m) w ?_
  unfold QR.icehouseref12_within.f withinB
  by_cases h1 : n ≥ 0
  · simp [h1]
  · simp [h1]
/-! the reference's Check of a ring -/
theorem riseB_iff : ∀ (l : List Int) (a : Int), riseB a l = true ↔ (∀ i (h : i < l.length), l[i] ≤ 1048575 ∧ (i = 0 → a < l[i])) ∧ ∀ i (h : i + 1 < l.length), l[i] < l[i + 1]
  | [], a => by simp [riseB]
  | x :: l, a => by
    unfold riseB
    rw [Bool.and_eq_true, decide_eq_true_iff, riseB_iff l x]
    constructor
    · rintro ⟨⟨h1, h2⟩, h3, h4⟩
      refine ⟨fun i hi => ?_, fun i hi => ?_⟩
      · cases i with
        | zero => exact ⟨h2, fun _ => h1⟩
        | succ i => exact ⟨(h3 i (by simpa using hi)).1, fun h => by omega⟩
      · cases i with
        | zero => exact (h3 0 (by simpa using hi)).2 rfl
        | succ i => exact h4 i (by simpa using hi)
    · rintro ⟨h1, h2⟩
      refine ⟨⟨(h1 0 (by simp)).2 rfl, (h1 0 (by simp)).1⟩, fun i hi => ⟨(h1 (i + 1) (by simpa using hi)).1, fun h => ?_⟩, fun i hi => h2 (i + 1) (by simpa using hi)⟩
      subst h
      exact h2 0 (by simpa using hi)
theorem rise_pos {l : List Int} (h : riseB (-1) l = true) : ∀ x ∈ l, 0 ≤ x ∧ x ≤ 1048575 := rise_rng (by omega) h
/-- an element of a ring's nodes may stand where it stands -/
def upAt (l : List Int) (j : Nat) : Prop := 0 ≤ l.getD j 0 ∧ l.getD j 0 ≤ 1048575 ∧ (0 < j → l.getD (j - 1) 0 < l.getD j 0)
def upFrom (l : List Int) (i : Nat) : Prop := ∀ j, i ≤ j → j < l.length → upAt l j
theorem upFrom_end (l : List Int) : upFrom l l.length := fun j h1 h2 => by omega
theorem upFrom_step {l : List Int} {i : Nat} (h : upAt l i) : upFrom l i ↔ upFrom l (i + 1) := by
  constructor
  · intro h1 j h2 h3; exact h1 j (by omega) h3
  · intro h1 j h2 h3
    by_cases he : i = j
    · subst he; exact h
    · exact h1 j (by omega) h3
open Classical in
/-- the reference's loop from a place on -/
theorem rring_l0 (l : List Int) (e k' : Int) (hl : l.length < 9223372036854775807) : ∀ (d i : Nat), l.length - i = d → i ≤ l.length → ∃ r : Int, (r = 0 ∧ upFrom l i ∨ r = 2 ∧ ¬ upFrom l i) ∧ Since (fun k => QK.icehouseref09_Check.l0 k (l.length : Int) (i : Int) l e k') r := by
  intro d
  induction d with
  | zero =>
    intro i hd hi
    obtain rfl : i = l.length := by omega
    refine ⟨0, .inl ⟨rfl, upFrom_end l⟩, Since.none fun k => ?_⟩
    simp only [QK.icehouseref09_Check.l0]
    rw [if_neg (Int.lt_irrefl _)]
  | succ d ih =>
    intro i hd hi
    have h1 : i < l.length := by omega
    have hr : rd l (i : Int) = l.getD i 0 := by simp [rd, h1]
    have hw : wrap64 ((i : Int) + 1) = ((i + 1 : Nat) : Int) := by unfold wrap64; omega
    by_cases h2 : l.getD i 0 < 0
    · refine ⟨2, .inr ⟨rfl, fun h => ?_⟩, Since.none fun k => ?_⟩
      · have := (h i (Nat.le_refl _) h1).1; omega
      · simp only [QK.icehouseref09_Check.l0]
        rw [if_pos (by omega), if_pos (by omega), if_pos (by omega), hr, if_pos h2]
    · by_cases h3 : l.getD i 0 > 1048575
      · refine ⟨2, .inr ⟨rfl, fun h => ?_⟩, Since.none fun k => ?_⟩
        · have := (h i (Nat.le_refl _) h1).2.1; omega
        · simp only [QK.icehouseref09_Check.l0]
          rw [if_pos (by omega), if_pos (by omega), if_pos (by omega), hr, if_neg h2, if_pos h3]
      · obtain ⟨r, hr0, hS⟩ := ih (i + 1) (by omega) (by omega)
        by_cases h4 : (i : Int) > 0
        · have hw2 : wrap64 ((i : Int) - 1) = ((i - 1 : Nat) : Int) := by unfold wrap64; omega
          have hr2 : rd l ((i - 1 : Nat) : Int) = l.getD (i - 1) 0 := by
            have h5 : i - 1 < l.length := by omega
            simp [rd, h5]
          by_cases h6 : l.getD i 0 ≤ l.getD (i - 1) 0
          · refine ⟨2, .inr ⟨rfl, fun h => ?_⟩, Since.none fun k => ?_⟩
            · have := (h i (Nat.le_refl _) h1).2.2 (by omega); omega
            · simp only [QK.icehouseref09_Check.l0]
              rw [if_pos (by omega), if_pos (by omega), if_pos (by omega), hr, if_neg h2, if_neg h3, if_pos h4, hw2, if_pos (by omega), if_pos (by omega), hr2, if_pos h6]
          · refine ⟨r, by rw [upFrom_step (l := l) (i := i) ⟨by omega, by omega, fun _ => by omega⟩]; exact hr0, Since.one hS fun k hk => ?_⟩
            simp only [QK.icehouseref09_Check.l0]
            rw [if_pos (by omega), if_pos (by omega), if_pos (by omega), hr, if_neg h2, if_neg h3, if_pos h4, hw2, if_pos (by omega), if_pos (by omega), hr2, if_neg h6, hw]
            exact hk
        · refine ⟨r, by rw [upFrom_step (l := l) (i := i) ⟨by omega, by omega, fun _ => by omega⟩]; exact hr0, Since.one hS fun k hk => ?_⟩
          simp only [QK.icehouseref09_Check.l0]
          rw [if_pos (by omega), if_pos (by omega), if_pos (by omega), hr, if_neg h2, if_neg h3, if_neg h4, hw]
          exact hk
theorem gd {l : List Int} {j : Nat} (h : j < l.length) : l.getD j 0 = l[j] := by simp [h]
theorem rring_iff (l : List Int) : upFrom l 0 ↔ riseB (-1) l = true := by
  constructor
  · intro h
    refine (riseB_iff l (-1)).2 ⟨fun i hi => ?_, fun i hi => ?_⟩
    · have h1 := h i (Nat.zero_le _) hi
      unfold upAt at h1
      rw [gd hi] at h1
      exact ⟨h1.2.1, fun _ => by omega⟩
    · have h1 := h (i + 1) (Nat.zero_le _) hi
      unfold upAt at h1
      rw [gd hi, Nat.add_sub_cancel, gd (by omega)] at h1
      exact h1.2.2 (by omega)
  · intro h j _ hj
    have h1 := rise_pos h l[j] (List.getElem_mem hj)
    unfold upAt
    rw [gd hj]
    refine ⟨h1.1, h1.2, fun h0 => ?_⟩
    obtain ⟨i, rfl⟩ : ∃ i, j = i + 1 := ⟨j - 1, by omega⟩
    rw [Nat.add_sub_cancel, gd (by omega)]
    exact ((riseB_iff l (-1)).1 h).2 i hj
theorem rring_ev (l : List Int) (each keep : Int) (hl : l.length < 9223372036854775807) : ∃ K, QK.icehouseref09_Check.f K l each keep = some (if ringB l each keep = true then 0 else 2) := by
  obtain ⟨r, hr, K, hK⟩ := rring_l0 l each keep hl _ 0 rfl (Nat.zero_le _)
  have h0 := hK K (Nat.le_refl _)
  have hr2 : r = if riseB (-1) l = true then 0 else 2 := by
    rcases hr with ⟨rfl, h⟩ | ⟨rfl, h⟩
    · rw [if_pos ((rring_iff l).1 h)]
    · rw [if_neg (fun h' => h ((rring_iff l).2 h'))]
  refine ⟨K + 1, ?_⟩
  have hT : QK.icehouseref09_Check.j0 (K + 1) (l.length : Int) true l each keep = some 2 := by simp only [QK.icehouseref09_Check.j0]; rfl
  have hF : QK.icehouseref09_Check.j0 (K + 1) (l.length : Int) false l each keep = some (if riseB (-1) l = true then 0 else 2) := by
    simp only [QK.icehouseref09_Check.j0]
    rw [if_neg (by decide)]
    rw [← hr2]; exact h0
  unfold QK.icehouseref09_Check.f ringB
  by_cases h1 : (l.length : Int) < 1
  · rw [if_pos h1, hT, decide_eq_false (show ¬ (1 ≤ l.length ∧ l.length ≤ 64) by omega)]; rfl
  by_cases h2 : (l.length : Int) > 64
  · rw [if_neg h1, if_pos h2, hT, decide_eq_false (show ¬ (1 ≤ l.length ∧ l.length ≤ 64) by omega)]; rfl
  rw [if_neg h1, if_neg h2, decide_eq_true (show 1 ≤ l.length ∧ l.length ≤ 64 by omega), Bool.true_and]
  by_cases h3 : each < 1
  · rw [if_pos h3, hT, decide_eq_false (show ¬ (1 ≤ each ∧ each ≤ 64 ∧ 1 ≤ keep ∧ keep ≤ l.length) by omega), Bool.and_false]; rfl
  by_cases h4 : each > 64
  · rw [if_neg h3, if_pos h4, hT, decide_eq_false (show ¬ (1 ≤ each ∧ each ≤ 64 ∧ 1 ≤ keep ∧ keep ≤ l.length) by omega), Bool.and_false]; rfl
  by_cases h5 : keep < 1
  · rw [if_neg h3, if_neg h4, if_pos h5, hT, decide_eq_false (show ¬ (1 ≤ each ∧ each ≤ 64 ∧ 1 ≤ keep ∧ keep ≤ l.length) by omega), Bool.and_false]; rfl
  rw [if_neg h3, if_neg h4, if_neg h5]
  by_cases h6 : keep > (l.length : Int)
  · rw [decide_eq_true h6, hT, decide_eq_false (show ¬ (1 ≤ each ∧ each ≤ 64 ∧ 1 ≤ keep ∧ keep ≤ l.length) by omega), Bool.and_false]; rfl
  · rw [decide_eq_false h6, hF, decide_eq_true (show 1 ≤ each ∧ each ≤ 64 ∧ 1 ≤ keep ∧ keep ≤ l.length by omega), Bool.and_true]
theorem rring_c {w : World} {A : Option Addr} {n c : Nat} {l : List Int} (each keep : Int) {r : Bool} (hq : ringB l each keep = r) (hr : Kd.C (Kd.int .i64) w A n l) (hc : n ≤ c) (hl : n < 9223372036854775807) :
    Calls Tryd.prog 44 #[.agg #[.slice A n c, .int .i64 each, .int .i64 keep]] w fun e w' => e = .returned (.int .i64 (if r = true then 0 else 2)) ∧ Below w.heap.size w w' := by
  obtain rfl : l.length = n := hr.1
  subst hq
  obtain ⟨K, hK⟩ := rring_ev l each keep hl
  exact QK.icehouseref09_Check.calls K A c l each keep _ w hr hc hK
theorem rnone_c {w : World} {A : Option Addr} {n c : Nat} {l : List Int} (each keep : Int) {r : Bool} (hq : noneB l each keep = r) (hr : Kd.C (Kd.int .i64) w A n l) (hc : n ≤ c) (hl : n < 9223372036854775807) :
    Calls Tryd.prog 45 #[.agg #[.slice A n c, .int .i64 each, .int .i64 keep], .agg #[.slice none 0 0, .int .i64 0, .int .i64 0]] w fun e w' => e = .returned (.bool r) ∧ Below w.heap.size w w' := by
  obtain rfl : l.length = n := hr.1
  subst hq
  obtain ⟨K, hK⟩ := ring_same_ev ⟨0, 0, 0, 0, 0, 0, false, zE, [], l, each, keep⟩ zM hl
  have h := hK K (Nat.le_refl _)
  have e : (decide (l = []) && decide (each = 0 ∧ keep = 0)) = noneB l each keep := by
    unfold noneB
    cases l with
    | nil => by_cases h1 : each = 0 <;> by_cases h2 : keep = 0 <;> simp [h1, h2]
    | cons x l => simp
  refine QS.icehouseref09_Same.calls K A c l each keep none 0 [] 0 0 _ w hr hc (C_empty) (Nat.le_refl _) (h.trans ?_)
  exact congrArg some e
end Go.Proofs.YthaoiamgkpkcbaaDoor.Ms
namespace Go.Proofs.YthaoiamgkpkcbaaDoor.Ms
open Go.ChangeShapes Go.WideShapes Go.ChangeAt Go.RowKit Go.Proofs.YthaoiamgkpkcbaaDoor.Pk Go.Proofs.YthaoiamgkpkcbaaDoor.Tg Go.Proofs.YthaoiamgkpkcbaaDoor.Enc Go.Proofs.YthaoiamgkpkcbaaDoor.EncC Go.Proofs.YthaoiamgkpkcbaaDoor.EncP
open Go.Proofs.YthaoiamgkpkcbaaDoor.Hlp Go.Proofs.YthaoiamgkpkcbaaDoor.Wrd Go.Proofs.YthaoiamgkpkcbaaDoor.Lex Go.Proofs.YthaoiamgkpkcbaaDoorW.PrintWords Go.Proofs.YthaoiamgkpkcbaaDoorW.PrintLast Go.Proofs.YthaoiamgkpkcbaaDoorW.PrintMore
set_option linter.unusedVariables false
set_option linter.unusedSimpArgs false
set_option maxHeartbeats 8000000 in
set_option maxRecDepth 100000 in
theorem rcheck_ {w : World} {m : Ms} {p : Pl} (hm : Lies w m p) (hL : m.L.length < 9223372036854775807) (hR : m.R.length < 9223372036854775807) :
    Calls Tryd.prog 16 #[.agg (m.val p)] w fun e w' => e = .returned (.int .i64 (checkM m)) ∧ Below w.heap.size w w' := by
  have hbn := blk_new w (.cells (m.val p) 34)
  have BM := Aside0.mk hbn
  have HB0 := Aside0.mk (below_alloc (Below.refl w.heap.size w) (.cells (m.val p) 34))
  have HM := Aside0.mk hm
  clear hm hbn
  go_enter Tryd.func16, Tryd.ntmps16
  go_upto_region 1 with fail
  generalize w.alloc (.cells (m.val p) 34) = W at *
  obtain ⟨c0, c1, c2, c3, c4, c5, c6, c7, c8, c9, c10, c11, c12, c13, c14, c15, c16⟩ := ms_cells BM.out
  obtain ⟨q0, g0⟩ : ∃ r, decide (m.kind < 1) = r := ⟨_, rfl⟩
  obtain ⟨q1, g1⟩ : ∃ r, decide (17 < m.kind) = r := ⟨_, rfl⟩
  obtain ⟨r1, h1⟩ : ∃ r, withinB m.fr 1048575 = r := ⟨_, rfl⟩
  obtain ⟨r2, h2⟩ : ∃ r, withinB m.dst 1048575 = r := ⟨_, rfl⟩
  have H1 := Aside0.mk h1
  have H2 := Aside0.mk h2
  have G0 := Aside0.mk g0
  have G1 := Aside0.mk g1
  clear h1 h2
  go_cut [24] (fun v wc => v = .bool (q0 || q1 || !r1 || !r2) ∧ Aside0 (Below W.heap.size W wc))
  case first =>
    as_aux_lemma =>
    go_wp2_with (first
      | (go_at_call 42; (with_reducible refine (rwithin_d m.fr _ H1.out _).mono ?_); rintro e w2 ⟨rfl, ⟨⟨nq, rfl⟩⟩⟩)
      | (go_at_call 42; (with_reducible refine (rwithin_d m.dst _ H2.out _).mono ?_); rintro e w2 ⟨rfl, ⟨⟨nq, rfl⟩⟩⟩))
    all_goals go_meet
    all_goals (refine ⟨?_, (by first | exact ⟨Below.refl _ _⟩ | exact ⟨pw_below_drewN (Below.refl _ _) _⟩)⟩; go_light; simp [*])
  case rest =>
    as_aux_lemma =>
    obtain ⟨rfl, HB⟩ := hcut
    go_upto_if 24 with fail
    clear c0 c1 c2 c3 c4 c5 c6 c7 c8 c9 c10 c11 c12 c13 c14 c15 c16 g0 g1
    have BM1 := Aside0.mk ((HB.out.block _ (blk_lt BM.out)).trans BM.out)
    have HB1 := Aside0.mk (below_then HB0.out HB0.out.size HB.out)
    obtain ⟨b, hb⟩ : ∃ b, (q0 || q1 || !r1 || !r2) = b := ⟨_, rfl⟩
    rw [hb]
    have HBb := Aside0.mk hb
    clear hb
    cases b
    · have K1 : Aside0 ((1 ≤ m.kind ∧ m.kind ≤ 17) ∧ (0 ≤ m.fr ∧ m.fr ≤ 1048575) ∧ (0 ≤ m.dst ∧ m.dst ≤ 1048575)) := ⟨by have h := HBb.out; rw [← G0.out, ← G1.out, ← H1.out, ← H2.out] at h; unfold withinB at h; simp at h; omega⟩
      clear HBb G0 G1 H1 H2 HB BM HB0
      go_upto_region 3 with fail
      obtain ⟨w1, hw1⟩ : ∃ w1, w1 = wc := ⟨_, rfl⟩
      subst hw1
      obtain ⟨c0, c1, c2, c3, c4, c5, c6, c7, c8, c9, c10, c11, c12, c13, c14, c15, c16⟩ := ms_cells BM1.out
      obtain ⟨r1, h1⟩ : ∃ r, withinB m.ep 1099511627775 = r := ⟨_, rfl⟩
      obtain ⟨r2, h2⟩ : ∃ r, withinB m.op 1099511627775 = r := ⟨_, rfl⟩
      obtain ⟨r3, h3⟩ : ∃ r, withinB m.n 1099511627775 = r := ⟨_, rfl⟩
      have H1 := Aside0.mk h1
      have H2 := Aside0.mk h2
      have H3 := Aside0.mk h3
      clear h1 h2 h3
      go_cut [40] (fun v wc => v = .bool (!r1 || !r2 || !r3) ∧ Aside0 (Below w1.heap.size w1 wc))
      case first =>
        as_aux_lemma =>
        go_wp2_with (first
          | (go_at_call 42; (with_reducible refine (rwithin_d m.ep _ H1.out _).mono ?_); rintro e w2 ⟨rfl, ⟨⟨nq, rfl⟩⟩⟩)
          | (go_at_call 42; (with_reducible refine (rwithin_d m.op _ H2.out _).mono ?_); rintro e w2 ⟨rfl, ⟨⟨nq, rfl⟩⟩⟩)
          | (go_at_call 42; (with_reducible refine (rwithin_d m.n _ H3.out _).mono ?_); rintro e w2 ⟨rfl, ⟨⟨nq, rfl⟩⟩⟩))
        all_goals go_meet
        all_goals (refine ⟨?_, (by first | exact ⟨Below.refl _ _⟩ | exact ⟨pw_below_drewN (Below.refl _ _) _⟩)⟩; go_light; simp [*])
      case rest =>
        as_aux_lemma =>
        obtain ⟨rfl, HB⟩ := hcut
        go_upto_if 40 with fail
        clear c0 c1 c2 c3 c4 c5 c6 c7 c8 c9 c10 c11 c12 c13 c14 c15 c16
        have BM2 := Aside0.mk ((HB.out.block _ (blk_lt BM1.out)).trans BM1.out)
        have HB2 := Aside0.mk (below_then HB1.out HB1.out.size HB.out)
        obtain ⟨b, hb⟩ : ∃ b, (!r1 || !r2 || !r3) = b := ⟨_, rfl⟩
        rw [hb]
        have HBb := Aside0.mk hb
        clear hb
        cases b
        · have K2 : Aside0 ((0 ≤ m.ep ∧ m.ep ≤ 1099511627775) ∧ (0 ≤ m.op ∧ m.op ≤ 1099511627775) ∧ (0 ≤ m.n ∧ m.n ≤ 1099511627775)) := ⟨by have h := HBb.out; rw [← H1.out, ← H2.out, ← H3.out] at h; unfold withinB at h; simp at h; omega⟩
          clear HBb H1 H2 H3 HB BM1 HB1
          go_upto_region 5 with fail
          obtain ⟨w2, hw2⟩ : ∃ w2, w2 = wc := ⟨_, rfl⟩
          subst hw2
          obtain ⟨c0, c1, c2, c3, c4, c5, c6, c7, c8, c9, c10, c11, c12, c13, c14, c15, c16⟩ := ms_cells BM2.out
          clear c1 c2 c3 c4 c7 c8 c9 c10 c11 c12 c14 c15 c16
          obtain ⟨h, hh⟩ : ∃ b, hasV m.kind = b := ⟨_, rfl⟩
          obtain ⟨bn, bf, be, bl, br⟩ := h
          have HN : Aside0 ((hasV m.kind).n = bn) := ⟨by rw [hh]⟩
          have HF : Aside0 ((hasV m.kind).f = bf) := ⟨by rw [hh]⟩
          have HE : Aside0 ((hasV m.kind).e = be) := ⟨by rw [hh]⟩
          have HL : Aside0 ((hasV m.kind).l = bl) := ⟨by rw [hh]⟩
          have HR : Aside0 ((hasV m.kind).r = br) := ⟨by rw [hh]⟩
          clear hh
          obtain ⟨s0, g0⟩ : ∃ r, decide (0 < m.n) = r := ⟨_, rfl⟩
          obtain ⟨s1, g1⟩ : ∃ r, decide (0 < (m.L.length : Int)) = r := ⟨_, rfl⟩
          have g1' : decide (0 < m.L.length) = s1 := by rw [← g1]; congr 1; exact propext (by omega)
          obtain ⟨s2, g2⟩ : ∃ r, decide (1000 < (m.L.length : Int)) = r := ⟨_, rfl⟩
          have G0 := Aside0.mk g0
          have G1 := Aside0.mk g1'
          have G2 := Aside0.mk g2
          have HX := Aside0.mk (Below.refl w2.heap.size w2)
          go_cut [77] (fun v wc => v = .bool ((!bn && s0) || (!bf && m.f) || (!bl && s1) || s2) ∧ Aside0 (Below w2.heap.size w2 wc))
          case first =>
            as_aux_lemma =>
            go_wp2_with (first
              | (go_at_call 21; (with_reducible refine (rhas_n m.kind HN.out _).mono ?_); rintro e w3 ⟨rfl, hb⟩; replace HX := Aside0.mk (below_then HX.out HX.out.size hb); replace c0 := pw_cell_below hb c0; replace c5 := pw_cell_below hb c5; replace c6 := pw_cell_below hb c6; replace c13 := pw_cell_below hb c13; clear hb)
              | (go_at_call 21; (with_reducible refine (rhas_f m.kind HF.out _).mono ?_); rintro e w3 ⟨rfl, hb⟩; replace HX := Aside0.mk (below_then HX.out HX.out.size hb); replace c0 := pw_cell_below hb c0; replace c6 := pw_cell_below hb c6; replace c13 := pw_cell_below hb c13; clear hb)
              | (go_at_call 21; (with_reducible refine (rhas_l m.kind HL.out _).mono ?_); rintro e w3 ⟨rfl, hb⟩; replace HX := Aside0.mk (below_then HX.out HX.out.size hb); replace c13 := pw_cell_below hb c13; clear hb))
            all_goals go_meet
            all_goals (refine ⟨?_, HX⟩; go_light; simp [*])
          case rest =>
            as_aux_lemma =>
            obtain ⟨rfl, HB⟩ := hcut
            go_upto_if 77 with fail
            clear c0 c5 c6 c13 g0 g1 g1' g2 HX
            have BM3 := Aside0.mk ((HB.out.block _ (blk_lt BM2.out)).trans BM2.out)
            have HB3 := Aside0.mk (below_then HB2.out HB2.out.size HB.out)
            obtain ⟨b, hb⟩ : ∃ b, ((!bn && s0) || (!bf && m.f) || (!bl && s1) || s2) = b := ⟨_, rfl⟩
            rw [hb]
            have HBb := Aside0.mk hb
            clear hb
            cases b
            · have K3 : Aside0 ((bn = true ∨ m.n = 0) ∧ (bf = true ∨ m.f = false) ∧ (bl = true ∨ m.L.length = 0) ∧ m.L.length ≤ 1000) := ⟨by
                have h := HBb.out
                rw [Bool.or_eq_false_iff, Bool.or_eq_false_iff, Bool.or_eq_false_iff, ← G0.out, ← G1.out, ← G2.out] at h
                obtain ⟨⟨⟨a1, a2⟩, a3⟩, a4⟩ := h
                have k := K2.out
                refine ⟨?_, ?_, ?_, ?_⟩
                · cases bn
                  · right; simp at a1; omega
                  · left; rfl
                · cases bf
                  · right; simpa using a2
                  · left; rfl
                · cases bl
                  · right; simp at a3; simp [a3]
                  · left; rfl
                · simp at a4; omega⟩
              clear HBb G0 G1 G2 HB BM2 HB2
              go_wp2_with fail
              obtain ⟨w3, hw3⟩ : ∃ w3, w3 = wc := ⟨_, rfl⟩
              subst hw3
              go_loopg [3] m.L.length (fun q v3 w' => ∃ k : Nat, k ≤ m.L.length ∧ v3 = .int .i64 k ∧ q = m.L.length - k ∧ Aside0 (∀ x ∈ m.L.take k, okE x) ∧ Aside0 (Below w3.heap.size w3 w'))
              case atStart => exact ⟨0, Nat.zero_le _, rfl, rfl, ⟨by simp⟩, ⟨Below.refl _ _⟩⟩
              case round =>
                obtain ⟨k, hk, rfl, rfl, HO, HB⟩ := hrel
                have BMk := Aside0.mk ((HB.out.block _ (blk_lt BM3.out)).trans BM3.out)
                have HMk := Aside0.mk ((HM.out.below HB3.out).below HB.out)
                obtain ⟨c0, c1, c2, c3, c4, c5, c6, c7, c8, c9, c10, c11, c12, c13, c14, c15, c16⟩ := ms_cells BMk.out
                clear c0 c1 c2 c3 c4 c5 c6 c7 c8 c9 c10 c11 c12 c14 c15 c16
                by_cases hlt : k < m.L.length
                · have t2 : decide (k < m.L.length) = true := decide_eq_true hlt
                  obtain ⟨ad, A5, d5, hA, h1, h2, h3, h4, h5, h6, h7, h8⟩ := at_E HMk.out.l k hlt
                  rw [hA] at c13
                  have HC := Aside0.mk h8
                  clear h8 hA
                  by_cases ho : okE m.L[k]
                  · have hq : Aside0 (rightV m.L[k].f0 m.L[k].f1.f0 m.L[k].f1.f1 m.L[k].f1.f2 m.L[k].f2.f0 m.L[k].f2.f1 = 0) := ⟨if_pos ho⟩
                    have ho := Aside0.mk ho
                    go_wp2_with (go_at_call 43; (with_reducible refine (rright_c _ _ _ _ _ hq.out HC.out h7).mono ?_); rintro e w4 ⟨rfl, hb⟩; have HB4 := Aside0.mk hb; clear hb)
                    go_roundg (m.L.length - (k + 1))
                    case measure => omega
                    case rel => exact ⟨k + 1, by omega, by go_num, rfl, ⟨take_ok hlt HO.out ho.out⟩, ⟨below_then HB.out HB.out.size HB4.out⟩⟩
                  · have hq : Aside0 (rightV m.L[k].f0 m.L[k].f1.f0 m.L[k].f1.f1 m.L[k].f1.f2 m.L[k].f2.f0 m.L[k].f2.f1 = 2) := ⟨if_neg ho⟩
                    have ho := Aside0.mk ho
                    go_wp2_with (go_at_call 43; (with_reducible refine (rright_c _ _ _ _ _ hq.out HC.out h7).mono ?_); rintro e w4 ⟨rfl, hb⟩; have HB4 := Aside0.mk hb; clear hb)
                    (try rw [Exit.noGoto_ret])
                    go_ret
                    exact ⟨by rw [checkM_no (fun ok => ho.out (ok.all _ (List.getElem_mem hlt)))]; rfl, below_then HB3.out HB3.out.size (below_then HB.out HB.out.size HB4.out)⟩
                · have t2 : decide (k < m.L.length) = false := decide_eq_false hlt
                  obtain rfl : k = m.L.length := by omega
                  have K4 : Aside0 (∀ x ∈ m.L, okE x) := ⟨by have := HO.out; rwa [List.take_length] at this⟩
                  have HB4 := Aside0.mk (below_then HB3.out HB3.out.size HB.out)
                  clear HB BM3 HB3 HO
                  go_upto_region 12 with fail
                  obtain ⟨w4, hw4⟩ : ∃ w4, w4 = wr := ⟨_, rfl⟩
                  subst hw4
                  clear c13
                  obtain ⟨c0, c1, c2, c3, c4, c5, c6, c7, c8, c9, c10, c11, c12, c13, c14, c15, c16⟩ := ms_cells BMk.out
                  go_cut [4] (fun v wc => v = .bool (zeroB m.e && decide (m.e.f2.f1.length = 0)) ∧ Aside0 (Below w4.heap.size w4 wc))
                  case first =>
                    as_aux_lemma =>
                    have hz : ((m.e.f2.f1.length : Int) == 0) = decide (m.e.f2.f1.length = 0) := by
                      by_cases h : m.e.f2.f1.length = 0 <;> simp [h]
                    have HZ := Aside0.mk hz
                    clear hz
                    go_wp2_with fail
                    all_goals go_meet
                    all_goals (refine ⟨?_, ⟨Below.refl _ _⟩⟩; go_light; (try rw [HZ.out]); unfold zeroB; simp [*])
                  case rest =>
                    as_aux_lemma =>
                    obtain ⟨rfl, HB⟩ := hcut
                    go_upto_region 13 with fail
                    obtain ⟨w5, hw5⟩ : ∃ w5, w5 = wc := ⟨_, rfl⟩
                    subst hw5
                    clear c0 c1 c2 c3 c4 c5 c6 c7 c8 c9 c10 c11 c12 c13 c14 c15 c16
                    have BM5 := Aside0.mk ((HB.out.block _ (blk_lt BMk.out)).trans BMk.out)
                    have HB5 := Aside0.mk (below_then HB4.out HB4.out.size HB.out)
                    have HM5 := Aside0.mk (HM.out.below HB5.out)
                    clear HB BMk HB4 HMk hk hlt t2
                    obtain ⟨nz, hnz⟩ : ∃ b, (zeroB m.e && decide (m.e.f2.f1.length = 0)) = b := ⟨_, rfl⟩
                    rw [hnz]
                    have HNz := Aside0.mk hnz
                    obtain ⟨re, hre⟩ : ∃ b, decide (okE m.e) = b := ⟨_, rfl⟩
                    have HRe := Aside0.mk hre
                    obtain ⟨x, hx⟩ : ∃ x : Int, (if re = true then 0 else 2) = x := ⟨_, rfl⟩
                    have HQ : Aside0 (rightV m.e.f0 m.e.f1.f0 m.e.f1.f1 m.e.f1.f2 m.e.f2.f0 m.e.f2.f1 = x) := ⟨by rw [← hx, ← hre]; unfold rightV okE; by_cases h : okEnt m.e.f0 m.e.f1.f0 m.e.f1.f1 m.e.f1.f2 m.e.f2.f0 m.e.f2.f1 <;> simp [h]⟩
                    have gx : (x != 0) = !re := by rw [← hx]; cases re <;> rfl
                    clear hnz hre hx
                    obtain ⟨c0, c1, c2, c3, c4, c5, c6, c7, c8, c9, c10, c11, c12, c13, c14, c15, c16⟩ := ms_cells BM5.out
                    clear c1 c2 c3 c4 c5 c6 c13 c14 c15 c16
                    have HX := Aside0.mk (Below.refl w5.heap.size w5)
                    have HMx := HM5
                    go_cut [136] (fun v wc => v = .bool ((be && !re) || (!be && !nz)) ∧ Aside0 (Below w5.heap.size w5 wc))
                    case first =>
                      as_aux_lemma =>
                      go_wp2_with (first
                        | (go_at_call 21; (with_reducible refine (rhas_e m.kind HE.out _).mono ?_); rintro e w6 ⟨rfl, hb⟩; replace HX := Aside0.mk (below_then HX.out HX.out.size hb); replace HMx := Aside0.mk (HMx.out.below hb); replace c0 := pw_cell_below hb c0; replace c7 := pw_cell_below hb c7; replace c8 := pw_cell_below hb c8; replace c9 := pw_cell_below hb c9; replace c10 := pw_cell_below hb c10; replace c11 := pw_cell_below hb c11; replace c12 := pw_cell_below hb c12; clear hb)
                        | (go_at_call 43; (with_reducible refine (rright_c _ _ _ _ _ HQ.out HMx.out.v HMx.out.vc).mono ?_); rintro e w6 ⟨rfl, hb⟩; replace HX := Aside0.mk (below_then HX.out HX.out.size hb); replace HMx := Aside0.mk (HMx.out.below hb); replace c0 := pw_cell_below hb c0; replace c7 := pw_cell_below hb c7; replace c8 := pw_cell_below hb c8; replace c9 := pw_cell_below hb c9; replace c10 := pw_cell_below hb c10; replace c11 := pw_cell_below hb c11; replace c12 := pw_cell_below hb c12; clear hb))
                      all_goals go_meet
                      all_goals (refine ⟨?_, HX⟩; go_light; simp [*])
                    case rest =>
                      as_aux_lemma =>
                      obtain ⟨rfl, HB⟩ := hcut
                      go_upto_if 136 with fail
                      clear c0 c7 c8 c9 c10 c11 c12 gx HX HMx
                      have BM6 := Aside0.mk ((HB.out.block _ (blk_lt BM5.out)).trans BM5.out)
                      have HB6 := Aside0.mk (below_then HB5.out HB5.out.size HB.out)
                      obtain ⟨b, hb⟩ : ∃ b, ((be && !re) || (!be && !nz)) = b := ⟨_, rfl⟩
                      rw [hb]
                      have HBb := Aside0.mk hb
                      clear hb
                      cases b
                      · have K5 : Aside0 ((be = true → okE m.e) ∧ (be = false → zeroB m.e = true ∧ m.e.f2.f1.length = 0)) := ⟨by
                          have h := HBb.out
                          refine ⟨fun h1 => ?_, fun h1 => ?_⟩
                          · subst h1; simp at h; rw [← HRe.out] at h; simpa using h
                          · subst h1; simp at h; rw [← HNz.out] at h; simpa using h⟩
                        clear HBb HB BM5 HB5 HM5 HQ HRe HNz
                        go_upto_region 15 with fail
                        obtain ⟨w6, hw6⟩ : ∃ w6, w6 = wc := ⟨_, rfl⟩
                        subst hw6
                        have HM6 := Aside0.mk (HM.out.below HB6.out)
                        obtain ⟨rr, hrr⟩ : ∃ b, ringB m.R m.each m.keep = b := ⟨_, rfl⟩
                        obtain ⟨rn, hrn⟩ : ∃ b, noneB m.R m.each m.keep = b := ⟨_, rfl⟩
                        obtain ⟨x, hx⟩ : ∃ x : Int, (if rr = true then 0 else 2) = x := ⟨_, rfl⟩
                        have gx : (x != 0) = !rr := by rw [← hx]; cases rr <;> rfl
                        have HRR := Aside0.mk hrr
                        have HRN := Aside0.mk hrn
                        have HXx := Aside0.mk hx
                        clear hrr hrn hx
                        obtain ⟨c0, c1, c2, c3, c4, c5, c6, c7, c8, c9, c10, c11, c12, c13, c14, c15, c16⟩ := ms_cells BM6.out
                        clear c1 c2 c3 c4 c5 c6 c7 c8 c9 c10 c11 c12 c13
                        have HX := Aside0.mk (Below.refl w6.heap.size w6)
                        have HMx := HM6
                        go_cut [158] (fun v wc => v = .bool ((br && !rr) || (!br && !rn)) ∧ Aside0 (Below w6.heap.size w6 wc))
                        case first =>
                          as_aux_lemma =>
                          go_wp2_with (first
                            | (go_at_call 21; (with_reducible refine (rhas_r m.kind HR.out _).mono ?_); rintro e w7 ⟨rfl, hb⟩; replace HX := Aside0.mk (below_then HX.out HX.out.size hb); replace HMx := Aside0.mk (HMx.out.below hb); replace c0 := pw_cell_below hb c0; replace c14 := pw_cell_below hb c14; replace c15 := pw_cell_below hb c15; replace c16 := pw_cell_below hb c16; clear hb)
                            | (go_at_call 44; (with_reducible refine (rring_c _ _ HRR.out HMx.out.r HMx.out.rc hR).mono ?_); rw [HXx.out]; rintro e w7 ⟨rfl, hb⟩; replace HX := Aside0.mk (below_then HX.out HX.out.size hb); replace HMx := Aside0.mk (HMx.out.below hb); replace c0 := pw_cell_below hb c0; replace c14 := pw_cell_below hb c14; replace c15 := pw_cell_below hb c15; replace c16 := pw_cell_below hb c16; clear hb)
                            | (go_at_call 45; (with_reducible refine (rnone_c _ _ HRN.out HMx.out.r HMx.out.rc hR).mono ?_); rintro e w7 ⟨rfl, hb⟩; replace HX := Aside0.mk (below_then HX.out HX.out.size hb); clear hb))
                          all_goals go_meet
                          all_goals (refine ⟨?_, HX⟩; go_light; simp [*])
                        case rest =>
                          as_aux_lemma =>
                          obtain ⟨rfl, HB⟩ := hcut
                          go_upto_if 158 with fail
                          clear c0 c14 c15 c16 gx HX HMx
                          have HB7 := Aside0.mk (below_then HB6.out HB6.out.size HB.out)
                          obtain ⟨b, hb⟩ : ∃ b, ((br && !rr) || (!br && !rn)) = b := ⟨_, rfl⟩
                          rw [hb]
                          have HBb := Aside0.mk hb
                          clear hb
                          cases b
                          · as_aux_lemma =>
                            go_wp2
                            go_ret
                            refine ⟨?_, HB7.out⟩
                            have h := HBb.out
                            have k1 := K1.out
                            have k2 := K2.out
                            have k3 := K3.out
                            have k5 := K5.out
                            have hn := HN.out
                            have hf := HF.out
                            have he := HE.out
                            have hl := HL.out
                            have hr := HR.out
                            rw [checkM_yes ⟨k1.1, k1.2.1, k1.2.2, k2.1, k2.2.1, k2.2.2, by rw [hn]; exact k3.1, by rw [hf]; exact k3.2.1, by rw [hl]; exact k3.2.2.1, k3.2.2.2, K4.out, by rw [he]; exact k5.1, by rw [he]; exact k5.2, by rw [hr]; intro h1; subst h1; simp at h; rw [HRR.out]; exact h, by rw [hr]; intro h1; subst h1; simp at h; rw [HRN.out]; exact h⟩]
                            rfl
                          · as_aux_lemma =>
                            go_wp2
                            go_ret
                            refine ⟨?_, HB7.out⟩
                            rw [checkM_no (fun ok => ?_)]
                            · rfl
                            · have h := HBb.out
                              have hr := HR.out
                              cases br
                              · have h1 := ok.r0 hr; rw [HRN.out] at h1; subst h1; simp at h
                              · have h1 := ok.r1 hr; rw [HRR.out] at h1; subst h1; simp at h
                      · as_aux_lemma =>
                        go_wp2
                        go_ret
                        refine ⟨?_, HB6.out⟩
                        rw [checkM_no (fun ok => ?_)]
                        · rfl
                        · have h := HBb.out
                          have hr := HE.out
                          cases be
                          · have h1 := ok.e0 hr; rw [← HNz.out] at h; simp [h1.1, h1.2] at h
                          · have h1 := ok.e1 hr; rw [← HRe.out] at h; simp [h1] at h
            · as_aux_lemma =>
              go_wp2
              go_ret
              refine ⟨?_, HB3.out⟩
              rw [checkM_no (fun ok => ?_)]
              · rfl
              · have h := HBb.out
                rw [Bool.or_eq_true, Bool.or_eq_true, Bool.or_eq_true, ← G0.out, ← G1.out, ← G2.out] at h
                rcases h with ((h | h) | h) | h
                · rcases ok.n0 with h1 | h1
                  · rw [HN.out] at h1; simp [h1] at h
                  · simp [h1] at h
                · rcases ok.f0 with h1 | h1
                  · rw [HF.out] at h1; simp [h1] at h
                  · simp [h1] at h
                · rcases ok.l0 with h1 | h1
                  · rw [HL.out] at h1; simp [h1] at h
                  · simp [h1] at h
                · have := ok.len; simp at h; omega
        · as_aux_lemma =>
          go_wp2
          go_ret
          exact ⟨by rw [checkM_no (fun ok => by have := ok.ep; have := ok.op; have := ok.n; have h := HBb.out; rw [← H1.out, ← H2.out, ← H3.out] at h; unfold withinB at h; simp at h; omega)]; rfl, HB2.out⟩
    · as_aux_lemma =>
      go_wp2
      go_ret
      exact ⟨by rw [checkM_no (fun ok => by have := ok.kd; have := ok.fr; have := ok.dst; have h := HBb.out; rw [← G0.out, ← G1.out, ← H1.out, ← H2.out] at h; unfold withinB at h; simp at h; omega)]; rfl, HB1.out⟩
end Go.Proofs.YthaoiamgkpkcbaaDoor.Ms
