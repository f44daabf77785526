/- The law TagsVals returns true. Conditions: none. -/
import Derived.Test.YtbmbnkoggmeanaaLex
import Derived.Test.YtbmbnkoggmeanaaByt
import Derived.Test.YtbmbnkoggmeanaaShapes
import Derived.Test.YtbmbnkoggmeanaaQValsx
namespace Go.Proofs.Ytbmbnkoggmeanaa.ValsP
open Go.RowKit Go.Proofs.Ytbmbnkoggmeanaa.Lex Go.Proofs.Ytbmbnkoggmeanaa.Opn Go.Proofs.Ytbmbnkoggmeanaa.QVals Go.Proofs.YtbmbnkoggmeanaaW.PrintWords Go.Proofs.YtbmbnkoggmeanaaW.PrintLast Go.Proofs.YtbmbnkoggmeanaaW.PrintMore
set_option linter.unusedVariables false
set_option linter.unusedSimpArgs false
theorem byte_inj {a b : Int} (ha : 0 ≤ a ∧ a < 256) (hb : 0 ≤ b ∧ b < 256) (h : UInt8.ofNat a.toNat = UInt8.ofNat b.toNat) : a = b := by
  have := congrArg UInt8.toNat h
  simp only [UInt8.toNat_ofNat'] at this
  omega
theorem str_inj : ∀ {l m : List Int}, (∀ x ∈ l, 0 ≤ x ∧ x < 256) → (∀ x ∈ m, 0 ≤ x ∧ x < 256) → (l.map fun n => UInt8.ofNat n.toNat) = (m.map fun n => UInt8.ofNat n.toNat) → l = m
  | [], [], _, _, _ => rfl
  | [], _ :: _, _, _, h => by simp at h
  | _ :: _, [], _, _, h => by simp at h
  | a :: l, b :: m, hl, hm, h => by
    simp only [List.map_cons, List.cons.injEq] at h
    rw [byte_inj (hl a (List.mem_cons_self ..)) (hm b (List.mem_cons_self ..)) h.1, str_inj (fun x hx => hl x (List.mem_cons_of_mem _ hx)) (fun x hx => hm x (List.mem_cons_of_mem _ hx)) h.2]
theorem toList_data (s : ByteArray) : s.toList = s.data.toList := Byt.toList_eq s
theorem str_eq {l m : List Int} (hl : ∀ x ∈ l, 0 ≤ x ∧ x < 256) (hm : ∀ x ∈ m, 0 ≤ x ∧ x < 256) : ((strOfNums l).toList == (strOfNums m).toList) = decide (l = m) := by
  rw [toList_data, toList_data, strOfNums_data, strOfNums_data]
  by_cases h : l = m
  · subst h; simp
  · rw [decide_eq_false h]
    exact beq_eq_false_iff_ne.2 (fun e => h (str_inj hl hm e))
def sameV (h : Bool) (l : List Int) (h' : Bool) (m : List Int) : Bool := if h = true then (if h' = true then decide (l = m) else false) else !h'
theorem same_f (h : Bool) (l : List Int) (h' : Bool) (m : List Int) (hl : ∀ x ∈ l, 0 ≤ x ∧ x < 256) (hm : ∀ x ∈ m, 0 ≤ x ∧ x < 256) : tags_SameVal.f h l h' m = some (sameV h l h' m) := by
  unfold tags_SameVal.f sameV
  rw [str_eq hl hm]
  cases h <;> cases h' <;> simp
theorem w_succ (i : Nat) (h : i < 9223372036854775807) : wrap64 ((i : Int) + 1) = ((i + 1 : Nat) : Int) := by unfold wrap64; omega
theorem rsame_l0 (h h' : Bool) (l m : List Int) (hlm : l.length = m.length) (hb : l.length < 9223372036854775807) : ∀ (n i : Nat), l.length - i = n → i ≤ l.length → Since (fun k => icehouseref03_SameVal.l0 k (i : Int) h l h' m) (decide (l.drop i = m.drop i)) := by
  intro n
  induction n with
  | zero =>
    intro i hn hi
    rw [List.drop_eq_nil_of_le (show l.length ≤ i by omega), List.drop_eq_nil_of_le (show m.length ≤ i by omega)]
    have hf : ¬ ((i : Int) < (l.length : Int)) := by omega
    exact Since.none fun k => by simp only [icehouseref03_SameVal.l0, if_neg hf]; simp
  | succ n ih =>
    intro i hn hi
    have h1 : i < l.length := by omega
    have h2 : i < m.length := by omega
    have f1 : (i : Int) < (l.length : Int) := by omega
    have f2 : (i : Int) < (m.length : Int) := by omega
    have f0 : (0 : Int) ≤ (i : Int) := by omega
    have r1 : rd l (i : Int) = l[i] := by simp [rd, h1]
    have r2 : rd m (i : Int) = m[i] := by simp [rd, h2]
    refine Since.one (ih (i + 1) (by omega) (by omega)) fun k hr => ?_
    simp only [icehouseref03_SameVal.l0, if_pos f1, if_pos f0, if_pos f2, r1, r2, w_succ i (by omega)]
    have d1 := List.drop_eq_getElem_cons h1
    have d2 := List.drop_eq_getElem_cons h2
    by_cases he : l[i] = m[i]
    · rw [if_pos he, hr, d1, d2]
      congr 1
      rw [decide_eq_decide, List.cons.injEq]
      exact ⟨fun h => ⟨he, h⟩, fun h => h.2⟩
    · rw [if_neg he, d1, d2]
      congr 1
      exact (decide_eq_false (fun h => he (List.cons.inj h).1)).symm
theorem rsame_ev (h h' : Bool) (l m : List Int) (hb : l.length < 9223372036854775807) : Since (fun k => icehouseref03_SameVal.f k h l h' m) (sameV h l h' m) := by
  by_cases hlm : l.length = m.length
  · refine (rsame_l0 h h' l m hlm hb _ 0 rfl (Nat.zero_le _)).map fun k hr => ?_
    rw [List.drop_zero, List.drop_zero] at hr
    unfold icehouseref03_SameVal.f sameV
    have e : (l.length : Int) = (m.length : Int) := by omega
    cases h <;> cases h' <;> simp [e]
    exact hr
  · refine ⟨0, fun k _ => ?_⟩
    unfold icehouseref03_SameVal.f sameV
    have e : ¬ ((l.length : Int) = (m.length : Int)) := by omega
    have e2 : l ≠ m := by rintro rfl; exact hlm rfl
    cases h <;> cases h' <;> simp [e, e2]
theorem law_j0 (s : ByteArray) (b : Bool) (h : Bool) (l : List Int) (h' : Bool) (m : List Int) (x y z : Int) (hl : ∀ x ∈ l, 0 ≤ x ∧ x < 256) (hm : ∀ x ∈ m, 0 ≤ x ∧ x < 256) (hb : l.length < 9223372036854775807) :
    Since (fun k => icehouselaw03_TagsVals.j0 k s b h l h' m x y z) true := by
  cases b with
  | true => exact Since.none fun k => by simp [icehouselaw03_TagsVals.j0, Fk.known.f]
  | false =>
    refine Since.one (rsame_ev h h' l m hb) fun k hr => ?_
    have e1 : tags_Same.f s x y z h l s x y z h' m = some (sameV h l h' m) := by
      unfold tags_Same.f
      rw [if_pos rfl, if_pos (by simp), same_f h l h' m hl hm, Option.bind_some]
    have e2 : tags_Size.f s x y z h l = some (wrap64 ((s.size : Int) + (l.length : Int))) := rfl
    rw [icehouselaw03_TagsVals.j0, if_neg Bool.false_ne_true, same_f h l h' m hl hm, hr, Option.bind_some, Option.bind_some, if_pos (beq_self_eq_true _), e1, Option.bind_some, if_pos (beq_self_eq_true _), e2, Option.bind_some, if_pos rfl]
    rfl
theorem law_ev (h : Bool) (l : List Int) (h' : Bool) (m : List Int) (s : ByteArray) (x y z : Int) (hl : ∀ x ∈ l, 0 ≤ x ∧ x < 256) (hm : ∀ x ∈ m, 0 ≤ x ∧ x < 256) (hb : l.length < 9223372036854775807) :
    Since (fun k => icehouselaw03_TagsVals.f k h l h' m s x y z) true := by
  by_cases h1 : (l.length : Int) > 500
  · exact (law_j0 s true h l h' m x y z hl hm hb).map fun k hr => by simp only [icehouselaw03_TagsVals.f, if_pos h1]; exact hr
  · by_cases h2 : (m.length : Int) > 500
    · exact (law_j0 s true h l h' m x y z hl hm hb).map fun k hr => by simp only [icehouselaw03_TagsVals.f, if_neg h1, if_pos h2]; exact hr
    · exact (law_j0 s (decide ((s.size : Int) > 300)) h l h' m x y z hl hm hb).map fun k hr => by simp only [icehouselaw03_TagsVals.f, if_neg h1, if_neg h2]; exact hr
theorem u8_range {x : Int} (h : (Lit.int .u8 x).wf = true) : 0 ≤ x ∧ x < 256 := by
  have h2 : 0 ≤ x ∧ x ≤ 255 := by simpa [Lit.wf, IntKind.min, IntKind.max, IntKind.bits, IntKind.signed] using h
  omega
theorem wb {l : List Int} (h : wBytes l) : ∀ x ∈ l, 0 ≤ x ∧ x < 256 := by
  intro x hx
  have := h.2.2 x hx
  exact u8_range this
theorem tagsVals (w : World) (cs0 : Array Value) (a0 : Bool × List Int) (K0 : kVal.K w a0 cs0.toList) (wf0 : wVal a0) (cs1 : Array Value) (a1 : Bool × List Int) (K1 : kVal.K w a1 cs1.toList) (wf1 : wVal a1) (s : ByteArray) {p : Prop} (ws : p)
    (cs3 : Array Value) (a3 : Int × Int × Int) (K3 : kTag.K w a3 cs3.toList) (wf3 : wTag a3) :
    Calls Try.prog 8 #[.agg cs0, .agg cs1, .string s, .agg cs3] w fun e w' => e = .returned (.bool true) ∧ Below w.heap.size w w' := by
  obtain ⟨A0, c0, e0, hc0, C0⟩ := val_cells K0
  obtain ⟨A1, c1, e1, hc1, C1⟩ := val_cells K1
  have e3 := tag_cells K3
  obtain ⟨K, h⟩ := law_ev a0.1 a0.2 a1.1 a1.2 s a3.1 a3.2.1 a3.2.2 (wb wf0.2) (wb wf1.2) (by have := wf0.2.2.1; omega)
  rw [show cs0 = #[.bool a0.1, .slice A0 a0.2.length c0] from by rw [← Array.toList_inj, e0], show cs1 = #[.bool a1.1, .slice A1 a1.2.length c1] from by rw [← Array.toList_inj, e1], show cs3 = #[.int .i64 a3.1, .int .i64 a3.2.1, .int .i64 a3.2.2] from by rw [← Array.toList_inj, e3]]
  exact icehouselaw03_TagsVals.calls K a0.1 A0 c0 a0.2 a1.1 A1 c1 a1.2 s a3.1 a3.2.1 a3.2.2 true w C0 hc0 C1 hc1 (h K (Nat.le_refl K))
end Go.Proofs.Ytbmbnkoggmeanaa.ValsP
