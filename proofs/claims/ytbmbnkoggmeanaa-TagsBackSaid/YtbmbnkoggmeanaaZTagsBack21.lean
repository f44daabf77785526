/- The contracts of long, SameVal, Same and Size, and of the reference's, by what they tell. Conditions: bytes are bytes. · The bytes of a string in a new row, and the bytes of an entry, plain. Conditions: none. -/
import Derived.Test.YtbmbnkoggmeanaaZTagsBack17
import Derived.Test.YtbmbnkoggmeanaaZTagsBack20
import Derived.Lib.ConvBytes
namespace Go.Proofs.Ytbmbnkoggmeanaa.Tg
open Go.ChangeShapes Go.WideShapes Go.ChangeAt Go.RowKit Go.Proofs.Ytbmbnkoggmeanaa.Pk Go.Proofs.Ytbmbnkoggmeanaa.EncC
open Go.Proofs.Ytbmbnkoggmeanaa.Hlp Go.Proofs.Ytbmbnkoggmeanaa.Wrd Go.Proofs.YtbmbnkoggmeanaaW.PrintWords Go.Proofs.YtbmbnkoggmeanaaW.PrintLast Go.Proofs.YtbmbnkoggmeanaaW.PrintMore
set_option linter.unusedVariables false
set_option linter.unusedSimpArgs false
def longB (k : ByteArray) (v : List Int) : Bool := if 400 < k.size then true else decide (1000 < v.length)
theorem long_c {w : World} {A : Option Addr} {n d : Nat} {v : List Int} (k : ByteArray) (a b c : Int) (h : Bool) {r : Bool} (hq : longB k v = r) (hr : Kd.C (Kd.int .u8) w A n v) (hc : n ≤ d) :
    Calls Try.prog 34 #[.agg #[.string k, .int .i64 a, .int .i64 b, .int .i64 c, .bool h, .slice A n d]] w fun e w' => e = .returned (.bool r) ∧ Below w.heap.size w w' := by
  obtain rfl : v.length = n := hr.1
  subst hq
  refine QR.icehouselaw03_long.calls k a b c h A d v _ w hr hc ?_
  unfold QR.icehouselaw03_long.f longB
  by_cases h1 : 400 < k.size
  · rw [if_pos (show (k.size : Int) > 400 by omega), if_pos h1]
  · rw [if_neg (show ¬ (k.size : Int) > 400 by omega), if_neg h1]
    congr 1
    exact decide_eq_decide.2 (by omega)
def sameV (h : Bool) (l : List Int) (h' : Bool) (m : List Int) : Bool := if h = true then (if h' = true then decide (l = m) else false) else !h'
theorem str_eq {l m : List Int} (hl : ∀ x ∈ l, 0 ≤ x ∧ x < 256) (hm : ∀ x ∈ m, 0 ≤ x ∧ x < 256) : ((strOfNums l).toList == (strOfNums m).toList) = decide (l = m) := by
  by_cases h : l = m
  · subst h; simp
  · rw [decide_eq_false h]
    exact beq_eq_false_iff_ne.2 (fun e => h (nums_inj hl hm e))
theorem same_f (h : Bool) (l : List Int) (h' : Bool) (m : List Int) (hl : ∀ x ∈ l, 0 ≤ x ∧ x < 256) (hm : ∀ x ∈ m, 0 ≤ x ∧ x < 256) : QR.tags_SameVal.f h l h' m = some (sameV h l h' m) := by
  unfold QR.tags_SameVal.f sameV
  rw [str_eq hl hm]
  cases h <;> cases h' <;> simp
theorem w_succ (i : Nat) (h : i < 9223372036854775807) : wrap64 ((i : Int) + 1) = ((i + 1 : Nat) : Int) := by unfold wrap64; omega
open Go.Proofs.Ytbmbnkoggmeanaa.Lex in
theorem rsame_l0 (h h' : Bool) (l m : List Int) (hlm : l.length = m.length) (hb : l.length < 9223372036854775807) : ∀ (n i : Nat), l.length - i = n → i ≤ l.length → Since (fun k => QR.icehouseref03_SameVal.l0 k (i : Int) h l h' m) (decide (l.drop i = m.drop i)) := by
  intro n
  induction n with
  | zero =>
    intro i hn hi
    rw [List.drop_eq_nil_of_le (show l.length ≤ i by omega), List.drop_eq_nil_of_le (show m.length ≤ i by omega)]
    have hf : ¬ ((i : Int) < (l.length : Int)) := by omega
    exact Since.none fun k => by simp only [QR.icehouseref03_SameVal.l0, if_neg hf]; simp
  | succ n ih =>
    intro i hn hi
    have h1 : i < l.length := by omega
    have h2 : i < m.length := by omega
    have f1 : (i : Int) < (l.length : Int) := by omega
    have f2 : (i : Int) < (m.length : Int) := by omega
    have f0 : (0 : Int) ≤ (i : Int) := by omega
    have r1 : rd l (i : Int) = l[i] := by simp [rd, h1]
    have r2 : rd m (i : Int) = m[i] := by simp [rd, h2]
    refine Since.one (ih (i + 1) (by omega) (by omega)) fun k hr => ?_
    simp only [QR.icehouseref03_SameVal.l0, if_pos f1, if_pos f0, if_pos f2, r1, r2, w_succ i (by omega)]
    have d1 := List.drop_eq_getElem_cons h1
    have d2 := List.drop_eq_getElem_cons h2
    by_cases he : l[i] = m[i]
    · rw [if_pos he, hr, d1, d2]
      congr 1
      rw [decide_eq_decide, List.cons.injEq]
      exact ⟨fun h => ⟨he, h⟩, fun h => h.2⟩
    · rw [if_neg he, d1, d2]
      congr 1
      exact (decide_eq_false (fun h => he (List.cons.inj h).1)).symm
open Go.Proofs.Ytbmbnkoggmeanaa.Lex in
theorem rsame_ev (h h' : Bool) (l m : List Int) (hb : l.length < 9223372036854775807) : Since (fun k => QR.icehouseref03_SameVal.f k h l h' m) (sameV h l h' m) := by
  by_cases hlm : l.length = m.length
  · refine (rsame_l0 h h' l m hlm hb _ 0 rfl (Nat.zero_le _)).map fun k hr => ?_
    rw [List.drop_zero, List.drop_zero] at hr
    unfold QR.icehouseref03_SameVal.f sameV
    have e : (l.length : Int) = (m.length : Int) := by omega
    cases h <;> cases h' <;> simp [e]
    exact hr
  · refine ⟨0, fun k _ => ?_⟩
    unfold QR.icehouseref03_SameVal.f sameV
    have e : ¬ ((l.length : Int) = (m.length : Int)) := by omega
    have e2 : l ≠ m := by rintro rfl; exact hlm rfl
    cases h <;> cases h' <;> simp [e, e2]
/-- are two entries the same -/
def sameE (k : ByteArray) (a b c : Int) (h : Bool) (v : List Int) (k' : ByteArray) (a' b' c' : Int) (h' : Bool) (v' : List Int) : Bool :=
  if k.toList = k'.toList then (if (a == a' && (b == b' && (c == c'))) = true then sameV h v h' v' else false) else false
theorem sameE_self (k : ByteArray) (a b c : Int) (h : Bool) (v : List Int) : sameE k a b c h v k a b c h v = true := by
  unfold sameE sameV; cases h <;> simp
section
variable {w : World} {A A' : Option Addr} {n n' d d' : Nat} {v v' : List Int}
theorem sv_c (h h' : Bool) {r : Bool} (hq : sameV h v h' v' = r) (hl : ∀ x ∈ v, 0 ≤ x ∧ x < 256) (hm : ∀ x ∈ v', 0 ≤ x ∧ x < 256) (hr : Kd.C (Kd.int .u8) w A n v) (hc : n ≤ d) (hr' : Kd.C (Kd.int .u8) w A' n' v') (hc' : n' ≤ d') :
    Calls Try.prog 30 #[.agg #[.bool h, .slice A n d], .agg #[.bool h', .slice A' n' d']] w fun e w' => e = .returned (.bool r) ∧ Below w.heap.size w w' := by
  obtain rfl : v.length = n := hr.1
  obtain rfl : v'.length = n' := hr'.1
  subst hq
  refine (QR.tags_SameVal.calls h A d v h' A' d' v' _ w hr hc hr' hc' (same_f h v h' v' hl hm)).mono ?_
  rintro e w1 ⟨rfl, hb⟩
  exact ⟨rfl, by first | exact hb | exact hb.below⟩
theorem rsv_c (h h' : Bool) {r : Bool} (hq : sameV h v h' v' = r) (hr : Kd.C (Kd.int .u8) w A n v) (hc : n ≤ d) (hr' : Kd.C (Kd.int .u8) w A' n' v') (hc' : n' ≤ d') (hl : n ≤ 140737488351232) :
    Calls Try.prog 31 #[.agg #[.bool h, .slice A n d], .agg #[.bool h', .slice A' n' d']] w fun e w' => e = .returned (.bool r) ∧ Below w.heap.size w w' := by
  obtain rfl : v.length = n := hr.1
  obtain rfl : v'.length = n' := hr'.1
  subst hq
  obtain ⟨K, hK⟩ := rsame_ev h h' v v' (by omega)
  refine (QR.icehouseref03_SameVal.calls K h A d v h' A' d' v' _ w hr hc hr' hc' (hK K (Nat.le_refl K))).mono ?_
  rintro e w1 ⟨rfl, hb⟩
  exact ⟨rfl, by first | exact hb | exact hb.below⟩
theorem se_c (k : ByteArray) (a b c : Int) (h : Bool) (k' : ByteArray) (a' b' c' : Int) (h' : Bool) {r : Bool} (hq : sameE k a b c h v k' a' b' c' h' v' = r) (hl : ∀ x ∈ v, 0 ≤ x ∧ x < 256) (hm : ∀ x ∈ v', 0 ≤ x ∧ x < 256) (hr : Kd.C (Kd.int .u8) w A n v) (hc : n ≤ d) (hr' : Kd.C (Kd.int .u8) w A' n' v') (hc' : n' ≤ d') :
    Calls Try.prog 32 #[.agg #[.string k, .int .i64 a, .int .i64 b, .int .i64 c, .bool h, .slice A n d], .agg #[.string k', .int .i64 a', .int .i64 b', .int .i64 c', .bool h', .slice A' n' d']] w fun e w' => e = .returned (.bool r) ∧ Below w.heap.size w w' := by
  obtain rfl : v.length = n := hr.1
  obtain rfl : v'.length = n' := hr'.1
  subst hq
  refine QR.tags_Same.calls k a b c h A d v k' a' b' c' h' A' d' v' _ w hr hc hr' hc' ?_
  unfold QR.tags_Same.f sameE
  rw [same_f h v h' v' hl hm, Option.bind_some]
  split <;> (try split) <;> rfl
theorem rse_c (k : ByteArray) (a b c : Int) (h : Bool) (k' : ByteArray) (a' b' c' : Int) (h' : Bool) {r : Bool} (hq : sameE k a b c h v k' a' b' c' h' v' = r) (hr : Kd.C (Kd.int .u8) w A n v) (hc : n ≤ d) (hr' : Kd.C (Kd.int .u8) w A' n' v') (hc' : n' ≤ d') (hl : n ≤ 140737488351232) :
    Calls Try.prog 25 #[.agg #[.string k, .int .i64 a, .int .i64 b, .int .i64 c, .bool h, .slice A n d], .agg #[.string k', .int .i64 a', .int .i64 b', .int .i64 c', .bool h', .slice A' n' d']] w fun e w' => e = .returned (.bool r) ∧ Below w.heap.size w w' := by
  obtain rfl : v.length = n := hr.1
  obtain rfl : v'.length = n' := hr'.1
  subst hq
  obtain ⟨K, hK⟩ := rsame_ev h h' v v' (by omega)
  refine QR.icehouseref03_Same.calls K k a b c h A d v k' a' b' c' h' A' d' v' _ w hr hc hr' hc' ?_
  have hK' : QR.icehouseref03_SameVal.f K h v h' v' = some (sameV h v h' v') := hK K (Nat.le_refl K)
  unfold QR.icehouseref03_Same.f sameE
  rw [hK', Option.bind_some]
  split <;> (try split) <;> rfl
theorem copyb_c (hr : Kd.C (Kd.int .u8) w A n v) (hc : n ≤ d) (hl : n ≤ 140737488351232) :
    Calls Try.prog 38 #[.slice A n d] w (Made w v) := by
  obtain rfl : v.length = n := hr.1
  refine QR.icehouseref00_Copy.calls A d v v w hr hc ?_
  unfold QR.icehouseref00_Copy.f
  rw [if_pos (by simp; omega)]; rfl
end
end Go.Proofs.Ytbmbnkoggmeanaa.Tg

namespace Go.Proofs.Ytbmbnkoggmeanaa.Tg
open Go.ChangeShapes Go.WideShapes Go.ChangeAt Go.RowKit Go.Proofs.Ytbmbnkoggmeanaa.Pk Go.Proofs.Ytbmbnkoggmeanaa.EncC Go.Proofs.Ytbmbnkoggmeanaa.EncP Go.Proofs.Ytbmbnkoggmeanaa.Enc
open Go.Proofs.Ytbmbnkoggmeanaa.Hlp Go.Proofs.Ytbmbnkoggmeanaa.Wrd Go.Proofs.YtbmbnkoggmeanaaW.PrintWords Go.Proofs.YtbmbnkoggmeanaaW.PrintLast Go.Proofs.YtbmbnkoggmeanaaW.PrintMore
set_option linter.unusedVariables false
set_option linter.unusedSimpArgs false
/-- the bytes of a string -/
def bytesOf (s : ByteArray) : List Int := s.data.toList.map fun b : UInt8 => (b.toNat : Int)
theorem bytesOf_len (s : ByteArray) : (bytesOf s).length = s.size := by unfold bytesOf; rw [List.length_map, Array.length_toList]; rfl
theorem bytesOf_range (s : ByteArray) : ∀ x ∈ bytesOf s, 0 ≤ x ∧ x < 256 := by
  intro x hx
  unfold bytesOf at hx
  obtain ⟨b, _, rfl⟩ := List.mem_map.1 hx
  have := b.toNat_lt
  omega
theorem below_bytesWorld (w : World) (s : ByteArray) : Below w.heap.size w (Go.Lib.bytesWorld w 5 s) where
  os := rfl
  tape := rfl
  output := rfl
  size := by rw [Go.Lib.bytesWorld_size]; omega
  block := fun k hk => Go.Lib.bytesWorld_at_old w 5 s k hk
theorem conv_ex (w : World) (s : ByteArray) (hs : s.size ≤ 9223372036854775807) : ∃ c w', (Go.convert 9 36 (.string s)).run Try.prog w = .ok (.slice (some ⟨w.heap.size, 0, none⟩) s.size c) w' ∧ s.size ≤ c ∧ Below w.heap.size w w' ∧ Kd.C (Kd.int .u8) w' (some ⟨w.heap.size, 0, none⟩) s.size (bytesOf s) := by
  refine ⟨_, _, Go.Lib.run_convert_string_bytes w 9 36 5 s Try.underlying9 Try.underlying36 Try.underlying5, grownCap_ge _ _ _ _, below_bytesWorld w s, ?_⟩
  have h := C_mk (enc := Value.int .u8) (h1 := fun _ => rfl) (w := Go.Lib.bytesWorld w 5 s) (b := w.heap.size) (off := 0) (xs := bytesOf s) (by rw [bytesOf_len]; exact hs) (fun k hk => by
    rw [bytesOf_len] at hk
    rw [Nat.zero_add, Go.Lib.bytesWorld_cell w 5 s k hk]
    congr 2
    have hk2 : k < s.data.toList.length := by rw [Array.length_toList]; exact hk
    simp only [bytesOf, List.getElem_map, List.getD, List.getElem?_eq_getElem hk2, Option.getD_some])
  rw [bytesOf_len] at h
  exact h
theorem rowB_len {l : List Int} : (rowB l).length ≤ l.length + 9 := by
  unfold rowB
  rw [List.length_append]
  have := numB_len (l.length : Int)
  omega
def entB (k : ByteArray) (a b c : Int) (h : Bool) (v : List Int) : List Int := rowB (bytesOf k) ++ (numB a ++ (numB b ++ (numB c ++ (truthB h ++ (if h = true then rowB v else [])))))
/-- an entry's bytes, and what is wrong -/
def bytesV (k : ByteArray) (a b c : Int) (h : Bool) (v : List Int) : List Int × Int := if okEnt k a b c h v then (entB k a b c h v, 0) else ([], 2)
def catB (l : List Int) : List Int := (l.map numB).flatten
theorem catB_snoc (l : List Int) (x : Int) : catB (l ++ [x]) = catB l ++ numB x := by unfold catB; simp
theorem catB_len (l : List Int) : (catB l).length ≤ 9 * l.length := by
  induction l with
  | nil => simp [catB]
  | cons x l ih =>
    have := numB_len x
    have e : catB (x :: l) = numB x ++ catB l := rfl
    rw [e, List.length_append, List.length_cons]; omega
theorem apart {α : Type} {d : Kd α} {e T : Nat} {w : World} {base bx : Nat} {ok : Nat → Prop} {v : Value} {xs : List α} {cs : Array Value} (h : d.R e w base ok v xs) (hx : w.heap[bx]? = some (.cells cs T (0, 0))) (hne : T ≠ e) : some bx ≠ v.ownBlock := by
  intro hk
  obtain ⟨cells, hc⟩ := own_typed (Kd.R_own h).choose_spec bx hk.symm
  rw [hx] at hc
  injection hc with hc
  injection hc with _ h2
  exact hne h2
/-- a block of another type behind an append to a row of one's own -/
theorem blk_apart {α : Type} {d : Kd α} {e T : Nat} {w w1 : World} {base bx : Nat} {ok : Nat → Prop} {v : Value} {xs : List α} {cs : Array Value} (h : d.R e w base ok v xs) (hx : w.heap[bx]? = some (.cells cs T (0, 0))) (hne : T ≠ e) (hg : w.grownBy w1 v.ownBlock) : w1.heap[bx]? = some (.cells cs T (0, 0)) :=
  (hg.block _ (blk_lt hx) (apart h hx hne)).trans hx
end Go.Proofs.Ytbmbnkoggmeanaa.Tg
