/- The contracts of pack.Num, pack.Row, pack.Truth, icehouseref02.Num, icehouseref02.Row and icehouseref00.Same, by what they compute. Conditions: numbers of 64 bits, rows that fit. · The contracts of long, SameVal, Same and Size, and of the reference's, by what they tell. Conditions: bytes are bytes. · The bytes of a string in a new row, and the bytes of an entry, plain. Conditions: none. · The contract of tags.Bytes. Conditions: an entry that fits in memory. · What the reader's peek tells of a number's bytes ahead of any bytes. Conditions: numbers of 64 bits. · What the reader reads of fields laid one behind the other: whole, cut short, and back. Plain. Conditions: bytes. · An entry's bytes are read as it was; cut short, or with any behind, they are none; what is read has these bytes. Plain. Conditions: bytes. · Written by a program of this session over the kit's print: functions and their contracts. · What a kind of messages has: the table of the program, and the contract of msgs.Has. Conditions: the table's variable holds what the program's text lays. · The contract of msgs.right: are all entries of a list such as may be? Conditions: none. · What messages may be, plain; the contracts of within, ring.Check, none, and of tags.Same with an empty entry. Conditions: bytes are bytes. -/
import Derived.Test.YthaoiamgkpkcbaaDoorYMsgsReads9
import Derived.Test.YthaoiamgkpkcbaaDoorYMsgsReads4
import Derived.Test.YthaoiamgkpkcbaaDoorYMsgsReads12
import Derived.Lib.ConvBytes
import Derived.Test.YthaoiamgkpkcbaaDoorYMsgsReads6
import Derived.Test.YthaoiamgkpkcbaaDoorYMsgsReads10
import Derived.Outline
import Derived.WalkMore

namespace Go.Proofs.YthaoiamgkpkcbaaDoor.EncC
open Go Go.RowKit Go.Proofs.YthaoiamgkpkcbaaDoor.Wrd Go.Proofs.YthaoiamgkpkcbaaDoor.Enc Go.Proofs.YthaoiamgkpkcbaaDoor.EncP Go.Proofs.YthaoiamgkpkcbaaDoor.QR Go.Proofs.YthaoiamgkpkcbaaDoor.Hlp
open Go.Proofs.YthaoiamgkpkcbaaDoorW.PrintWords Go.Proofs.YthaoiamgkpkcbaaDoorW.PrintLast Go.Proofs.YthaoiamgkpkcbaaDoorW.PrintMore
set_option linter.unusedVariables false
set_option linter.unusedSimpArgs false
theorem loop_eq (s : ByteArray) : ∀ (d i : Nat) (r : List UInt8), i + d = s.size → ByteArray.toList.loop s i r = r.reverse ++ s.data.toList.drop i
  | 0, i, r, h => by
    have hs : s.size = s.data.toList.length := by rw [Array.length_toList]; rfl
    unfold ByteArray.toList.loop
    rw [if_neg (by omega), List.drop_eq_nil_of_le (by omega)]
    simp
  | d + 1, i, r, h => by
    have hs : s.size = s.data.toList.length := by rw [Array.length_toList]; rfl
    have hi : i < s.data.toList.length := by omega
    unfold ByteArray.toList.loop
    rw [if_pos (by omega), loop_eq s d (i + 1) _ (by omega), List.drop_eq_getElem_cons hi]
    have h2 : i < s.data.size := by simpa using hi
    have : s.get! i = s.data.toList[i] := by
      show s.data[i]! = _
      rw [getElem!_pos s.data i h2]
      simp
    rw [this]
    simp
theorem toList_eq (s : ByteArray) : s.toList = s.data.toList := by
  unfold ByteArray.toList
  rw [loop_eq s s.size 0 [] (by omega)]
  simp
theorem nums_inj : ∀ {a b : List Int}, (∀ x ∈ a, 0 ≤ x ∧ x < 256) → (∀ x ∈ b, 0 ≤ x ∧ x < 256) → (strOfNums a).toList = (strOfNums b).toList → a = b := by
  intro a b ha hb h
  rw [toList_eq, toList_eq, strOfNums_data, strOfNums_data] at h
  have key : ∀ l : List Int, (∀ x ∈ l, 0 ≤ x ∧ x < 256) → (l.map fun n => UInt8.ofNat n.toNat).map (fun c => (c.toNat : Int)) = l := by
    intro l hl
    rw [List.map_map]
    conv => rhs; rw [← List.map_id l]
    refine List.map_congr_left fun x hx => ?_
    obtain ⟨h0, h1⟩ := hl x hx
    simp
    omega
  rw [← key a ha, ← key b hb, h]
/-- a row of its own that a call hands back -/
def Made (w : World) (l : List Int) (e : Ending) (w' : World) : Prop := ∃ v, e = .returned v ∧ Kd.R (Kd.int .u8) 5 w' w.heap.size (fun _ => True) v l ∧ Below w.heap.size w w'
/-- .. beside a number -/
def Made2 (w : World) (l : List Int) (x : Int) (e : Ending) (w' : World) : Prop := ∃ v, e = .returned (.tuple #[v, .int .i64 x]) ∧ Kd.R (Kd.int .u8) 5 w' w.heap.size (fun _ => True) v l ∧ Below w.heap.size w w'
theorem num_c (n : Int) (w : World) : Calls Tryd.prog 29 #[.int .i64 n] w (Made w (numB n)) := pack_Num.calls 9 n _ w (num_f n)
theorem row_c {w : World} {A : Option Addr} {n c : Nat} {l : List Int} (hr : Kd.C (Kd.int .u8) w A n l) (hc : n ≤ c) (hl : n ≤ 65536) : Calls Tryd.prog 59 #[.slice A n c] w (Made2 w (rowB l) 0) := by
  obtain rfl : l.length = n := hr.1
  exact pack_Row.calls 9 _ _ l _ _ w hr hc (row_f l hl)
theorem truth_c (t : Bool) (w : World) : Calls Tryd.prog 32 #[.bool t] w (Made w (truthB t)) := pack_Truth.calls t _ w (truth_f t)
theorem same_c {w : World} {A B : Option Addr} {n c m d : Nat} {l : List Int} (h1 : Kd.C (Kd.int .u8) w A n l) (hc : n ≤ c) (h2 : Kd.C (Kd.int .u8) w B m l) (hd : m ≤ d) :
    Calls Tryd.prog 14 #[.slice A n c, .slice B m d] w fun e w' => e = .returned (.bool true) ∧ Drawn0 w w' := by
  obtain rfl : l.length = n := h1.1
  obtain rfl : l.length = m := h2.1
  exact icehouseref00_Same.calls _ _ l _ _ l true w h1 hc h2 hd (same_f l)
theorem C_blki {k : IntKind} {w : World} {g : Nat} {e : TypeId} {fr : Nat × Nat} {cs : Array Value} (xs : List Int) (h : w.heap[g]? = some (.cells cs e fr)) (hm : cs.size ≤ 9223372036854775807) (hcs : cs.toList = xs.map (Value.int k)) :
    Kd.C (Kd.int k) w (some ⟨g, 0, none⟩) cs.size xs := by
  have hl : cs.size = xs.length := by rw [← Array.length_toList, hcs, List.length_map]
  rw [hl] at hm ⊢
  exact C_blk hm h hcs
end Go.Proofs.YthaoiamgkpkcbaaDoor.EncC
namespace Go.Proofs.YthaoiamgkpkcbaaDoor.Tg
open Go.ChangeShapes Go.WideShapes Go.ChangeAt Go.RowKit Go.Proofs.YthaoiamgkpkcbaaDoor.Pk Go.Proofs.YthaoiamgkpkcbaaDoor.EncC
open Go.Proofs.YthaoiamgkpkcbaaDoor.Hlp Go.Proofs.YthaoiamgkpkcbaaDoor.Wrd Go.Proofs.YthaoiamgkpkcbaaDoorW.PrintWords Go.Proofs.YthaoiamgkpkcbaaDoorW.PrintLast Go.Proofs.YthaoiamgkpkcbaaDoorW.PrintMore
set_option linter.unusedVariables false
set_option linter.unusedSimpArgs false
def sameV (h : Bool) (l : List Int) (h' : Bool) (m : List Int) : Bool := if h = true then (if h' = true then decide (l = m) else false) else !h'
theorem str_eq {l m : List Int} (hl : ∀ x ∈ l, 0 ≤ x ∧ x < 256) (hm : ∀ x ∈ m, 0 ≤ x ∧ x < 256) : ((strOfNums l).toList == (strOfNums m).toList) = decide (l = m) := by
  by_cases h : l = m
  · subst h; simp
  · rw [decide_eq_false h]
    exact beq_eq_false_iff_ne.2 (fun e => h (nums_inj hl hm e))
theorem same_f (h : Bool) (l : List Int) (h' : Bool) (m : List Int) (hl : ∀ x ∈ l, 0 ≤ x ∧ x < 256) (hm : ∀ x ∈ m, 0 ≤ x ∧ x < 256) : QR.tags_SameVal.f h l h' m = some (sameV h l h' m) := by
  unfold QR.tags_SameVal.f sameV
  rw [str_eq hl hm]
  cases h <;> cases h' <;> simp
theorem w_succ (i : Nat) (h : i < 9223372036854775807) : wrap64 ((i : Int) + 1) = ((i + 1 : Nat) : Int) := by unfold wrap64; omega
/-- are two entries the same -/
def sameE (k : ByteArray) (a b c : Int) (h : Bool) (v : List Int) (k' : ByteArray) (a' b' c' : Int) (h' : Bool) (v' : List Int) : Bool :=
  if k.toList = k'.toList then (if (a == a' && (b == b' && (c == c'))) = true then sameV h v h' v' else false) else false
theorem sameE_self (k : ByteArray) (a b c : Int) (h : Bool) (v : List Int) : sameE k a b c h v k a b c h v = true := by
  unfold sameE sameV; cases h <;> simp
section
variable {w : World} {A A' : Option Addr} {n n' d d' : Nat} {v v' : List Int}
theorem se_c (k : ByteArray) (a b c : Int) (h : Bool) (k' : ByteArray) (a' b' c' : Int) (h' : Bool) {r : Bool} (hq : sameE k a b c h v k' a' b' c' h' v' = r) (hl : ∀ x ∈ v, 0 ≤ x ∧ x < 256) (hm : ∀ x ∈ v', 0 ≤ x ∧ x < 256) (hr : Kd.C (Kd.int .u8) w A n v) (hc : n ≤ d) (hr' : Kd.C (Kd.int .u8) w A' n' v') (hc' : n' ≤ d') :
    Calls Tryd.prog 39 #[.agg #[.string k, .int .i64 a, .int .i64 b, .int .i64 c, .bool h, .slice A n d], .agg #[.string k', .int .i64 a', .int .i64 b', .int .i64 c', .bool h', .slice A' n' d']] w fun e w' => e = .returned (.bool r) ∧ Below w.heap.size w w' := by
  obtain rfl : v.length = n := hr.1
  obtain rfl : v'.length = n' := hr'.1
  subst hq
  refine QR.tags_Same.calls k a b c h A d v k' a' b' c' h' A' d' v' _ w hr hc hr' hc' ?_
  unfold QR.tags_Same.f sameE
  rw [same_f h v h' v' hl hm, Option.bind_some]
  split <;> (try split) <;> rfl
end
end Go.Proofs.YthaoiamgkpkcbaaDoor.Tg
namespace Go.Proofs.YthaoiamgkpkcbaaDoor.Tg
open Go.ChangeShapes Go.WideShapes Go.ChangeAt Go.RowKit Go.Proofs.YthaoiamgkpkcbaaDoor.Pk Go.Proofs.YthaoiamgkpkcbaaDoor.EncC Go.Proofs.YthaoiamgkpkcbaaDoor.EncP Go.Proofs.YthaoiamgkpkcbaaDoor.Enc
open Go.Proofs.YthaoiamgkpkcbaaDoor.Hlp Go.Proofs.YthaoiamgkpkcbaaDoor.Wrd Go.Proofs.YthaoiamgkpkcbaaDoorW.PrintWords Go.Proofs.YthaoiamgkpkcbaaDoorW.PrintLast Go.Proofs.YthaoiamgkpkcbaaDoorW.PrintMore
set_option linter.unusedVariables false
set_option linter.unusedSimpArgs false
/-- the bytes of a string -/
def bytesOf (s : ByteArray) : List Int := s.data.toList.map fun b : UInt8 => (b.toNat : Int)
theorem bytesOf_len (s : ByteArray) : (bytesOf s).length = s.size := by unfold bytesOf; rw [List.length_map, Array.length_toList]; rfl
theorem below_bytesWorld (w : World) (s : ByteArray) : Below w.heap.size w (Go.Lib.bytesWorld w 5 s) where
  os := rfl
  tape := rfl
  output := rfl
  size := by rw [Go.Lib.bytesWorld_size]; omega
  block := fun k hk => Go.Lib.bytesWorld_at_old w 5 s k hk
theorem conv_ex (w : World) (s : ByteArray) (hs : s.size ≤ 9223372036854775807) : ∃ c w', (Go.convert 9 24 (.string s)).run Tryd.prog w = .ok (.slice (some ⟨w.heap.size, 0, none⟩) s.size c) w' ∧ s.size ≤ c ∧ Below w.heap.size w w' ∧ Kd.C (Kd.int .u8) w' (some ⟨w.heap.size, 0, none⟩) s.size (bytesOf s) := by
  refine ⟨_, _, Go.Lib.run_convert_string_bytes w 9 24 5 s Tryd.underlying9 Tryd.underlying24 Tryd.underlying5, grownCap_ge _ _ _ _, below_bytesWorld w s, ?_⟩
  have h := C_mk (enc := Value.int .u8) (h1 := fun _ => rfl) (w := Go.Lib.bytesWorld w 5 s) (b := w.heap.size) (off := 0) (xs := bytesOf s) (by rw [bytesOf_len]; exact hs) (fun k hk => by
    rw [bytesOf_len] at hk
    rw [Nat.zero_add, Go.Lib.bytesWorld_cell w 5 s k hk]
    congr 2
    have hk2 : k < s.data.toList.length := by rw [Array.length_toList]; exact hk
    simp only [bytesOf, List.getElem_map, List.getD, List.getElem?_eq_getElem hk2, Option.getD_some])
  rw [bytesOf_len] at h
  exact h
theorem rowB_len {l : List Int} : (rowB l).length ≤ l.length + 9 := by
  unfold rowB
  rw [List.length_append]
  have := numB_len (l.length : Int)
  omega
def entB (k : ByteArray) (a b c : Int) (h : Bool) (v : List Int) : List Int := rowB (bytesOf k) ++ (numB a ++ (numB b ++ (numB c ++ (truthB h ++ (if h = true then rowB v else [])))))
/-- an entry's bytes, and what is wrong -/
def bytesV (k : ByteArray) (a b c : Int) (h : Bool) (v : List Int) : List Int × Int := if okEnt k a b c h v then (entB k a b c h v, 0) else ([], 2)
def catB (l : List Int) : List Int := (l.map numB).flatten
theorem catB_snoc (l : List Int) (x : Int) : catB (l ++ [x]) = catB l ++ numB x := by unfold catB; simp
theorem catB_len (l : List Int) : (catB l).length ≤ 9 * l.length := by
  induction l with
  | nil => simp [catB]
  | cons x l ih =>
    have := numB_len x
    have e : catB (x :: l) = numB x ++ catB l := rfl
    rw [e, List.length_append, List.length_cons]; omega
theorem apart {α : Type} {d : Kd α} {e T : Nat} {w : World} {base bx : Nat} {ok : Nat → Prop} {v : Value} {xs : List α} {cs : Array Value} (h : d.R e w base ok v xs) (hx : w.heap[bx]? = some (.cells cs T (0, 0))) (hne : T ≠ e) : some bx ≠ v.ownBlock := by
  intro hk
  obtain ⟨cells, hc⟩ := own_typed (Kd.R_own h).choose_spec bx hk.symm
  rw [hx] at hc
  injection hc with hc
  injection hc with _ h2
  exact hne h2
/-- a block of another type behind an append to a row of one's own -/
theorem blk_apart {α : Type} {d : Kd α} {e T : Nat} {w w1 : World} {base bx : Nat} {ok : Nat → Prop} {v : Value} {xs : List α} {cs : Array Value} (h : d.R e w base ok v xs) (hx : w.heap[bx]? = some (.cells cs T (0, 0))) (hne : T ≠ e) (hg : w.grownBy w1 v.ownBlock) : w1.heap[bx]? = some (.cells cs T (0, 0)) :=
  (hg.block _ (blk_lt hx) (apart h hx hne)).trans hx
theorem truthS_dead {s : St} (h : s.e ≠ 0) : truthS s = (false, s) := by unfold truthS; rw [if_neg h]
theorem failS_dead {s : St} (h : s.e ≠ 0) : failS s = s := by unfold failS; rw [if_neg h]
end Go.Proofs.YthaoiamgkpkcbaaDoor.Tg
namespace Go.Proofs.YthaoiamgkpkcbaaDoor.Tg
open Go.ChangeShapes Go.WideShapes Go.ChangeAt Go.RowKit Go.Proofs.YthaoiamgkpkcbaaDoor.Pk Go.Proofs.YthaoiamgkpkcbaaDoor.EncC Go.Proofs.YthaoiamgkpkcbaaDoor.EncP Go.Proofs.YthaoiamgkpkcbaaDoor.Enc
open Go.Proofs.YthaoiamgkpkcbaaDoor.Hlp Go.Proofs.YthaoiamgkpkcbaaDoor.Wrd Go.Proofs.YthaoiamgkpkcbaaDoorW.PrintWords Go.Proofs.YthaoiamgkpkcbaaDoorW.PrintLast Go.Proofs.YthaoiamgkpkcbaaDoorW.PrintMore
set_option linter.unusedVariables false
set_option linter.unusedSimpArgs false
set_option maxHeartbeats 4000000 in
set_option maxRecDepth 100000 in
theorem bytes_ {w : World} {A : Option Addr} {d : Nat} {v : List Int} (k : ByteArray) (a b c : Int) (h : Bool) (hr : Kd.C (Kd.int .u8) w A v.length v) (hc : v.length ≤ d) :
    Calls Tryd.prog 31 #[.agg #[.string k, .int .i64 a, .int .i64 b, .int .i64 c, .bool h, .slice A v.length d]] w (Made2 w (bytesV k a b c h v).1 (bytesV k a b c h v).2) := by
  have hu40 := Tryd.underlying28
  have hu23 := Tryd.underlying23
  have hu38 := Tryd.underlying26
  have bE := blk_new w (.cells #[.string k, .int .i64 a, .int .i64 b, .int .i64 c, .bool h, .slice A v.length d] 28)
  have HR0 := Aside0.mk hr
  have HR := Aside0.mk (Kd.C_alloc hr (.cells #[.string k, .int .i64 a, .int .i64 b, .int .i64 c, .bool h, .slice A v.length d] 28))
  have HB := Aside0.mk (below_alloc (Below.refl w.heap.size w) (.cells #[.string k, .int .i64 a, .int .i64 b, .int .i64 c, .bool h, .slice A v.length d] 28))
  have BE := Aside0.mk bE
  clear hr bE
  by_cases hok : okEnt k a b c h v
  · have HV := Aside0.mk (show rightV k a b c h v = 0 from if_pos hok)
    have HE := Aside0.mk (show bytesV k a b c h v = (entB k a b c h v, 0) from if_pos hok)
    have hk : k.size ≤ 250 := hok.2.1
    have hv : v.length ≤ 60000 := hok.2.2.1
    clear hok
    go_enter Tryd.func31, Tryd.ntmps31
    go_upto_region 1 with fail
    generalize w.alloc (.cells #[.string k, .int .i64 a, .int .i64 b, .int .i64 c, .bool h, .slice A v.length d] 28) = W at *
    obtain ⟨e0, e1, e2, e3, e4, e5⟩ := en_cells BE.out
    go_wp2_with fail
    (with_reducible refine (right_c k a b c h HR.out hc).mono ?_)
    rw [HV.out]
    rintro x w1 ⟨rfl, hb⟩
    have HB := Aside0.mk (below_then HB.out HB.out.size hb)
    have BE := Aside0.mk (blk_below BE.out hb)
    clear hb e0 e1 e2 e3 e4 e5
    obtain ⟨e0, e1, e2, e3, e4, e5⟩ := en_cells BE.out
    obtain ⟨ck, w2, hcv, hck, hb, hC⟩ := conv_ex w1 k (by omega)
    have HB := Aside0.mk (below_then HB.out HB.out.size hb)
    have BE := Aside0.mk (blk_below BE.out hb)
    have HC := Aside0.mk hC
    clear hb hC
    go_wp2_with fail
    clear hcv
    (with_reducible refine (row_c HC.out hck (by omega)).mono ?_)
    rintro x w3 ⟨vo, rfl, ho, hb⟩
    have HO := Aside0.mk (Kd.R_lower ho HB.out.size)
    have HB := Aside0.mk (below_then HB.out HB.out.size hb)
    have BE := Aside0.mk (blk_below BE.out hb)
    clear ho hb e0 e1 e2 e3 e4 e5
    obtain ⟨e0, e1, e2, e3, e4, e5⟩ := en_cells BE.out
    have HL : Aside0 ((rowB (bytesOf k)).length ≤ 300 ∧ (∀ l, (catB l).length ≤ 9 * l.length) ∧ (∀ n, (numB n).length ≤ 9) ∧ (truthB h).length = 1 ∧ (rowB v).length ≤ 60009) := ⟨by have := rowB_len (l := bytesOf k); rw [bytesOf_len] at this; omega, catB_len, numB_len, by unfold truthB; split <;> rfl, by have := rowB_len (l := v); omega⟩
    go_wp2_with fail
    have BN := Aside0.mk (blk_new w3 (.cells #[.int .i64 a, .int .i64 b, .int .i64 c] 3))
    have BE := Aside0.mk (blk_alloc BE.out (.cells #[.int .i64 a, .int .i64 b, .int .i64 c] 3))
    have HO := Aside0.mk (Kd.R_alloc HO.out (.cells #[.int .i64 a, .int .i64 b, .int .i64 c] 3))
    have HB := Aside0.mk (below_alloc HB.out (.cells #[.int .i64 a, .int .i64 b, .int .i64 c] 3))
    generalize w3.heap.size = gN at *
    generalize w3.alloc (.cells #[.int .i64 a, .int .i64 b, .int .i64 c] 3) = w4 at *
    clear e0 e1 e2 e3 e4 e5
    go_loopw [5, 34] (fun o i w' => ∃ j : Nat, j ≤ 3 ∧ i = .int .i64 j ∧ Aside0 (Kd.R (Kd.int .u8) 5 w' w.heap.size (fun _ => True) o (rowB (bytesOf k) ++ catB ([a, b, c].take j))) ∧ Aside0 (w'.heap[w.heap.size]? = some (.cells #[.string k, .int .i64 a, .int .i64 b, .int .i64 c, .bool h, .slice A v.length d] 28 (0, 0))) ∧ Aside0 (w'.heap[gN]? = some (.cells #[.int .i64 a, .int .i64 b, .int .i64 c] 3 (0, 0))) ∧ Aside0 (Below w.heap.size w w')) (fun _ i _ => 3 - (intOf i).toNat)
    case atStart => exact ⟨0, by omega, rfl, ⟨by rw [List.take_zero]; simpa [catB] using HO.out⟩, BE, BN, HB⟩
    case round =>
      obtain ⟨j, hj, rfl, HO, BE, BN, HB⟩ := hrel
      obtain ⟨xs, hxs⟩ : ∃ xs, rowB (bytesOf k) ++ catB ([a, b, c].take j) = xs := ⟨_, rfl⟩
      rw [hxs] at HO
      have HX := Aside0.mk hxs
      have HXl : Aside0 (xs.length ≤ 400) := ⟨by rw [← hxs, List.length_append]; have q1 := HL.out.1; have q2 := HL.out.2.1 ([a, b, c].take j); simp only [List.length_take, List.length_cons, List.length_nil] at q2; omega⟩
      clear hxs
      obtain ⟨Ao, co, rfl⟩ := Kd.R_slice HO.out
      by_cases hlt : j < 3
      · obtain ⟨g9, o9, eg9, hcell⟩ := C_block (C_blki [a, b, c] BN.out (by simp) rfl) (by simp)
        injection eg9 with eg9
        injection eg9 with eg9 eo9 sp9
        clear sp9
        subst eg9 eo9
        have cj := hcell j (by simpa using hlt)
        rw [Nat.zero_add] at cj
        obtain ⟨x, hx⟩ : ∃ x, [a, b, c][j]'(by simpa using hlt) = x := ⟨_, rfl⟩
        have HT := Aside0.mk (show [a, b, c].take (j + 1) = [a, b, c].take j ++ [x] by rw [List.take_succ_eq_append_getElem (by simpa using hlt), hx])
        rw [hx] at cj
        have t1 : decide ((j : Int) < 3) = true := decide_eq_true (by omega)
        have j0 : (0 : Int) ≤ (j : Int) := by omega
        have j1 : (j : Int) < 3 := by omega
        clear hcell hx
        go_wp2_with fail
        (with_reducible refine (num_c x _).mono ?_)
        rintro y w5 ⟨vn, rfl, hn, hb⟩
        obtain ⟨An, cn, rfl, hcn, hnr⟩ := Kd.R_reads hn
        have HN := Aside0.mk hnr
        have HO := Aside0.mk (Kd.R_below HO.out hb)
        have HB := Aside0.mk (below_then HB.out HB.out.size hb)
        have BE := Aside0.mk (blk_below BE.out hb)
        have BN := Aside0.mk (blk_below BN.out hb)
        clear hn hnr hb cj
        go_wp2_with ((with_reducible refine gate_builtin (b := .append) (xs := #[.tmp 38, .tmp 40]) rfl ?_); at_builtin; refine Kd.R_append_rows (Kd.int .u8) (w0 := w) w.heap.size rfl (.tmp 38) (.tmp 40) 24 5 (.int .u8 0) 1 rfl Tryd.underlying24 info8 rfl (by decide) (by omega) _ _ _ _ _ _ (fun _ => True) (fun _ => False) rfl rfl HO.out HN.out (fun _ _ h => h) (fun _ h => h.elim) (fun _ _ => trivial) HB.out HB.out.size ?aL ?_; (case aL => have q1 := HXl.out; have q3 := HL.out.2.2.1 x; omega); intro va wa ho hb hg hat; have HO2 := Aside0.mk ho; have HB2 := Aside0.mk hb; have BE2 := Aside0.mk (blk_apart HO.out BE.out (by decide) hg); have BN2 := Aside0.mk (blk_apart HO.out BN.out (by decide) hg); clear ho hb hg hat)
        go_roundw
        case rel => exact ⟨j + 1, by omega, by go_num, ⟨by rw [HT.out, catB_snoc, ← List.append_assoc, HX.out]; exact HO2.out⟩, BE2, BN2, HB2⟩
        case measure => simp [intOf]; omega
      · obtain rfl : j = 3 := by omega
        obtain ⟨e0, e1, e2, e3, e4, e5⟩ := en_cells BE.out
        go_wp2_with fail
        (with_reducible refine (truth_c h _).mono ?_)
        rintro y w5 ⟨vn, rfl, hn, hb⟩
        obtain ⟨An, cn, rfl, hcn, hnr⟩ := Kd.R_reads hn
        have HN := Aside0.mk hnr
        have HO := Aside0.mk (Kd.R_below HO.out hb)
        have HB := Aside0.mk (below_then HB.out HB.out.size hb)
        have BE := Aside0.mk (blk_below BE.out hb)
        clear hn hnr hb e0 e1 e2 e3 e4 e5
        obtain ⟨e0, e1, e2, e3, e4, e5⟩ := en_cells BE.out
        cases h
        · go_wp2_with ((with_reducible refine gate_builtin (b := .append) (xs := #[.tmp 43, .tmp 47]) rfl ?_); at_builtin; refine Kd.R_append_rows (Kd.int .u8) (w0 := w) w.heap.size rfl (.tmp 43) (.tmp 47) 24 5 (.int .u8 0) 1 rfl Tryd.underlying24 info8 rfl (by decide) (by omega) _ _ _ _ _ _ (fun _ => True) (fun _ => False) rfl rfl HO.out HN.out (fun _ _ h => h) (fun _ h => h.elim) (fun _ _ => trivial) HB.out HB.out.size ?aL ?_; (case aL => have q1 := HXl.out; have q3 := HL.out.2.2.2.1; omega); intro va wa ho hb hg hat; have HO2 := Aside0.mk ho; have HB2 := Aside0.mk hb; have BE2 := Aside0.mk (blk_apart HO.out BE.out (by decide) hg); clear ho hb hg hat e0 e1 e2 e3 e4 e5; obtain ⟨e0, e1, e2, e3, e4, e5⟩ := en_cells BE2.out)
          go_ret2
          refine ⟨va, ?_, ?_, HB2.out⟩
          · rw [HE.out]; rfl
          · rw [HE.out, show (entB k a b c false v, (0 : Int)).1 = xs ++ truthB false from by rw [← HX.out]; simp [entB, catB]]; exact HO2.out
        · go_wp2_with ((with_reducible refine gate_builtin (b := .append) (xs := #[.tmp 43, .tmp 47]) rfl ?_); at_builtin; refine Kd.R_append_rows (Kd.int .u8) (w0 := w) w.heap.size rfl (.tmp 43) (.tmp 47) 24 5 (.int .u8 0) 1 rfl Tryd.underlying24 info8 rfl (by decide) (by omega) _ _ _ _ _ _ (fun _ => True) (fun _ => False) rfl rfl HO.out HN.out (fun _ _ h => h) (fun _ h => h.elim) (fun _ _ => trivial) HB.out HB.out.size ?aL ?_; (case aL => have q1 := HXl.out; have q3 := HL.out.2.2.2.1; omega); intro va wa ho hb hg hat; have HO2 := Aside0.mk ho; have HB2 := Aside0.mk hb; have BE2 := Aside0.mk (blk_apart HO.out BE.out (by decide) hg); clear ho hb hg hat e0 e1 e2 e3 e4 e5; obtain ⟨e0, e1, e2, e3, e4, e5⟩ := en_cells BE2.out)
          have HR := Aside0.mk (Kd.C_below HR0.out HB2.out)
          (with_reducible refine (row_c HR.out hc (by omega)).mono ?_)
          rintro y w6 ⟨vn, rfl, hn, hb⟩
          obtain ⟨An, cn, rfl, hcn, hnr⟩ := Kd.R_reads hn
          have HN := Aside0.mk hnr
          obtain ⟨ys, hys⟩ : ∃ ys, xs ++ truthB true = ys := ⟨_, rfl⟩
          have HY := Aside0.mk hys
          have HYl : Aside0 (ys.length ≤ 401) := ⟨by rw [← hys, List.length_append]; have q1 := HXl.out; have q3 := HL.out.2.2.2.1; omega⟩
          rw [hys] at HO2
          have HO := Aside0.mk (Kd.R_below HO2.out hb)
          have HB := Aside0.mk (below_then HB2.out HB2.out.size hb)
          clear hn hnr hb hys e0 e1 e2 e3 e4 e5
          go_wp2_with ((with_reducible refine gate_builtin (b := .append) (xs := #[.tmp 59, .tmp 60]) rfl ?_); at_builtin; refine Kd.R_append_rows (Kd.int .u8) (w0 := w) w.heap.size rfl (.tmp 59) (.tmp 60) 24 5 (.int .u8 0) 1 rfl Tryd.underlying24 info8 rfl (by decide) (by omega) _ _ _ _ _ _ (fun _ => True) (fun _ => False) rfl rfl HO.out HN.out (fun _ _ h => h) (fun _ h => h.elim) (fun _ _ => trivial) HB.out HB.out.size ?aL ?_; (case aL => have q1 := HYl.out; have q3 := HL.out.2.2.2.2; omega); intro va wa ho hb hg hat; have HO3 := Aside0.mk ho; have HB3 := Aside0.mk hb; clear ho hb hg hat)
          go_ret2
          refine ⟨va, ?_, ?_, HB3.out⟩
          · rw [HE.out]; rfl
          · rw [HE.out, show (entB k a b c true v, (0 : Int)).1 = ys ++ rowB v from by rw [← HY.out, ← HX.out]; simp [entB, catB]]; exact HO3.out
  · have HV := Aside0.mk (show rightV k a b c h v = 2 from if_neg hok)
    have HE := Aside0.mk (show bytesV k a b c h v = ([], 2) from if_neg hok)
    clear hok
    go_enter Tryd.func31, Tryd.ntmps31
    go_upto_region 1 with fail
    generalize w.alloc (.cells #[.string k, .int .i64 a, .int .i64 b, .int .i64 c, .bool h, .slice A v.length d] 28) = W at *
    obtain ⟨e0, e1, e2, e3, e4, e5⟩ := en_cells BE.out
    go_wp2_with fail
    (with_reducible refine (right_c k a b c h HR.out hc).mono ?_)
    rw [HV.out]
    rintro x w1 ⟨rfl, hb⟩
    have HB := Aside0.mk (below_then HB.out HB.out.size hb)
    clear hb e0 e1 e2 e3 e4 e5
    go_wp2_with fail
    go_ret2
    rw [HE.out]
    exact ⟨.slice none 0 0, rfl, Kd.R_nil _ _ _ _ _, HB.out⟩
end Go.Proofs.YthaoiamgkpkcbaaDoor.Tg
namespace Go.Proofs.YthaoiamgkpkcbaaDoor.Dec
open Go Go.RowKit Go.Proofs.YthaoiamgkpkcbaaDoor.Wrd Go.Proofs.YthaoiamgkpkcbaaDoor.Enc Go.Proofs.YthaoiamgkpkcbaaDoor.Pk
set_option linter.unusedVariables false
end Go.Proofs.YthaoiamgkpkcbaaDoor.Dec
namespace Go.Proofs.YthaoiamgkpkcbaaDoor.Seg
open Go Go.RowKit Go.Proofs.YthaoiamgkpkcbaaDoor.Wrd Go.Proofs.YthaoiamgkpkcbaaDoor.Enc Go.Proofs.YthaoiamgkpkcbaaDoor.EncP Go.Proofs.YthaoiamgkpkcbaaDoor.Dec Go.Proofs.YthaoiamgkpkcbaaDoor.Pk
set_option linter.unusedVariables false
set_option linter.unusedSimpArgs false
def Byte (l : List Int) : Prop := ∀ x ∈ l, 0 ≤ x ∧ x < 256
theorem Byte.append {a b : List Int} (ha : Byte a) (hb : Byte b) : Byte (a ++ b) := by
  intro x hx
  rcases List.mem_append.1 hx with h | h
  · exact ha x h
  · exact hb x h
theorem Byte.take {a : List Int} (ha : Byte a) (n : Nat) : Byte (a.take n) := fun x hx => ha x (List.mem_of_mem_take hx)
theorem Byte.drop {a : List Int} (ha : Byte a) (n : Nat) : Byte (a.drop n) := fun x hx => ha x (List.mem_of_mem_drop hx)
theorem Byte.nil : Byte [] := by intro x hx; cases hx
/-! whole -/
/-! cut short -/
/-! back -/
end Go.Proofs.YthaoiamgkpkcbaaDoor.Seg
namespace Go.Proofs.YthaoiamgkpkcbaaDoor.Tg
open Go Go.RowKit Go.Proofs.YthaoiamgkpkcbaaDoor.Wrd Go.Proofs.YthaoiamgkpkcbaaDoor.Enc Go.Proofs.YthaoiamgkpkcbaaDoor.EncP Go.Proofs.YthaoiamgkpkcbaaDoor.EncC Go.Proofs.YthaoiamgkpkcbaaDoor.Pk Go.Proofs.YthaoiamgkpkcbaaDoor.Seg
set_option linter.unusedVariables false
set_option linter.unusedSimpArgs false
section
variable {k : ByteArray} {a b c : Int} {h : Bool} {v : List Int}
/-- a dead reader reads nothing -/
theorem get_dead1 {s : St} {k : List Int} {s1 : St} (h1 : rowS s = (k, s1)) (he : s1.e ≠ 0) : getS s = (En.zero, s1) := by
  unfold getS; rw [h1]
  simp only [belowS_dead he, truthS_dead he, Bool.false_eq_true, if_false]
  rw [if_neg (by rintro ⟨h, _⟩; exact he h), failS_dead he]
end
end Go.Proofs.YthaoiamgkpkcbaaDoor.Tg
namespace Go.Proofs.YthaoiamgkpkcbaaDoor.QL
open Go.RowKit Go.Proofs.YthaoiamgkpkcbaaDoorW.PrintWords Go.Proofs.YthaoiamgkpkcbaaDoorW.PrintLast Go.Proofs.YthaoiamgkpkcbaaDoorW.PrintMore
attribute [local go_sem] max2_int min2_int max_two min_two max_three min_three max_four min_four   -- for this text's walks alone
set_option linter.unusedVariables false
set_option linter.unusedSimpArgs false
end Go.Proofs.YthaoiamgkpkcbaaDoor.QL
namespace Go.Proofs.YthaoiamgkpkcbaaDoor.Ms
open Go.ChangeShapes Go.WideShapes Go.ChangeAt Go.RowKit Go.Proofs.YthaoiamgkpkcbaaDoor.Pk Go.Proofs.YthaoiamgkpkcbaaDoor.Tg
open Go.Proofs.YthaoiamgkpkcbaaDoor.Hlp Go.Proofs.YthaoiamgkpkcbaaDoor.Wrd Go.Proofs.YthaoiamgkpkcbaaDoorW.PrintWords Go.Proofs.YthaoiamgkpkcbaaDoorW.PrintLast Go.Proofs.YthaoiamgkpkcbaaDoorW.PrintMore
set_option linter.unusedVariables false
set_option linter.unusedSimpArgs false
/-- what a kind has -/
structure Hs where
  n : Bool
  f : Bool
  e : Bool
  l : Bool
  r : Bool
def Hs.none : Hs := ⟨false, false, false, false, false⟩
def tab : List Hs := [⟨false, false, false, false, false⟩, ⟨false, false, true, false, false⟩, ⟨true, true, true, false, false⟩, ⟨false, false, true, false, false⟩, ⟨false, false, true, false, false⟩, ⟨false, false, true, false, false⟩, ⟨true, false, false, false, false⟩, ⟨false, false, true, false, false⟩, ⟨false, false, true, false, false⟩, ⟨true, false, true, false, false⟩, ⟨false, false, true, false, false⟩, ⟨false, false, true, false, false⟩, ⟨true, false, false, false, false⟩, ⟨true, true, false, true, false⟩, ⟨true, true, false, true, false⟩, ⟨false, false, false, false, false⟩, ⟨false, false, false, false, true⟩, ⟨false, false, false, false, false⟩]
def kindsC : Array Value := (tab.flatMap fun h => [Value.bool h.n, .bool h.f, .bool h.e, .bool h.l, .bool h.r]).toArray
/-- the table lies in its variable -/
def Kin (w : World) : Prop := ∃ t fr, w.heap[0]? = some (.cells kindsC t fr)
theorem Kin.below {w w1 : World} (h : Kin w) (hb : Below w.heap.size w w1) : Kin w1 := by
  obtain ⟨t, fr, h⟩ := h
  exact ⟨t, fr, (hb.block 0 (blk_lt h)).trans h⟩
theorem Kin.at_ {w : World} (h : Kin w) (k : Nat) (hk : k < 18) : ∃ b : Hs, tab[k]? = some b ∧ w.cell? ⟨0, k * 5, none⟩ = some (.bool b.n) ∧ w.cell? ⟨0, k * 5 + 1, none⟩ = some (.bool b.f) ∧ w.cell? ⟨0, k * 5 + 2, none⟩ = some (.bool b.e) ∧ w.cell? ⟨0, k * 5 + 3, none⟩ = some (.bool b.l) ∧ w.cell? ⟨0, k * 5 + 4, none⟩ = some (.bool b.r) := by
  obtain ⟨t, fr, h⟩ := h
  have hc : ∀ j, w.cell? ⟨0, j, none⟩ = kindsC[j]? := fun j => cell_of_row w 0 j kindsC t fr h
  simp only [hc]
  have : ∀ k : Fin 18, ∃ b : Hs, tab[k.val]? = some b ∧ kindsC[k.val * 5]? = some (.bool b.n) ∧ kindsC[k.val * 5 + 1]? = some (.bool b.f) ∧ kindsC[k.val * 5 + 2]? = some (.bool b.e) ∧ kindsC[k.val * 5 + 3]? = some (.bool b.l) ∧ kindsC[k.val * 5 + 4]? = some (.bool b.r) := by
    intro k
    obtain ⟨k, hk⟩ := k
    match k, hk with
    | 0, _ | 1, _ | 2, _ | 3, _ | 4, _ | 5, _ | 6, _ | 7, _ | 8, _ | 9, _ | 10, _ | 11, _ | 12, _ | 13, _ | 14, _ | 15, _ | 16, _ | 17, _ => exact ⟨_, rfl, rfl, rfl, rfl, rfl, rfl⟩
    | n + 18, h => exact absurd h (by omega)
  exact this ⟨k, hk⟩
/-- what a kind has, whatever number it is -/
def hasV (k : Int) : Hs := if 1 ≤ k ∧ k ≤ 17 then (tab[k.toNat]?).getD Hs.none else Hs.none
def hasR (b : Hs) : Value := .tuple #[.bool b.n, .bool b.f, .bool b.e, .bool b.l, .bool b.r]
theorem known_k (k : Int) (w : World) : Calls Tryd.prog 35 #[.int .i64 k] w fun e w' => e = .returned (.bool (decide (1 ≤ k ∧ k ≤ 17))) ∧ Below w.heap.size w w' := by
  refine (QR.msgs_known.calls k (decide (1 ≤ k ∧ k ≤ 17)) w ?_).mono (fun e w' h => ⟨h.1, h.2.below⟩)
  unfold QR.msgs_known.f
  by_cases h1 : k ≥ 1
  · by_cases h2 : k ≤ 17 <;> simp [h1, h2]
  · simp [h1]
set_option maxHeartbeats 1000000 in
theorem has_ (k : Int) (w : World) (h : Kin w) : Calls Tryd.prog 23 #[.int .i64 k] w fun e w' => e = .returned (hasR (hasV k)) ∧ Below w.heap.size w w' := by
  by_cases hk : 1 ≤ k ∧ k ≤ 17
  · have hk1 : decide (1 ≤ k ∧ k ≤ 17) = true := decide_eq_true hk
    obtain ⟨n, rfl⟩ := Int.eq_ofNat_of_zero_le (show 0 ≤ k by omega)
    have n17 : n ≤ 17 := by omega
    have n1 : 1 ≤ n := by omega
    have HK := Aside0.mk h
    have HV : Aside0 (hasV (n : Int) = (tab[n]?).getD Hs.none) := ⟨by unfold hasV; rw [if_pos hk]; rfl⟩
    clear hk h
    go_enter Tryd.func23, Tryd.ntmps23
    go_wp2_with (go_at_call 35; (with_reducible refine (known_k _ _).mono ?_); rintro e w1 ⟨rfl, hb⟩; rw [hk1]; obtain ⟨b, hb0, c0, c1, c2, c3, c4⟩ := (HK.out.below hb).at_ n (by omega); have HB := Aside0.mk hb; clear hb)
    have hz := blk_new w1 (.cells #[.bool b.n, .bool b.f, .bool b.e, .bool b.l, .bool b.r] 97)
    have d0 := (blk_cell hz 0).trans (show _ = some (Value.bool b.n) from rfl)
    have d1 := (blk_cell hz 1).trans (show _ = some (Value.bool b.f) from rfl)
    have d2 := (blk_cell hz 2).trans (show _ = some (Value.bool b.e) from rfl)
    have d3 := (blk_cell hz 3).trans (show _ = some (Value.bool b.l) from rfl)
    have d4 := (blk_cell hz 4).trans (show _ = some (Value.bool b.r) from rfl)
    clear hz
    go_quiet (fail)
    (try simp only [Exit.inBlock, Exit.then])
    go_wp2
    refine bodyPost_ret (v := hasR b) (by simp [results, Tryd.results23, go_sem, hasR]) rfl ?_
    rw [HV.out, hb0]
    exact ⟨rfl, pw_below_drewN (below_alloc HB.out _) _⟩
  · have hk1 : decide (1 ≤ k ∧ k ≤ 17) = false := decide_eq_false hk
    have HV : hasV k = Hs.none := by unfold hasV; rw [if_neg hk]
    rw [HV]
    clear hk HV h
    go_enter Tryd.func23, Tryd.ntmps23
    go_wp2_with (go_at_call 35; (with_reducible refine (known_k _ _).mono ?_); rintro e w1 ⟨rfl, hb⟩; rw [hk1]; have HB := Aside0.mk hb; clear hb)
    exact bodyPost_ret (v := hasR Hs.none) (by simp [results, Tryd.results23, go_sem, hasR, Hs.none]) rfl ⟨rfl, HB.out⟩
end Go.Proofs.YthaoiamgkpkcbaaDoor.Ms
namespace Go.Proofs.YthaoiamgkpkcbaaDoor.Ms
open Go.ChangeShapes Go.WideShapes Go.ChangeAt Go.RowKit Go.Proofs.YthaoiamgkpkcbaaDoor.Pk Go.Proofs.YthaoiamgkpkcbaaDoor.Tg
open Go.Proofs.YthaoiamgkpkcbaaDoor.Hlp Go.Proofs.YthaoiamgkpkcbaaDoor.Wrd Go.Proofs.YthaoiamgkpkcbaaDoorW.PrintWords Go.Proofs.YthaoiamgkpkcbaaDoorW.PrintLast Go.Proofs.YthaoiamgkpkcbaaDoorW.PrintMore
set_option linter.unusedVariables false
set_option linter.unusedSimpArgs false
/-- an entry, as a list holds it -/
abbrev E6 := QL.S28
abbrev kE : Kd E6 := QL.k28
def okE (x : E6) : Prop := okEnt x.f0 x.f1.f0 x.f1.f1 x.f1.f2 x.f2.f0 x.f2.f1
instance (x : E6) : Decidable (okE x) := by unfold okE; infer_instance
def rightB (l : List E6) : Bool := decide (l.length ≤ 1000 ∧ ∀ x ∈ l, okE x)
theorem rd_E {l : List E6} {k : Nat} (h : k < l.length) : QL.rd_T28 l (k : Int) = l[k] := by simp [QL.rd_T28, h]
/-- the cells of an entry in a list -/
theorem at_E {w : World} {A : Option Addr} {n : Nat} {l : List E6} (h : Kd.C kE w A n l) (k : Nat) (hk : k < l.length) : ∃ ad A5 c5, A = some ad ∧ w.cell? (ad.add (k * 6)) = some (.string l[k].f0) ∧ w.cell? ⟨(ad.add (k * 6)).block, (ad.add (k * 6)).off + 1, none⟩ = some (.int .i64 l[k].f1.f0) ∧ w.cell? ⟨(ad.add (k * 6)).block, (ad.add (k * 6)).off + 2, none⟩ = some (.int .i64 l[k].f1.f1) ∧ w.cell? ⟨(ad.add (k * 6)).block, (ad.add (k * 6)).off + 3, none⟩ = some (.int .i64 l[k].f1.f2) ∧ w.cell? ⟨(ad.add (k * 6)).block, (ad.add (k * 6)).off + 4, none⟩ = some (.bool l[k].f2.f0) ∧ w.cell? ⟨(ad.add (k * 6)).block, (ad.add (k * 6)).off + 5, none⟩ = some (.slice A5 l[k].f2.f1.length c5) ∧ l[k].f2.f1.length ≤ c5 ∧ (Kd.int .u8).C w A5 l[k].f2.f1.length l[k].f2.f1 := by
  obtain ⟨ad, A5, c5, h0, h1, h2, h3, h4, h5, h6, h7, h8⟩ := QL.at_T28 h (k : Int) (Int.natCast_nonneg k) (by have := h.1; omega)
  simp only [rd_E hk, Int.toNat_natCast] at h1 h2 h3 h4 h5 h6 h7 h8
  exact ⟨ad, A5, c5, h0, h1, h2, h3, h4, h5, h6, h7, h8⟩
theorem right_e {w : World} {A : Option Addr} {n c' : Nat} {v : List Int} (k : ByteArray) (a b c : Int) (h : Bool) {r : Int} (hq : rightV k a b c h v = r) (hr : Kd.C (Kd.int .u8) w A n v) (hc : n ≤ c') :
    Calls Tryd.prog 38 #[.agg #[.string k, .int .i64 a, .int .i64 b, .int .i64 c, .bool h, .slice A n c']] w fun e w' => e = .returned (.int .i64 r) ∧ Below w.heap.size w w' := by
  subst hq; exact right_c k a b c h hr hc
theorem take_ok {l : List E6} {k : Nat} (hk : k < l.length) (h : ∀ x ∈ l.take k, okE x) (h1 : okE l[k]) : ∀ x ∈ l.take (k + 1), okE x := by
  intro x hx
  rw [List.take_succ_eq_append_getElem hk] at hx
  rcases List.mem_append.1 hx with hx | hx
  · exact h x hx
  · obtain rfl := List.mem_singleton.1 hx; exact h1
set_option maxHeartbeats 2000000 in
theorem right_l {w : World} {A : Option Addr} {n c : Nat} {l : List E6} (hr : Kd.C kE w A n l) (hc : n ≤ c) :
    Calls Tryd.prog 37 #[.slice A n c] w fun e w' => e = .returned (.bool (rightB l)) ∧ Below w.heap.size w w' := by
  obtain rfl : l.length = n := hr.1
  have hm := hr.2.1
  have HR := Aside0.mk hr
  clear hr
  by_cases hl : l.length ≤ 1000
  · have t1 : decide ((l.length : Int) ≤ 1000) = true := decide_eq_true (by omega)
    go_enter Tryd.func37, Tryd.ntmps37
    go_wp2
    go_step3
    go_wp2
    go_step3
    go_wp2
    go_loopg [3, 11] l.length (fun q v3 v11 w' => ∃ k : Nat, k ≤ l.length ∧ v11 = .int .i64 k ∧ q = l.length - k ∧ v3 = .bool true ∧ Aside0 (∀ x ∈ l.take k, okE x) ∧ Aside0 (Below w.heap.size w w'))
    case atStart => exact ⟨0, Nat.zero_le _, rfl, rfl, rfl, ⟨by simp⟩, ⟨Below.refl _ _⟩⟩
    case round =>
      obtain ⟨k, hk, rfl, rfl, rfl, HO, HB⟩ := hrel
      by_cases hlt : k < l.length
      · have t2 : decide (k < l.length) = true := decide_eq_true hlt
        obtain ⟨ad, A5, c5, rfl, h1, h2, h3, h4, h5, h6, h7, h8⟩ := at_E (Kd.C_below HR.out HB.out) k hlt
        have HC := Aside0.mk h8
        clear h8
        by_cases ho : okE l[k]
        · have hq : Aside0 (rightV l[k].f0 l[k].f1.f0 l[k].f1.f1 l[k].f1.f2 l[k].f2.f0 l[k].f2.f1 = 0) := ⟨if_pos ho⟩
          have ho := Aside0.mk ho
          go_wp2_with (go_at_call 38; (with_reducible refine (right_e _ _ _ _ _ hq.out (Kd.C_alloc HC.out _) h7).mono ?_); rintro e w2 ⟨rfl, hb⟩; have HB2 := Aside0.mk hb; clear hb)
          go_roundg (l.length - (k + 1))
          case measure => omega
          case rel => exact ⟨k + 1, by omega, by go_num, rfl, rfl, ⟨take_ok hlt HO.out ho.out⟩, ⟨HB.out.trans ((below_alloc (Below.refl _ _) _).trans (HB2.out.mono (by simp)) |>.mono HB.out.size)⟩⟩
        · have hq : Aside0 (rightV l[k].f0 l[k].f1.f0 l[k].f1.f1 l[k].f1.f2 l[k].f2.f0 l[k].f2.f1 = 2) := ⟨if_neg ho⟩
          have ho := Aside0.mk ho
          go_wp2_with (go_at_call 38; (with_reducible refine (right_e _ _ _ _ _ hq.out (Kd.C_alloc HC.out _) h7).mono ?_); rintro e w2 ⟨rfl, hb⟩; have HB2 := Aside0.mk hb; clear hb)
          rw [Exit.noGoto_ret]
          go_ret
          exact ⟨by rw [show rightB l = false from decide_eq_false (fun h => ho.out (h.2 _ (List.getElem_mem hlt)))]; rfl, HB.out.trans ((below_alloc (Below.refl _ _) _).trans (HB2.out.mono (by simp)) |>.mono HB.out.size)⟩
      · have t2 : decide (k < l.length) = false := decide_eq_false hlt
        go_wp2
        rw [Exit.noGoto_ret]
        go_ret
        obtain rfl : k = l.length := by omega
        exact ⟨by rw [show rightB l = true from decide_eq_true ⟨hl, by have := HO.out; rwa [List.take_length] at this⟩]; rfl, HB.out⟩
  · have t1 : decide ((l.length : Int) ≤ 1000) = false := decide_eq_false (by omega)
    have HF : Aside0 (rightB l = false) := ⟨decide_eq_false (fun h => hl h.1)⟩
    have t2 : decide (0 < l.length) = true := decide_eq_true (by omega)
    have h0 : 0 < l.length := by omega
    obtain ⟨ad, A5, c5, rfl, h1, h2, h3, h4, h5, h6, h7, h8⟩ := at_E HR.out 0 h0
    have e0 : ad.add (0 * 6) = ad := by obtain ⟨b, o, p⟩ := ad; cases p <;> simp [Addr.add]
    rw [e0] at h1 h2 h3 h4 h5 h6
    clear h8 h7 hl e0
    go_enter Tryd.func37, Tryd.ntmps37
    go_wp2
    go_step3
    go_wp2
    go_step3
    go_wp2
    go_loopg [3, 11] 0 (fun q v3 v11 w' => v11 = .int .i64 0 ∧ v3 = .bool false ∧ w' = w)
    case atStart => exact ⟨rfl, rfl, rfl⟩
    case round =>
      obtain ⟨rfl, rfl, rfl⟩ := hrel
      go_wp2
      rw [Exit.noGoto_ret]
      go_ret
      exact ⟨by rw [HF.out]; rfl, below_alloc (Below.refl _ _) _⟩
end Go.Proofs.YthaoiamgkpkcbaaDoor.Ms
namespace Go.Proofs.YthaoiamgkpkcbaaDoor.Ms
open Go.ChangeShapes Go.WideShapes Go.ChangeAt Go.RowKit Go.Proofs.YthaoiamgkpkcbaaDoor.Pk Go.Proofs.YthaoiamgkpkcbaaDoor.Tg
open Go.Proofs.YthaoiamgkpkcbaaDoor.Hlp Go.Proofs.YthaoiamgkpkcbaaDoor.Wrd Go.Proofs.YthaoiamgkpkcbaaDoor.Lex Go.Proofs.YthaoiamgkpkcbaaDoorW.PrintWords Go.Proofs.YthaoiamgkpkcbaaDoorW.PrintLast Go.Proofs.YthaoiamgkpkcbaaDoorW.PrintMore
set_option linter.unusedVariables false
set_option linter.unusedSimpArgs false
/-- a message -/
structure Ms where
  kind : Int
  fr : Int
  dst : Int
  ep : Int
  op : Int
  n : Int
  f : Bool
  e : E6
  L : List E6
  R : List Int
  each : Int
  keep : Int
/-- where its rows lie -/
structure Pl where
  vA : Option Addr
  vc : Nat
  lA : Option Addr
  lc : Nat
  rA : Option Addr
  rc : Nat
abbrev Ms.val (m : Ms) (p : Pl) : Array Value := #[.int .i64 m.kind, .int .i64 m.fr, .int .i64 m.dst, .int .i64 m.ep, .int .i64 m.op, .int .i64 m.n, .bool m.f, .string m.e.f0, .int .i64 m.e.f1.f0, .int .i64 m.e.f1.f1, .int .i64 m.e.f1.f2, .bool m.e.f2.f0, .slice p.vA m.e.f2.f1.length p.vc, .slice p.lA m.L.length p.lc, .slice p.rA m.R.length p.rc, .int .i64 m.each, .int .i64 m.keep]
structure Lies (w : World) (m : Ms) (p : Pl) : Prop where
  v : Kd.C (Kd.int .u8) w p.vA m.e.f2.f1.length m.e.f2.f1
  vc : m.e.f2.f1.length ≤ p.vc
  l : Kd.C kE w p.lA m.L.length m.L
  lc : m.L.length ≤ p.lc
  r : Kd.C (Kd.int .i64) w p.rA m.R.length m.R
  rc : m.R.length ≤ p.rc
theorem Lies.below {w w1 : World} {m : Ms} {p : Pl} (h : Lies w m p) (hb : Below w.heap.size w w1) : Lies w1 m p :=
  ⟨Kd.C_below h.v hb, h.vc, Kd.C_below h.l hb, h.lc, Kd.C_below h.r hb, h.rc⟩
def Bytes (l : List Int) : Prop := ∀ x ∈ l, 0 ≤ x ∧ x < 256
/-! rings -/
def riseB (last : Int) : List Int → Bool
  | [] => true
  | x :: l => decide (last < x ∧ x ≤ 1048575) && riseB x l
def ringB (R : List Int) (each keep : Int) : Bool := decide (1 ≤ R.length ∧ R.length ≤ 64) && riseB (-1) R && decide (1 ≤ each ∧ each ≤ 64 ∧ 1 ≤ keep ∧ keep ≤ R.length)
theorem rises_l0 (l : List Int) (hl : l.length < 9223372036854775807) : ∀ (d i : Nat) (last : Int), l.length - i = d → i ≤ l.length → Since (fun k => QR.ring_rises.l0 k last l (l.length : Int) (i : Int)) (riseB last (l.drop i)) := by
  intro d
  induction d with
  | zero =>
    intro i last hd hi
    obtain rfl : i = l.length := by omega
    refine Since.none fun k => ?_
    simp only [QR.ring_rises.l0]
    rw [if_neg (Int.lt_irrefl _), List.drop_length]; rfl
  | succ d ih =>
    intro i last hd hi
    have h1 : i < l.length := by omega
    have hr : rd l (i : Int) = l[i] := by simp [rd, h1]
    have hw : wrap64 ((i : Int) + 1) = ((i + 1 : Nat) : Int) := by unfold wrap64; omega
    rw [List.drop_eq_getElem_cons h1]
    show Since _ (decide (last < l[i] ∧ l[i] ≤ 1048575) && riseB l[i] (l.drop (i + 1)))
    by_cases h2 : l[i] ≤ last
    · refine Since.none fun k => ?_
      simp only [QR.ring_rises.l0]
      rw [if_pos (by omega), if_pos (by omega), if_pos (by omega), hr, if_pos h2, decide_eq_false (by omega)]; rfl
    · by_cases h3 : l[i] > 1048575
      · refine Since.none fun k => ?_
        simp only [QR.ring_rises.l0]
        rw [if_pos (by omega), if_pos (by omega), if_pos (by omega), hr, if_neg h2, if_pos h3, decide_eq_false (by omega)]; rfl
      · refine Since.one (ih (i + 1) l[i] (by omega) (by omega)) fun k hk => ?_
        simp only [QR.ring_rises.l0]
        rw [if_pos (by omega), if_pos (by omega), if_pos (by omega), hr, if_neg h2, if_neg h3, hw, decide_eq_true (show last < l[i] ∧ l[i] ≤ 1048575 by omega), Bool.true_and]
        exact hk
theorem ring_ev (l : List Int) (each keep : Int) (hl : l.length < 9223372036854775807) : Since (fun k => QR.ring_Check.f k l each keep) (if ringB l each keep = true then 0 else 2) := by
  have h0 := rises_l0 l hl _ 0 (-1) rfl (Nat.zero_le _)
  rw [List.drop_zero] at h0
  refine h0.map fun k hk => ?_
  unfold QR.ring_Check.f QR.ring_rises.f ringB
  rw [show QR.ring_rises.l0 k (-1) l (l.length : Int) 0 = some (riseB (-1) l) from hk, Option.bind_some]
  by_cases h1 : (l.length : Int) = 0
  · rw [if_pos h1, decide_eq_false (show ¬ (1 ≤ l.length ∧ l.length ≤ 64) by omega)]; rfl
  rw [if_neg h1]
  by_cases h2 : (l.length : Int) > 64
  · rw [if_pos h2, decide_eq_false (show ¬ (1 ≤ l.length ∧ l.length ≤ 64) by omega)]; rfl
  rw [if_neg h2, decide_eq_true (show 1 ≤ l.length ∧ l.length ≤ 64 by omega), Bool.true_and]
  cases hb : riseB (-1) l
  · rfl
  · rw [if_pos rfl, Bool.true_and]
    by_cases h3 : each < 1
    · rw [if_pos h3, decide_eq_false (by omega)]; rfl
    by_cases h4 : each > 64
    · rw [if_neg h3, if_pos h4, decide_eq_false (by omega)]; rfl
    by_cases h5 : keep < 1
    · rw [if_neg h3, if_neg h4, if_pos h5, decide_eq_false (by omega)]; rfl
    by_cases h6 : keep > (l.length : Int)
    · rw [if_neg h3, if_neg h4, if_neg h5, if_pos h6, decide_eq_false (by omega)]; rfl
    · rw [if_neg h3, if_neg h4, if_neg h5, if_neg h6, decide_eq_true (by omega)]; rfl
theorem ring_c {w : World} {A : Option Addr} {n c : Nat} {l : List Int} (each keep : Int) {r : Bool} (hq : ringB l each keep = r) (hr : Kd.C (Kd.int .i64) w A n l) (hc : n ≤ c) (hl : n < 9223372036854775807) :
    Calls Tryd.prog 40 #[.agg #[.slice A n c, .int .i64 each, .int .i64 keep]] w fun e w' => e = .returned (.int .i64 (if r = true then 0 else 2)) ∧ Below w.heap.size w w' := by
  obtain rfl : l.length = n := hr.1
  subst hq
  obtain ⟨K, hK⟩ := ring_ev l each keep hl
  exact QR.ring_Check.calls K A c l each keep _ w hr hc (hK K (Nat.le_refl _))
def noneB (l : List Int) (each keep : Int) : Bool := decide (l.length = 0 ∧ each = 0 ∧ keep = 0)
theorem none_c {w : World} {A : Option Addr} {n c : Nat} {l : List Int} (each keep : Int) {r : Bool} (hq : noneB l each keep = r) (hr : Kd.C (Kd.int .i64) w A n l) (hc : n ≤ c) :
    Calls Tryd.prog 41 #[.agg #[.slice A n c, .int .i64 each, .int .i64 keep]] w fun e w' => e = .returned (.bool r) ∧ Below w.heap.size w w' := by
  obtain rfl : l.length = n := hr.1
  subst hq
  refine QR.msgs_none.calls A c l each keep _ w hr hc ?_
  unfold QR.msgs_none.f noneB
  by_cases h1 : l.length = 0
  · by_cases h2 : each = 0
    · by_cases h3 : keep = 0 <;> simp [h1, h2, h3]
    · simp [h1, h2]
  · simp [h1]
def withinB (n m : Int) : Bool := decide (0 ≤ n ∧ n ≤ m)
theorem within_d (n m : Int) {r : Bool} (hq : withinB n m = r) (w : World) : Calls Tryd.prog 36 #[.int .i64 n, .int .i64 m] w fun e w' => e = .returned (.bool r) ∧ Drawn0 w w' := by
  subst hq
  refine QR.msgs_within.calls n m (withinB n m) w ?_
  unfold QR.msgs_within.f withinB
  by_cases h1 : n ≥ 0
  · simp [h1]
  · simp [h1]
theorem known_d (k : Int) {r : Bool} (hq : decide (1 ≤ k ∧ k ≤ 17) = r) (w : World) : Calls Tryd.prog 35 #[.int .i64 k] w fun e w' => e = .returned (.bool r) ∧ Drawn0 w w' := by
  subst hq
  refine QR.msgs_known.calls k (decide (1 ≤ k ∧ k ≤ 17)) w ?_
  unfold QR.msgs_known.f
  by_cases h1 : k ≥ 1
  · by_cases h2 : k ≤ 17 <;> simp [h1, h2]
  · simp [h1]
/-- an entry as it is laid at first, its bytes aside -/
def zeroB (x : E6) : Bool := decide (x.f0.toList = [] ∧ x.f1.f0 = 0 ∧ x.f1.f1 = 0 ∧ x.f1.f2 = 0 ∧ x.f2.f0 = false)
theorem same0 (x : E6) : sameE x.f0 x.f1.f0 x.f1.f1 x.f1.f2 x.f2.f0 x.f2.f1 ⟨#[]⟩ 0 0 0 false [] = zeroB x := by
  unfold sameE zeroB sameV
  have e0 : (⟨#[]⟩ : ByteArray).toList = [] := by rw [EncC.toList_eq]
  rw [e0]
  by_cases h0 : x.f0.toList = []
  · by_cases h1 : x.f1.f0 = 0
    · by_cases h2 : x.f1.f1 = 0
      · by_cases h3 : x.f1.f2 = 0
        · cases x.f2.f0 <;> simp [h0, h1, h2, h3]
        · simp [h0, h1, h2, h3]
      · simp [h0, h1, h2]
    · simp [h0, h1]
  · simp [h0]
theorem zero_c {w : World} {A : Option Addr} {d : Nat} (x : E6) {r : Bool} (hq : zeroB x = r) (hb : Bytes x.f2.f1) (hr : Kd.C (Kd.int .u8) w A x.f2.f1.length x.f2.f1) (hc : x.f2.f1.length ≤ d) :
    Calls Tryd.prog 39 #[.agg #[.string x.f0, .int .i64 x.f1.f0, .int .i64 x.f1.f1, .int .i64 x.f1.f2, .bool x.f2.f0, .slice A x.f2.f1.length d], .agg #[.string ⟨#[]⟩, .int .i64 0, .int .i64 0, .int .i64 0, .bool false, .slice none 0 0]] w fun e w' => e = .returned (.bool r) ∧ Below w.heap.size w w' :=
  se_c x.f0 x.f1.f0 x.f1.f1 x.f1.f2 x.f2.f0 ⟨#[]⟩ 0 0 0 false ((same0 x).trans hq) hb (by intro y hy; cases hy) hr hc C_empty (Nat.le_refl _)
/-! what may be -/
def a1 (m : Ms) : Bool := decide (1 ≤ m.kind ∧ m.kind ≤ 17) && withinB m.fr 1048575 && withinB m.dst 1048575 && withinB m.ep 1099511627775 && withinB m.op 1099511627775 && withinB m.n 1099511627775
def a2 (m : Ms) : Bool := a1 m && ((hasV m.kind).n || (m.n == 0)) && ((hasV m.kind).f || !m.f) && ((hasV m.kind).l || decide (m.L.length = 0)) && rightB m.L
def a3 (m : Ms) : Bool := if (hasV m.kind).e = true then a2 m && decide (okE m.e) else a2 m && zeroB m.e && decide (m.e.f2.f1.length = 0)
def a4 (m : Ms) : Bool := if (hasV m.kind).r = true then a3 m && ringB m.R m.each m.keep else a3 m && noneB m.R m.each m.keep
def checkM (m : Ms) : Int := if a4 m = true then 0 else 2
end Go.Proofs.YthaoiamgkpkcbaaDoor.Ms
