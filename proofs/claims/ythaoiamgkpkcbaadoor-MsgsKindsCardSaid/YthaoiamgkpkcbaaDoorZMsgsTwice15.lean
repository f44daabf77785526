/- The contracts of pack.Num, pack.Row, pack.Truth, icehouseref02.Num, icehouseref02.Row and icehouseref00.Same, by what they compute. Conditions: numbers of 64 bits, rows that fit. · The contracts of long, SameVal, Same and Size, and of the reference's, by what they tell. Conditions: bytes are bytes. · The bytes of a string in a new row, and the bytes of an entry, plain. Conditions: none. -/
import Derived.Test.YthaoiamgkpkcbaaDoorZMsgsTwice14
import Derived.Test.YthaoiamgkpkcbaaDoorZMsgsTwice1
import Derived.Test.YthaoiamgkpkcbaaDoorZMsgsTwice8
import Derived.Lib.ConvBytes
namespace Go.Proofs.YthaoiamgkpkcbaaDoor.EncC
open Go Go.RowKit Go.Proofs.YthaoiamgkpkcbaaDoor.Wrd Go.Proofs.YthaoiamgkpkcbaaDoor.Enc Go.Proofs.YthaoiamgkpkcbaaDoor.EncP Go.Proofs.YthaoiamgkpkcbaaDoor.QR Go.Proofs.YthaoiamgkpkcbaaDoor.Hlp
open Go.Proofs.YthaoiamgkpkcbaaDoorW.PrintWords Go.Proofs.YthaoiamgkpkcbaaDoorW.PrintLast Go.Proofs.YthaoiamgkpkcbaaDoorW.PrintMore
set_option linter.unusedVariables false
set_option linter.unusedSimpArgs false
theorem loop_eq (s : ByteArray) : ∀ (d i : Nat) (r : List UInt8), i + d = s.size → ByteArray.toList.loop s i r = r.reverse ++ s.data.toList.drop i
  | 0, i, r, h => by
    have hs : s.size = s.data.toList.length := by rw [Array.length_toList]; rfl
    unfold ByteArray.toList.loop
    rw [if_neg (by omega), List.drop_eq_nil_of_le (by omega)]
    simp
  | d + 1, i, r, h => by
    have hs : s.size = s.data.toList.length := by rw [Array.length_toList]; rfl
    have hi : i < s.data.toList.length := by omega
    unfold ByteArray.toList.loop
    rw [if_pos (by omega), loop_eq s d (i + 1) _ (by omega), List.drop_eq_getElem_cons hi]
    have h2 : i < s.data.size := by simpa using hi
    have : s.get! i = s.data.toList[i] := by
      show s.data[i]! = _
      rw [getElem!_pos s.data i h2]
      simp
    rw [this]
    simp
theorem toList_eq (s : ByteArray) : s.toList = s.data.toList := by
  unfold ByteArray.toList
  rw [loop_eq s s.size 0 [] (by omega)]
  simp
theorem nums_inj : ∀ {a b : List Int}, (∀ x ∈ a, 0 ≤ x ∧ x < 256) → (∀ x ∈ b, 0 ≤ x ∧ x < 256) → (strOfNums a).toList = (strOfNums b).toList → a = b := by
  intro a b ha hb h
  rw [toList_eq, toList_eq, strOfNums_data, strOfNums_data] at h
  have key : ∀ l : List Int, (∀ x ∈ l, 0 ≤ x ∧ x < 256) → (l.map fun n => UInt8.ofNat n.toNat).map (fun c => (c.toNat : Int)) = l := by
    intro l hl
    rw [List.map_map]
    conv => rhs; rw [← List.map_id l]
    refine List.map_congr_left fun x hx => ?_
    obtain ⟨h0, h1⟩ := hl x hx
    simp
    omega
  rw [← key a ha, ← key b hb, h]
theorem same_eq {a b : List Int} (ha : ∀ x ∈ a, 0 ≤ x ∧ x < 256) (hb : ∀ x ∈ b, 0 ≤ x ∧ x < 256) : icehouseref00_Same.f a b = some (decide (a = b)) := by
  unfold icehouseref00_Same.f
  congr 1
  by_cases h : a = b
  · subst h; simp
  · simp [h]
    exact fun e => h (nums_inj ha hb e)
theorem same_num {n m : Int} (hn : -9223372036854775808 ≤ n ∧ n ≤ 9223372036854775807) (hm : -9223372036854775808 ≤ m ∧ m ≤ 9223372036854775807) : icehouseref00_Same.f (numB n) (numB m) = some (n == m) := by
  rw [same_eq (numB_bytes n) (numB_bytes m)]
  congr 1
  by_cases h : n = m
  · subst h; simp
  · have : numB n ≠ numB m := fun e => h (numB_inj hn hm e)
    simp [h, this]
/-- a row of its own that a call hands back -/
def Made (w : World) (l : List Int) (e : Ending) (w' : World) : Prop := ∃ v, e = .returned v ∧ Kd.R (Kd.int .u8) 5 w' w.heap.size (fun _ => True) v l ∧ Below w.heap.size w w'
/-- .. beside a number -/
def Made2 (w : World) (l : List Int) (x : Int) (e : Ending) (w' : World) : Prop := ∃ v, e = .returned (.tuple #[v, .int .i64 x]) ∧ Kd.R (Kd.int .u8) 5 w' w.heap.size (fun _ => True) v l ∧ Below w.heap.size w w'
theorem num_c (n : Int) (w : World) : Calls Tryd.prog 29 #[.int .i64 n] w (Made w (numB n)) := pack_Num.calls 9 n _ w (num_f n)
theorem row_c {w : World} {A : Option Addr} {n c : Nat} {l : List Int} (hr : Kd.C (Kd.int .u8) w A n l) (hc : n ≤ c) (hl : n ≤ 65536) : Calls Tryd.prog 59 #[.slice A n c] w (Made2 w (rowB l) 0) := by
  obtain rfl : l.length = n := hr.1
  exact pack_Row.calls 9 _ _ l _ _ w hr hc (row_f l hl)
theorem row_long {w : World} {A : Option Addr} {n c : Nat} {l : List Int} (hr : Kd.C (Kd.int .u8) w A n l) (hc : n ≤ c) (hl : 65536 < n) : Calls Tryd.prog 59 #[.slice A n c] w (Made2 w [] 3) := by
  obtain rfl : l.length = n := hr.1
  exact pack_Row.calls 9 _ _ l _ _ w hr hc (row_f_long l hl)
theorem truth_c (t : Bool) (w : World) : Calls Tryd.prog 32 #[.bool t] w (Made w (truthB t)) := pack_Truth.calls t _ w (truth_f t)
theorem same_c {w : World} {A B : Option Addr} {n c m d : Nat} {l : List Int} (h1 : Kd.C (Kd.int .u8) w A n l) (hc : n ≤ c) (h2 : Kd.C (Kd.int .u8) w B m l) (hd : m ≤ d) :
    Calls Tryd.prog 14 #[.slice A n c, .slice B m d] w fun e w' => e = .returned (.bool true) ∧ Drawn0 w w' := by
  obtain rfl : l.length = n := h1.1
  obtain rfl : l.length = m := h2.1
  exact icehouseref00_Same.calls _ _ l _ _ l true w h1 hc h2 hd (same_f l)
theorem rnum_c (n : Int) (w : World) : Calls Tryd.prog 33 #[.int .i64 n] w (Made w (numB n)) := icehouseref02_Num.calls 30 n _ w (rnum_f n)
theorem rrow_c {w : World} {A : Option Addr} {n c : Nat} {l : List Int} (hr : Kd.C (Kd.int .u8) w A n l) (hc : n ≤ c) (hl : n ≤ 65536) : Calls Tryd.prog 60 #[.slice A n c] w (Made2 w (rowB l) 0) := by
  obtain rfl : l.length = n := hr.1
  exact icehouseref02_Row.calls 30 _ _ l _ _ w hr hc (rrow_f l hl)
theorem C_blki {k : IntKind} {w : World} {g : Nat} {e : TypeId} {fr : Nat × Nat} {cs : Array Value} (xs : List Int) (h : w.heap[g]? = some (.cells cs e fr)) (hm : cs.size ≤ 9223372036854775807) (hcs : cs.toList = xs.map (Value.int k)) :
    Kd.C (Kd.int k) w (some ⟨g, 0, none⟩) cs.size xs := by
  have hl : cs.size = xs.length := by rw [← Array.length_toList, hcs, List.length_map]
  rw [hl] at hm ⊢
  exact C_blk hm h hcs
end Go.Proofs.YthaoiamgkpkcbaaDoor.EncC

namespace Go.Proofs.YthaoiamgkpkcbaaDoor.Tg
open Go.ChangeShapes Go.WideShapes Go.ChangeAt Go.RowKit Go.Proofs.YthaoiamgkpkcbaaDoor.Pk Go.Proofs.YthaoiamgkpkcbaaDoor.EncC
open Go.Proofs.YthaoiamgkpkcbaaDoor.Hlp Go.Proofs.YthaoiamgkpkcbaaDoor.Wrd Go.Proofs.YthaoiamgkpkcbaaDoorW.PrintWords Go.Proofs.YthaoiamgkpkcbaaDoorW.PrintLast Go.Proofs.YthaoiamgkpkcbaaDoorW.PrintMore
set_option linter.unusedVariables false
set_option linter.unusedSimpArgs false
def sameV (h : Bool) (l : List Int) (h' : Bool) (m : List Int) : Bool := if h = true then (if h' = true then decide (l = m) else false) else !h'
theorem str_eq {l m : List Int} (hl : ∀ x ∈ l, 0 ≤ x ∧ x < 256) (hm : ∀ x ∈ m, 0 ≤ x ∧ x < 256) : ((strOfNums l).toList == (strOfNums m).toList) = decide (l = m) := by
  by_cases h : l = m
  · subst h; simp
  · rw [decide_eq_false h]
    exact beq_eq_false_iff_ne.2 (fun e => h (nums_inj hl hm e))
theorem same_f (h : Bool) (l : List Int) (h' : Bool) (m : List Int) (hl : ∀ x ∈ l, 0 ≤ x ∧ x < 256) (hm : ∀ x ∈ m, 0 ≤ x ∧ x < 256) : QR.tags_SameVal.f h l h' m = some (sameV h l h' m) := by
  unfold QR.tags_SameVal.f sameV
  rw [str_eq hl hm]
  cases h <;> cases h' <;> simp
theorem w_succ (i : Nat) (h : i < 9223372036854775807) : wrap64 ((i : Int) + 1) = ((i + 1 : Nat) : Int) := by unfold wrap64; omega
/-- are two entries the same -/
def sameE (k : ByteArray) (a b c : Int) (h : Bool) (v : List Int) (k' : ByteArray) (a' b' c' : Int) (h' : Bool) (v' : List Int) : Bool :=
  if k.toList = k'.toList then (if (a == a' && (b == b' && (c == c'))) = true then sameV h v h' v' else false) else false
theorem sameE_self (k : ByteArray) (a b c : Int) (h : Bool) (v : List Int) : sameE k a b c h v k a b c h v = true := by
  unfold sameE sameV; cases h <;> simp
section
variable {w : World} {A A' : Option Addr} {n n' d d' : Nat} {v v' : List Int}
theorem sv_c (h h' : Bool) {r : Bool} (hq : sameV h v h' v' = r) (hl : ∀ x ∈ v, 0 ≤ x ∧ x < 256) (hm : ∀ x ∈ v', 0 ≤ x ∧ x < 256) (hr : Kd.C (Kd.int .u8) w A n v) (hc : n ≤ d) (hr' : Kd.C (Kd.int .u8) w A' n' v') (hc' : n' ≤ d') :
    Calls Tryd.prog 63 #[.agg #[.bool h, .slice A n d], .agg #[.bool h', .slice A' n' d']] w fun e w' => e = .returned (.bool r) ∧ Below w.heap.size w w' := by
  obtain rfl : v.length = n := hr.1
  obtain rfl : v'.length = n' := hr'.1
  subst hq
  refine (QR.tags_SameVal.calls h A d v h' A' d' v' _ w hr hc hr' hc' (same_f h v h' v' hl hm)).mono ?_
  rintro e w1 ⟨rfl, hb⟩
  exact ⟨rfl, by first | exact hb | exact hb.below⟩
theorem se_c (k : ByteArray) (a b c : Int) (h : Bool) (k' : ByteArray) (a' b' c' : Int) (h' : Bool) {r : Bool} (hq : sameE k a b c h v k' a' b' c' h' v' = r) (hl : ∀ x ∈ v, 0 ≤ x ∧ x < 256) (hm : ∀ x ∈ v', 0 ≤ x ∧ x < 256) (hr : Kd.C (Kd.int .u8) w A n v) (hc : n ≤ d) (hr' : Kd.C (Kd.int .u8) w A' n' v') (hc' : n' ≤ d') :
    Calls Tryd.prog 39 #[.agg #[.string k, .int .i64 a, .int .i64 b, .int .i64 c, .bool h, .slice A n d], .agg #[.string k', .int .i64 a', .int .i64 b', .int .i64 c', .bool h', .slice A' n' d']] w fun e w' => e = .returned (.bool r) ∧ Below w.heap.size w w' := by
  obtain rfl : v.length = n := hr.1
  obtain rfl : v'.length = n' := hr'.1
  subst hq
  refine QR.tags_Same.calls k a b c h A d v k' a' b' c' h' A' d' v' _ w hr hc hr' hc' ?_
  unfold QR.tags_Same.f sameE
  rw [same_f h v h' v' hl hm, Option.bind_some]
  split <;> (try split) <;> rfl
theorem copyb_c (hr : Kd.C (Kd.int .u8) w A n v) (hc : n ≤ d) (hl : n ≤ 140737488351232) :
    Calls Tryd.prog 20 #[.slice A n d] w (Made w v) := by
  obtain rfl : v.length = n := hr.1
  refine QR.icehouseref00_Copy.calls A d v v w hr hc ?_
  unfold QR.icehouseref00_Copy.f
  rw [if_pos (by simp; omega)]; rfl
end
end Go.Proofs.YthaoiamgkpkcbaaDoor.Tg

namespace Go.Proofs.YthaoiamgkpkcbaaDoor.Tg
open Go.ChangeShapes Go.WideShapes Go.ChangeAt Go.RowKit Go.Proofs.YthaoiamgkpkcbaaDoor.Pk Go.Proofs.YthaoiamgkpkcbaaDoor.EncC Go.Proofs.YthaoiamgkpkcbaaDoor.EncP Go.Proofs.YthaoiamgkpkcbaaDoor.Enc
open Go.Proofs.YthaoiamgkpkcbaaDoor.Hlp Go.Proofs.YthaoiamgkpkcbaaDoor.Wrd Go.Proofs.YthaoiamgkpkcbaaDoorW.PrintWords Go.Proofs.YthaoiamgkpkcbaaDoorW.PrintLast Go.Proofs.YthaoiamgkpkcbaaDoorW.PrintMore
set_option linter.unusedVariables false
set_option linter.unusedSimpArgs false
/-- the bytes of a string -/
def bytesOf (s : ByteArray) : List Int := s.data.toList.map fun b : UInt8 => (b.toNat : Int)
theorem bytesOf_len (s : ByteArray) : (bytesOf s).length = s.size := by unfold bytesOf; rw [List.length_map, Array.length_toList]; rfl
theorem bytesOf_range (s : ByteArray) : ∀ x ∈ bytesOf s, 0 ≤ x ∧ x < 256 := by
  intro x hx
  unfold bytesOf at hx
  obtain ⟨b, _, rfl⟩ := List.mem_map.1 hx
  have := b.toNat_lt
  omega
theorem below_bytesWorld (w : World) (s : ByteArray) : Below w.heap.size w (Go.Lib.bytesWorld w 5 s) where
  os := rfl
  tape := rfl
  output := rfl
  size := by rw [Go.Lib.bytesWorld_size]; omega
  block := fun k hk => Go.Lib.bytesWorld_at_old w 5 s k hk
theorem conv_ex (w : World) (s : ByteArray) (hs : s.size ≤ 9223372036854775807) : ∃ c w', (Go.convert 9 24 (.string s)).run Tryd.prog w = .ok (.slice (some ⟨w.heap.size, 0, none⟩) s.size c) w' ∧ s.size ≤ c ∧ Below w.heap.size w w' ∧ Kd.C (Kd.int .u8) w' (some ⟨w.heap.size, 0, none⟩) s.size (bytesOf s) := by
  refine ⟨_, _, Go.Lib.run_convert_string_bytes w 9 24 5 s Tryd.underlying9 Tryd.underlying24 Tryd.underlying5, grownCap_ge _ _ _ _, below_bytesWorld w s, ?_⟩
  have h := C_mk (enc := Value.int .u8) (h1 := fun _ => rfl) (w := Go.Lib.bytesWorld w 5 s) (b := w.heap.size) (off := 0) (xs := bytesOf s) (by rw [bytesOf_len]; exact hs) (fun k hk => by
    rw [bytesOf_len] at hk
    rw [Nat.zero_add, Go.Lib.bytesWorld_cell w 5 s k hk]
    congr 2
    have hk2 : k < s.data.toList.length := by rw [Array.length_toList]; exact hk
    simp only [bytesOf, List.getElem_map, List.getD, List.getElem?_eq_getElem hk2, Option.getD_some])
  rw [bytesOf_len] at h
  exact h
theorem rowB_len {l : List Int} : (rowB l).length ≤ l.length + 9 := by
  unfold rowB
  rw [List.length_append]
  have := numB_len (l.length : Int)
  omega
def entB (k : ByteArray) (a b c : Int) (h : Bool) (v : List Int) : List Int := rowB (bytesOf k) ++ (numB a ++ (numB b ++ (numB c ++ (truthB h ++ (if h = true then rowB v else [])))))
/-- an entry's bytes, and what is wrong -/
def bytesV (k : ByteArray) (a b c : Int) (h : Bool) (v : List Int) : List Int × Int := if okEnt k a b c h v then (entB k a b c h v, 0) else ([], 2)
def catB (l : List Int) : List Int := (l.map numB).flatten
theorem catB_snoc (l : List Int) (x : Int) : catB (l ++ [x]) = catB l ++ numB x := by unfold catB; simp
theorem catB_len (l : List Int) : (catB l).length ≤ 9 * l.length := by
  induction l with
  | nil => simp [catB]
  | cons x l ih =>
    have := numB_len x
    have e : catB (x :: l) = numB x ++ catB l := rfl
    rw [e, List.length_append, List.length_cons]; omega
theorem apart {α : Type} {d : Kd α} {e T : Nat} {w : World} {base bx : Nat} {ok : Nat → Prop} {v : Value} {xs : List α} {cs : Array Value} (h : d.R e w base ok v xs) (hx : w.heap[bx]? = some (.cells cs T (0, 0))) (hne : T ≠ e) : some bx ≠ v.ownBlock := by
  intro hk
  obtain ⟨cells, hc⟩ := own_typed (Kd.R_own h).choose_spec bx hk.symm
  rw [hx] at hc
  injection hc with hc
  injection hc with _ h2
  exact hne h2
/-- a block of another type behind an append to a row of one's own -/
theorem blk_apart {α : Type} {d : Kd α} {e T : Nat} {w w1 : World} {base bx : Nat} {ok : Nat → Prop} {v : Value} {xs : List α} {cs : Array Value} (h : d.R e w base ok v xs) (hx : w.heap[bx]? = some (.cells cs T (0, 0))) (hne : T ≠ e) (hg : w.grownBy w1 v.ownBlock) : w1.heap[bx]? = some (.cells cs T (0, 0)) :=
  (hg.block _ (blk_lt hx) (apart h hx hne)).trans hx
theorem truthS_dead {s : St} (h : s.e ≠ 0) : truthS s = (false, s) := by unfold truthS; rw [if_neg h]
theorem failS_dead {s : St} (h : s.e ≠ 0) : failS s = s := by unfold failS; rw [if_neg h]
end Go.Proofs.YthaoiamgkpkcbaaDoor.Tg
