/- The contracts of pack.Num, pack.Row, pack.Truth, icehouseref02.Num, icehouseref02.Row and icehouseref00.Same, by what they compute. Conditions: numbers of 64 bits, rows that fit. -/
import Derived.Test.YtfhgclojfjiblaaZPackBack20
import Derived.Test.YtfhgclojfjiblaaZPackBack0
namespace Go.Proofs.Ytfhgclojfjiblaa.EncC
open Go Go.RowKit Go.Proofs.Ytfhgclojfjiblaa.Wrd Go.Proofs.Ytfhgclojfjiblaa.Enc Go.Proofs.Ytfhgclojfjiblaa.EncP Go.Proofs.Ytfhgclojfjiblaa.PPackPuts Go.Proofs.Ytfhgclojfjiblaa.Hlp
open Go.Proofs.YtfhgclojfjiblaaW.PrintWords Go.Proofs.YtfhgclojfjiblaaW.PrintLast Go.Proofs.YtfhgclojfjiblaaW.PrintMore
set_option linter.unusedVariables false
set_option linter.unusedSimpArgs false
theorem loop_eq (s : ByteArray) : ∀ (d i : Nat) (r : List UInt8), i + d = s.size → ByteArray.toList.loop s i r = r.reverse ++ s.data.toList.drop i
  | 0, i, r, h => by
    have hs : s.size = s.data.toList.length := by rw [Array.length_toList]; rfl
    unfold ByteArray.toList.loop
    rw [if_neg (by omega), List.drop_eq_nil_of_le (by omega)]
    simp
  | d + 1, i, r, h => by
    have hs : s.size = s.data.toList.length := by rw [Array.length_toList]; rfl
    have hi : i < s.data.toList.length := by omega
    unfold ByteArray.toList.loop
    rw [if_pos (by omega), loop_eq s d (i + 1) _ (by omega), List.drop_eq_getElem_cons hi]
    have h2 : i < s.data.size := by simpa using hi
    have : s.get! i = s.data.toList[i] := by
      show s.data[i]! = _
      rw [getElem!_pos s.data i h2]
      simp
    rw [this]
    simp
theorem toList_eq (s : ByteArray) : s.toList = s.data.toList := by
  unfold ByteArray.toList
  rw [loop_eq s s.size 0 [] (by omega)]
  simp
theorem nums_inj : ∀ {a b : List Int}, (∀ x ∈ a, 0 ≤ x ∧ x < 256) → (∀ x ∈ b, 0 ≤ x ∧ x < 256) → (strOfNums a).toList = (strOfNums b).toList → a = b := by
  intro a b ha hb h
  rw [toList_eq, toList_eq, strOfNums_data, strOfNums_data] at h
  have key : ∀ l : List Int, (∀ x ∈ l, 0 ≤ x ∧ x < 256) → (l.map fun n => UInt8.ofNat n.toNat).map (fun c => (c.toNat : Int)) = l := by
    intro l hl
    rw [List.map_map]
    conv => rhs; rw [← List.map_id l]
    refine List.map_congr_left fun x hx => ?_
    obtain ⟨h0, h1⟩ := hl x hx
    simp
    omega
  rw [← key a ha, ← key b hb, h]
theorem same_eq {a b : List Int} (ha : ∀ x ∈ a, 0 ≤ x ∧ x < 256) (hb : ∀ x ∈ b, 0 ≤ x ∧ x < 256) : icehouseref00_Same.f a b = some (decide (a = b)) := by
  unfold icehouseref00_Same.f
  congr 1
  by_cases h : a = b
  · subst h; simp
  · simp [h]
    exact fun e => h (nums_inj ha hb e)
theorem same_num {n m : Int} (hn : -9223372036854775808 ≤ n ∧ n ≤ 9223372036854775807) (hm : -9223372036854775808 ≤ m ∧ m ≤ 9223372036854775807) : icehouseref00_Same.f (numB n) (numB m) = some (n == m) := by
  rw [same_eq (numB_bytes n) (numB_bytes m)]
  congr 1
  by_cases h : n = m
  · subst h; simp
  · have : numB n ≠ numB m := fun e => h (numB_inj hn hm e)
    simp [h, this]
/-- a row of its own that a call hands back -/
def Made (w : World) (l : List Int) (e : Ending) (w' : World) : Prop := ∃ v, e = .returned v ∧ Kd.R (Kd.int .u8) 5 w' w.heap.size (fun _ => True) v l ∧ Below w.heap.size w w'
/-- .. beside a number -/
def Made2 (w : World) (l : List Int) (x : Int) (e : Ending) (w' : World) : Prop := ∃ v, e = .returned (.tuple #[v, .int .i64 x]) ∧ Kd.R (Kd.int .u8) 5 w' w.heap.size (fun _ => True) v l ∧ Below w.heap.size w w'
theorem num_c (n : Int) (w : World) : Calls Try.prog 14 #[.int .i64 n] w (Made w (numB n)) := pack_Num.calls 9 n _ w (num_f n)
theorem row_c {w : World} {A : Option Addr} {n c : Nat} {l : List Int} (hr : Kd.C (Kd.int .u8) w A n l) (hc : n ≤ c) (hl : n ≤ 65536) : Calls Try.prog 11 #[.slice A n c] w (Made2 w (rowB l) 0) := by
  obtain rfl : l.length = n := hr.1
  exact pack_Row.calls 9 _ _ l _ _ w hr hc (row_f l hl)
theorem row_long {w : World} {A : Option Addr} {n c : Nat} {l : List Int} (hr : Kd.C (Kd.int .u8) w A n l) (hc : n ≤ c) (hl : 65536 < n) : Calls Try.prog 11 #[.slice A n c] w (Made2 w [] 3) := by
  obtain rfl : l.length = n := hr.1
  exact pack_Row.calls 9 _ _ l _ _ w hr hc (row_f_long l hl)
theorem truth_c (t : Bool) (w : World) : Calls Try.prog 16 #[.bool t] w (Made w (truthB t)) := pack_Truth.calls t _ w (truth_f t)
theorem same_c {w : World} {A B : Option Addr} {n c m d : Nat} {l : List Int} (h1 : Kd.C (Kd.int .u8) w A n l) (hc : n ≤ c) (h2 : Kd.C (Kd.int .u8) w B m l) (hd : m ≤ d) :
    Calls Try.prog 13 #[.slice A n c, .slice B m d] w fun e w' => e = .returned (.bool true) ∧ Drawn0 w w' := by
  obtain rfl : l.length = n := h1.1
  obtain rfl : l.length = m := h2.1
  exact icehouseref00_Same.calls _ _ l _ _ l true w h1 hc h2 hd (same_f l)
theorem rnum_c (n : Int) (w : World) : Calls Try.prog 15 #[.int .i64 n] w (Made w (numB n)) := icehouseref02_Num.calls 30 n _ w (rnum_f n)
theorem rrow_c {w : World} {A : Option Addr} {n c : Nat} {l : List Int} (hr : Kd.C (Kd.int .u8) w A n l) (hc : n ≤ c) (hl : n ≤ 65536) : Calls Try.prog 12 #[.slice A n c] w (Made2 w (rowB l) 0) := by
  obtain rfl : l.length = n := hr.1
  exact icehouseref02_Row.calls 30 _ _ l _ _ w hr hc (rrow_f l hl)
theorem C_blki {k : IntKind} {w : World} {g : Nat} {e : TypeId} {fr : Nat × Nat} {cs : Array Value} (xs : List Int) (h : w.heap[g]? = some (.cells cs e fr)) (hm : cs.size ≤ 9223372036854775807) (hcs : cs.toList = xs.map (Value.int k)) :
    Kd.C (Kd.int k) w (some ⟨g, 0, none⟩) cs.size xs := by
  have hl : cs.size = xs.length := by rw [← Array.length_toList, hcs, List.length_map]
  rw [hl] at hm ⊢
  exact C_blk hm h hcs
end Go.Proofs.Ytfhgclojfjiblaa.EncC
