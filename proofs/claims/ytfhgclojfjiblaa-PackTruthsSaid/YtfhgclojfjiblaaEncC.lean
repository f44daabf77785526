/- The contracts of pack.Num, pack.Row, pack.Truth, icehouseref02.Num, icehouseref02.Row and icehouseref00.Same, by what they compute. Conditions: numbers of 64 bits, rows that fit. -/
import Derived.Test.YtfhgclojfjiblaaEncP
import Derived.Test.YtfhgclojfjiblaaHlp
namespace Go.Proofs.Ytfhgclojfjiblaa.EncC
open Go Go.RowKit Go.Proofs.Ytfhgclojfjiblaa.Wrd Go.Proofs.Ytfhgclojfjiblaa.Enc Go.Proofs.Ytfhgclojfjiblaa.EncP Go.Proofs.Ytfhgclojfjiblaa.PPackPuts Go.Proofs.Ytfhgclojfjiblaa.Hlp
open Go.Proofs.YtfhgclojfjiblaaW.PrintWords Go.Proofs.YtfhgclojfjiblaaW.PrintLast Go.Proofs.YtfhgclojfjiblaaW.PrintMore
set_option linter.unusedVariables false
set_option linter.unusedSimpArgs false
/-- a row of its own that a call hands back -/
def Made (w : World) (l : List Int) (e : Ending) (w' : World) : Prop := ∃ v, e = .returned v ∧ Kd.R (Kd.int .u8) 5 w' w.heap.size (fun _ => True) v l ∧ Below w.heap.size w w'
/-- .. beside a number -/
def Made2 (w : World) (l : List Int) (x : Int) (e : Ending) (w' : World) : Prop := ∃ v, e = .returned (.tuple #[v, .int .i64 x]) ∧ Kd.R (Kd.int .u8) 5 w' w.heap.size (fun _ => True) v l ∧ Below w.heap.size w w'
theorem num_c (n : Int) (w : World) : Calls Try.prog 14 #[.int .i64 n] w (Made w (numB n)) := pack_Num.calls 9 n _ w (num_f n)
theorem row_c {w : World} {A : Option Addr} {n c : Nat} {l : List Int} (hr : Kd.C (Kd.int .u8) w A n l) (hc : n ≤ c) (hl : n ≤ 65536) : Calls Try.prog 11 #[.slice A n c] w (Made2 w (rowB l) 0) := by
  obtain rfl : l.length = n := hr.1
  exact pack_Row.calls 9 _ _ l _ _ w hr hc (row_f l hl)
theorem row_long {w : World} {A : Option Addr} {n c : Nat} {l : List Int} (hr : Kd.C (Kd.int .u8) w A n l) (hc : n ≤ c) (hl : 65536 < n) : Calls Try.prog 11 #[.slice A n c] w (Made2 w [] 3) := by
  obtain rfl : l.length = n := hr.1
  exact pack_Row.calls 9 _ _ l _ _ w hr hc (row_f_long l hl)
theorem truth_c (t : Bool) (w : World) : Calls Try.prog 16 #[.bool t] w (Made w (truthB t)) := pack_Truth.calls t _ w (truth_f t)
theorem same_c {w : World} {A B : Option Addr} {n c m d : Nat} {l : List Int} (h1 : Kd.C (Kd.int .u8) w A n l) (hc : n ≤ c) (h2 : Kd.C (Kd.int .u8) w B m l) (hd : m ≤ d) :
    Calls Try.prog 13 #[.slice A n c, .slice B m d] w fun e w' => e = .returned (.bool true) ∧ Drawn0 w w' := by
  obtain rfl : l.length = n := h1.1
  obtain rfl : l.length = m := h2.1
  exact icehouseref00_Same.calls _ _ l _ _ l true w h1 hc h2 hd (same_f l)
theorem rnum_c (n : Int) (w : World) : Calls Try.prog 15 #[.int .i64 n] w (Made w (numB n)) := icehouseref02_Num.calls 30 n _ w (rnum_f n)
theorem rrow_c {w : World} {A : Option Addr} {n c : Nat} {l : List Int} (hr : Kd.C (Kd.int .u8) w A n l) (hc : n ≤ c) (hl : n ≤ 65536) : Calls Try.prog 12 #[.slice A n c] w (Made2 w (rowB l) 0) := by
  obtain rfl : l.length = n := hr.1
  exact icehouseref02_Row.calls 30 _ _ l _ _ w hr hc (rrow_f l hl)
theorem C_blki {k : IntKind} {w : World} {g : Nat} {e : TypeId} {fr : Nat × Nat} {cs : Array Value} (xs : List Int) (h : w.heap[g]? = some (.cells cs e fr)) (hm : cs.size ≤ 9223372036854775807) (hcs : cs.toList = xs.map (Value.int k)) :
    Kd.C (Kd.int k) w (some ⟨g, 0, none⟩) cs.size xs := by
  have hl : cs.size = xs.length := by rw [← Array.length_toList, hcs, List.length_map]
  rw [hl] at hm ⊢
  exact C_blk hm h hcs
end Go.Proofs.Ytfhgclojfjiblaa.EncC
