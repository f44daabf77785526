/- The bytes of a string in a new row, and the bytes of an entry, plain. Conditions: none. -/
import Derived.Test.YtbmbnkoggmeanaaZTagsReads22
import Derived.Lib.ConvBytes
namespace Go.Proofs.Ytbmbnkoggmeanaa.Tg
open Go.ChangeShapes Go.WideShapes Go.ChangeAt Go.RowKit Go.Proofs.Ytbmbnkoggmeanaa.Pk Go.Proofs.Ytbmbnkoggmeanaa.EncC Go.Proofs.Ytbmbnkoggmeanaa.EncP Go.Proofs.Ytbmbnkoggmeanaa.Enc
open Go.Proofs.Ytbmbnkoggmeanaa.Hlp Go.Proofs.Ytbmbnkoggmeanaa.Wrd Go.Proofs.YtbmbnkoggmeanaaW.PrintWords Go.Proofs.YtbmbnkoggmeanaaW.PrintLast Go.Proofs.YtbmbnkoggmeanaaW.PrintMore
set_option linter.unusedVariables false
set_option linter.unusedSimpArgs false
/-- the bytes of a string -/
def bytesOf (s : ByteArray) : List Int := s.data.toList.map fun b : UInt8 => (b.toNat : Int)
theorem bytesOf_len (s : ByteArray) : (bytesOf s).length = s.size := by unfold bytesOf; rw [List.length_map, Array.length_toList]; rfl
theorem bytesOf_range (s : ByteArray) : ∀ x ∈ bytesOf s, 0 ≤ x ∧ x < 256 := by
  intro x hx
  unfold bytesOf at hx
  obtain ⟨b, _, rfl⟩ := List.mem_map.1 hx
  have := b.toNat_lt
  omega
theorem below_bytesWorld (w : World) (s : ByteArray) : Below w.heap.size w (Go.Lib.bytesWorld w 5 s) where
  os := rfl
  tape := rfl
  output := rfl
  size := by rw [Go.Lib.bytesWorld_size]; omega
  block := fun k hk => Go.Lib.bytesWorld_at_old w 5 s k hk
theorem conv_ex (w : World) (s : ByteArray) (hs : s.size ≤ 9223372036854775807) : ∃ c w', (Go.convert 9 36 (.string s)).run Try.prog w = .ok (.slice (some ⟨w.heap.size, 0, none⟩) s.size c) w' ∧ s.size ≤ c ∧ Below w.heap.size w w' ∧ Kd.C (Kd.int .u8) w' (some ⟨w.heap.size, 0, none⟩) s.size (bytesOf s) := by
  refine ⟨_, _, Go.Lib.run_convert_string_bytes w 9 36 5 s Try.underlying9 Try.underlying36 Try.underlying5, grownCap_ge _ _ _ _, below_bytesWorld w s, ?_⟩
  have h := C_mk (enc := Value.int .u8) (h1 := fun _ => rfl) (w := Go.Lib.bytesWorld w 5 s) (b := w.heap.size) (off := 0) (xs := bytesOf s) (by rw [bytesOf_len]; exact hs) (fun k hk => by
    rw [bytesOf_len] at hk
    rw [Nat.zero_add, Go.Lib.bytesWorld_cell w 5 s k hk]
    congr 2
    have hk2 : k < s.data.toList.length := by rw [Array.length_toList]; exact hk
    simp only [bytesOf, List.getElem_map, List.getD, List.getElem?_eq_getElem hk2, Option.getD_some])
  rw [bytesOf_len] at h
  exact h
theorem rowB_len {l : List Int} : (rowB l).length ≤ l.length + 9 := by
  unfold rowB
  rw [List.length_append]
  have := numB_len (l.length : Int)
  omega
def entB (k : ByteArray) (a b c : Int) (h : Bool) (v : List Int) : List Int := rowB (bytesOf k) ++ (numB a ++ (numB b ++ (numB c ++ (truthB h ++ (if h = true then rowB v else [])))))
/-- an entry's bytes, and what is wrong -/
def bytesV (k : ByteArray) (a b c : Int) (h : Bool) (v : List Int) : List Int × Int := if okEnt k a b c h v then (entB k a b c h v, 0) else ([], 2)
def catB (l : List Int) : List Int := (l.map numB).flatten
theorem catB_snoc (l : List Int) (x : Int) : catB (l ++ [x]) = catB l ++ numB x := by unfold catB; simp
theorem catB_len (l : List Int) : (catB l).length ≤ 9 * l.length := by
  induction l with
  | nil => simp [catB]
  | cons x l ih =>
    have := numB_len x
    have e : catB (x :: l) = numB x ++ catB l := rfl
    rw [e, List.length_append, List.length_cons]; omega
theorem apart {α : Type} {d : Kd α} {e T : Nat} {w : World} {base bx : Nat} {ok : Nat → Prop} {v : Value} {xs : List α} {cs : Array Value} (h : d.R e w base ok v xs) (hx : w.heap[bx]? = some (.cells cs T (0, 0))) (hne : T ≠ e) : some bx ≠ v.ownBlock := by
  intro hk
  obtain ⟨cells, hc⟩ := own_typed (Kd.R_own h).choose_spec bx hk.symm
  rw [hx] at hc
  injection hc with hc
  injection hc with _ h2
  exact hne h2
/-- a block of another type behind an append to a row of one's own -/
theorem blk_apart {α : Type} {d : Kd α} {e T : Nat} {w w1 : World} {base bx : Nat} {ok : Nat → Prop} {v : Value} {xs : List α} {cs : Array Value} (h : d.R e w base ok v xs) (hx : w.heap[bx]? = some (.cells cs T (0, 0))) (hne : T ≠ e) (hg : w.grownBy w1 v.ownBlock) : w1.heap[bx]? = some (.cells cs T (0, 0)) :=
  (hg.block _ (blk_lt hx) (apart h hx hne)).trans hx
end Go.Proofs.Ytbmbnkoggmeanaa.Tg
