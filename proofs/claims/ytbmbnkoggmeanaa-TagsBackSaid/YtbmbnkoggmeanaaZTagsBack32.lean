/- What an argument that is a tag, a value, an entry reads as. -/
import Derived.Test.YtbmbnkoggmeanaaZTagsBack31
import Derived.Test.YtbmbnkoggmeanaaRows
namespace Go.Proofs.Ytbmbnkoggmeanaa.Opn
open Go.RowKit Go.Proofs.YtbmbnkoggmeanaaW.PrintWords
abbrev kTag : Kd (Int × Int × Int) := Kd.pair (Kd.int .i64) (Kd.pair (Kd.int .i64) (Kd.int .i64))
def wInt (n : Int) : Prop := (Lit.int .i64 n).wf = true
def wTag (p : Int × Int × Int) : Prop := wInt p.1 ∧ wInt p.2.1 ∧ wInt p.2.2
theorem opens_tag : Opens Try.prog 23 kTag wTag := by
  refine @opens_struct _ _ _ _ _ _ Try.underlying23 (by kernel_rfl) ?_
  refine @fopens_cons Try.prog _ _ 0 _ _ (Kd.int .i64) (Kd.pair (Kd.int .i64) (Kd.int .i64)) (wInt) (fun q => wInt q.1 ∧ wInt q.2) rfl (by kernel_rfl) ?_ ?_
  · exact @opens_int _ _ _ Try.underlying3
  refine @fopens_cons Try.prog _ _ 1 _ _ (Kd.int .i64) (Kd.int .i64) (wInt) (wInt) rfl (by kernel_rfl) ?_ ?_
  · exact @opens_int _ _ _ Try.underlying3
  exact @fopens_one Try.prog _ 2 _ (Kd.int .i64) (wInt) rfl (by kernel_rfl) (@opens_int _ _ _ Try.underlying3)
abbrev kVal : Kd (Bool × List Int) := Kd.pair Kd.bool (Kd.slice 5 (Kd.int .u8))
def wBytes (l : List Int) : Prop := l.length ≤ maxLen ∧ l.length * 1 ≤ 140737488351232 ∧ ∀ x ∈ l, (Lit.int .u8 x).wf = true
def wVal (p : Bool × List Int) : Prop := True ∧ wBytes p.2
theorem opens_val : Opens Try.prog 38 kVal wVal := by
  refine @opens_struct _ _ _ _ _ _ Try.underlying38 (by kernel_rfl) ?_
  refine @fopens_cons Try.prog _ _ 0 _ _ (Kd.bool) (Kd.slice 5 (Kd.int .u8)) (fun _ => True) (wBytes) rfl (by kernel_rfl) ?_ ?_
  · exact @opens_bool _ _ Try.underlying4
  exact @fopens_one Try.prog _ 1 _ (Kd.slice 5 (Kd.int .u8)) (wBytes) rfl (by kernel_rfl) (@opens_slice _ _ _ _ _ _ 1 Try.underlying36 (by kernel_rfl) (by kernel_rfl) (@opens_int _ _ _ Try.underlying5))
abbrev kEnt : Kd (ByteArray × (Int × Int × Int) × Bool × List Int) := Kd.pair Kd.string (Kd.pair kTag kVal)
def wEnt (p : ByteArray × (Int × Int × Int) × Bool × List Int) : Prop := p.1.size ≤ 140737488351232 ∧ wTag p.2.1 ∧ wVal p.2.2
theorem opens_ent : Opens Try.prog 40 kEnt wEnt := by
  refine @opens_struct _ _ _ _ _ _ Try.underlying40 (by kernel_rfl) ?_
  refine @fopens_cons Try.prog _ _ 0 _ _ (Kd.string) (Kd.pair kTag kVal) (fun s => s.size ≤ 140737488351232) (fun q => wTag q.1 ∧ wVal q.2) rfl (by kernel_rfl) ?_ ?_
  · exact @opens_string _ _ Try.underlying9
  refine @fopens_cons Try.prog _ _ 1 _ _ (kTag) (kVal) (wTag) (wVal) rfl (by kernel_rfl) ?_ ?_
  · exact @opens_tag
  exact @fopens_one Try.prog _ 4 _ (kVal) (wVal) rfl (by kernel_rfl) (@opens_val)
/-- a tag's three numbers -/
theorem tag_cells {w : World} {cs : List Value} {p : Int × Int × Int} (h : kTag.K w p cs) : cs = [.int .i64 p.1, .int .i64 p.2.1, .int .i64 p.2.2] := by
  obtain ⟨_, _, rfl, rfl, _, _, rfl, rfl, rfl⟩ := h
  rfl

theorem val_cells {w : World} {cs : List Value} {p : Bool × List Int} (h : kVal.K w p cs) : ∃ A c, cs = [.bool p.1, .slice A p.2.length c] ∧ p.2.length ≤ c ∧ Kd.C (Kd.int .u8) w A p.2.length p.2 := by
  obtain ⟨_, _, rfl, rfl, A, c, rfl, hc, hC⟩ := h
  exact ⟨A, c, rfl, hc, hC⟩
theorem ent_cells {w : World} {cs : List Value} {p : ByteArray × (Int × Int × Int) × Bool × List Int} (h : kEnt.K w p cs) :
    ∃ A c, cs = [.string p.1, .int .i64 p.2.1.1, .int .i64 p.2.1.2.1, .int .i64 p.2.1.2.2, .bool p.2.2.1, .slice A p.2.2.2.length c] ∧ p.2.2.2.length ≤ c ∧ Kd.C (Kd.int .u8) w A p.2.2.2.length p.2.2.2 := by
  obtain ⟨_, _, rfl, rfl, _, _, rfl, ht, hv⟩ := h
  obtain rfl := tag_cells ht
  obtain ⟨A, c, rfl, hc, hC⟩ := val_cells hv
  exact ⟨A, c, rfl, hc, hC⟩

end Go.Proofs.Ytbmbnkoggmeanaa.Opn
