/-
  No cell of these rows narrows 'for every input' (looked for: loops, veiled, ifaces, maps, wideKeys, modest, calm, conditions, laid).
  DERIVED. THE GIVEN ROWS OF THIS SEAT. 9 by the template 'for every input the law returns true; each argument reads behind the call as it read before'; 0 by the template 'total and deterministic' (their statements: YtbmbnkoggmeanaaTotals.lean).
  GIVEN WITH THE SEED: the statements are not yours to turn. If you find one false, say at which input.
  Laid BY PROGRAM, IN A SANDBOX (cutbox-rows.mjs): the forced cells as the released guide's own fill.sh prints them over the translation 3eb775c1bbcb0bf1… (all of the seat's roots in one cut). By AI agents, Wed Nov 11 2026. No macro, syntax, notation, axiom, sorry.
-/
import Derived.Test.YtbmbnkoggmeanaaChecked
import GoSem.Claim
import GoSem.ClaimJoined
import GoSem.ClaimMapViews
import Derived.JoinedTies
import Derived.KernelRfl
namespace Go.Proofs.Ytbmbnkoggmeanaa
/- THE CELL 'sum', in the pinned program and in every row, IS THE sha256 OF THE DUMP (.gsa) THAT YtbmbnkoggmeanaaProg.lean LOADS. Nothing in Lean hashes anything: it is a label: what it is worth is what the hold of that sum in a sandbox is worth. -/
noncomputable def Try.pinned : Pinned := { name := "ytbmbnkoggmeanaa", sum := "3eb775c1bbcb0bf1a32acf1fed5049cc80a6c621f034160f06d03e09d21278a6", checked := Try.checked }
namespace Rows
def none {H : Type} : Left H := { results := [], args := [] }

/-- 'icehouselaw03.TagsTwo': WHATEVER THE INPUT: true; the input reads as it did. -/
def tagsTwoSpec : ChangeSpec := { name := "tagsTwo", fn := fun _ => fun
  | [d1, d2, d3, d4] => { results := [.lit (.bool true)], args := [d1, d2, d3, d4] }
  | _ => none }
def tagsTwoRow : OpenClaim := { program := "ytbmbnkoggmeanaa", sum := "3eb775c1bbcb0bf1a32acf1fed5049cc80a6c621f034160f06d03e09d21278a6", func := "icehouse/icehouselaw03.TagsTwo", spec := "tagsTwo", apart := false }
def TagsTwoSaid : Prop := tagsTwoRow.holds Try.pinned (OpenSpec.ofChange tagsTwoSpec)

/-- ITS FALSE NEIGHBOUR: 'it returns false'. Refute it at one input. -/
def tagsTwoWrong : ChangeSpec := { name := "tagsTwo", fn := fun _ => fun
  | [d1, d2, d3, d4] => { results := [.lit (.bool false)], args := [d1, d2, d3, d4] }
  | _ => none }
def TagsTwoWrongFalsely : Prop := tagsTwoRow.holds Try.pinned (OpenSpec.ofChange tagsTwoWrong)

/-- 'icehouselaw03.TagsOrder': WHATEVER THE INPUT: true; the input reads as it did. -/
def tagsOrderSpec : ChangeSpec := { name := "tagsOrder", fn := fun _ => fun
  | [d1, d2, d3, d4, d5] => { results := [.lit (.bool true)], args := [d1, d2, d3, d4, d5] }
  | _ => none }
def tagsOrderRow : OpenClaim := { program := "ytbmbnkoggmeanaa", sum := "3eb775c1bbcb0bf1a32acf1fed5049cc80a6c621f034160f06d03e09d21278a6", func := "icehouse/icehouselaw03.TagsOrder", spec := "tagsOrder", apart := false }
def TagsOrderSaid : Prop := tagsOrderRow.holds Try.pinned (OpenSpec.ofChange tagsOrderSpec)

/-- ITS FALSE NEIGHBOUR: 'it returns false'. Refute it at one input. -/
def tagsOrderWrong : ChangeSpec := { name := "tagsOrder", fn := fun _ => fun
  | [d1, d2, d3, d4, d5] => { results := [.lit (.bool false)], args := [d1, d2, d3, d4, d5] }
  | _ => none }
def TagsOrderWrongFalsely : Prop := tagsOrderRow.holds Try.pinned (OpenSpec.ofChange tagsOrderWrong)

/-- 'icehouselaw03.TagsReads': WHATEVER THE INPUT: true; the input reads as it did. -/
def tagsReadsSpec : ChangeSpec := { name := "tagsReads", fn := fun _ => fun
  | [d] => { results := [.lit (.bool true)], args := [d] }
  | _ => none }
def tagsReadsRow : OpenClaim := { program := "ytbmbnkoggmeanaa", sum := "3eb775c1bbcb0bf1a32acf1fed5049cc80a6c621f034160f06d03e09d21278a6", func := "icehouse/icehouselaw03.TagsReads", spec := "tagsReads", apart := false }
def TagsReadsSaid : Prop := tagsReadsRow.holds Try.pinned (OpenSpec.ofChange tagsReadsSpec)

/-- ITS FALSE NEIGHBOUR: 'it returns false'. Refute it at one input. -/
def tagsReadsWrong : ChangeSpec := { name := "tagsReads", fn := fun _ => fun
  | [d] => { results := [.lit (.bool false)], args := [d] }
  | _ => none }
def TagsReadsWrongFalsely : Prop := tagsReadsRow.holds Try.pinned (OpenSpec.ofChange tagsReadsWrong)

/-- 'icehouselaw03.TagsMax': WHATEVER THE INPUT: true; the input reads as it did. -/
def tagsMaxSpec : ChangeSpec := { name := "tagsMax", fn := fun _ => fun
  | [d] => { results := [.lit (.bool true)], args := [d] }
  | _ => none }
def tagsMaxRow : OpenClaim := { program := "ytbmbnkoggmeanaa", sum := "3eb775c1bbcb0bf1a32acf1fed5049cc80a6c621f034160f06d03e09d21278a6", func := "icehouse/icehouselaw03.TagsMax", spec := "tagsMax", apart := false }
def TagsMaxSaid : Prop := tagsMaxRow.holds Try.pinned (OpenSpec.ofChange tagsMaxSpec)

/-- ITS FALSE NEIGHBOUR: 'it returns false'. Refute it at one input. -/
def tagsMaxWrong : ChangeSpec := { name := "tagsMax", fn := fun _ => fun
  | [d] => { results := [.lit (.bool false)], args := [d] }
  | _ => none }
def TagsMaxWrongFalsely : Prop := tagsMaxRow.holds Try.pinned (OpenSpec.ofChange tagsMaxWrong)

/-- 'icehouselaw03.TagsMaxes': WHATEVER THE INPUT: true; the input reads as it did. -/
def tagsMaxesSpec : ChangeSpec := { name := "tagsMaxes", fn := fun _ => fun
  | [d1, d2] => { results := [.lit (.bool true)], args := [d1, d2] }
  | _ => none }
def tagsMaxesRow : OpenClaim := { program := "ytbmbnkoggmeanaa", sum := "3eb775c1bbcb0bf1a32acf1fed5049cc80a6c621f034160f06d03e09d21278a6", func := "icehouse/icehouselaw03.TagsMaxes", spec := "tagsMaxes", apart := false }
def TagsMaxesSaid : Prop := tagsMaxesRow.holds Try.pinned (OpenSpec.ofChange tagsMaxesSpec)

/-- ITS FALSE NEIGHBOUR: 'it returns false'. Refute it at one input. -/
def tagsMaxesWrong : ChangeSpec := { name := "tagsMaxes", fn := fun _ => fun
  | [d1, d2] => { results := [.lit (.bool false)], args := [d1, d2] }
  | _ => none }
def TagsMaxesWrongFalsely : Prop := tagsMaxesRow.holds Try.pinned (OpenSpec.ofChange tagsMaxesWrong)

/-- 'icehouselaw03.TagsVals': WHATEVER THE INPUT: true; the input reads as it did. -/
def tagsValsSpec : ChangeSpec := { name := "tagsVals", fn := fun _ => fun
  | [d1, d2, d3, d4] => { results := [.lit (.bool true)], args := [d1, d2, d3, d4] }
  | _ => none }
def tagsValsRow : OpenClaim := { program := "ytbmbnkoggmeanaa", sum := "3eb775c1bbcb0bf1a32acf1fed5049cc80a6c621f034160f06d03e09d21278a6", func := "icehouse/icehouselaw03.TagsVals", spec := "tagsVals", apart := false }
def TagsValsSaid : Prop := tagsValsRow.holds Try.pinned (OpenSpec.ofChange tagsValsSpec)

/-- ITS FALSE NEIGHBOUR: 'it returns false'. Refute it at one input. -/
def tagsValsWrong : ChangeSpec := { name := "tagsVals", fn := fun _ => fun
  | [d1, d2, d3, d4] => { results := [.lit (.bool false)], args := [d1, d2, d3, d4] }
  | _ => none }
def TagsValsWrongFalsely : Prop := tagsValsRow.holds Try.pinned (OpenSpec.ofChange tagsValsWrong)

/-- 'icehouselaw03.TagsNewer': WHATEVER THE INPUT: true; the input reads as it did. -/
def tagsNewerSpec : ChangeSpec := { name := "tagsNewer", fn := fun _ => fun
  | [d1, d2] => { results := [.lit (.bool true)], args := [d1, d2] }
  | _ => none }
def tagsNewerRow : OpenClaim := { program := "ytbmbnkoggmeanaa", sum := "3eb775c1bbcb0bf1a32acf1fed5049cc80a6c621f034160f06d03e09d21278a6", func := "icehouse/icehouselaw03.TagsNewer", spec := "tagsNewer", apart := false }
def TagsNewerSaid : Prop := tagsNewerRow.holds Try.pinned (OpenSpec.ofChange tagsNewerSpec)

/-- ITS FALSE NEIGHBOUR: 'it returns false'. Refute it at one input. -/
def tagsNewerWrong : ChangeSpec := { name := "tagsNewer", fn := fun _ => fun
  | [d1, d2] => { results := [.lit (.bool false)], args := [d1, d2] }
  | _ => none }
def TagsNewerWrongFalsely : Prop := tagsNewerRow.holds Try.pinned (OpenSpec.ofChange tagsNewerWrong)

/-- 'icehouselaw03.TagsBack': WHATEVER THE INPUT: true; the input reads as it did. -/
def tagsBackSpec : ChangeSpec := { name := "tagsBack", fn := fun _ => fun
  | [d1, d2, d3, d4] => { results := [.lit (.bool true)], args := [d1, d2, d3, d4] }
  | _ => none }
def tagsBackRow : OpenClaim := { program := "ytbmbnkoggmeanaa", sum := "3eb775c1bbcb0bf1a32acf1fed5049cc80a6c621f034160f06d03e09d21278a6", func := "icehouse/icehouselaw03.TagsBack", spec := "tagsBack", apart := false }
def TagsBackSaid : Prop := tagsBackRow.holds Try.pinned (OpenSpec.ofChange tagsBackSpec)

/-- ITS FALSE NEIGHBOUR: 'it returns false'. Refute it at one input. -/
def tagsBackWrong : ChangeSpec := { name := "tagsBack", fn := fun _ => fun
  | [d1, d2, d3, d4] => { results := [.lit (.bool false)], args := [d1, d2, d3, d4] }
  | _ => none }
def TagsBackWrongFalsely : Prop := tagsBackRow.holds Try.pinned (OpenSpec.ofChange tagsBackWrong)

/-- 'icehouselaw03.TagsWrites': WHATEVER THE INPUT: true; the input reads as it did. -/
def tagsWritesSpec : ChangeSpec := { name := "tagsWrites", fn := fun _ => fun
  | [d] => { results := [.lit (.bool true)], args := [d] }
  | _ => none }
def tagsWritesRow : OpenClaim := { program := "ytbmbnkoggmeanaa", sum := "3eb775c1bbcb0bf1a32acf1fed5049cc80a6c621f034160f06d03e09d21278a6", func := "icehouse/icehouselaw03.TagsWrites", spec := "tagsWrites", apart := false }
def TagsWritesSaid : Prop := tagsWritesRow.holds Try.pinned (OpenSpec.ofChange tagsWritesSpec)

/-- ITS FALSE NEIGHBOUR: 'it returns false'. Refute it at one input. -/
def tagsWritesWrong : ChangeSpec := { name := "tagsWrites", fn := fun _ => fun
  | [d] => { results := [.lit (.bool false)], args := [d] }
  | _ => none }
def TagsWritesWrongFalsely : Prop := tagsWritesRow.holds Try.pinned (OpenSpec.ofChange tagsWritesWrong)

/- THE SECOND FORM. 'bulk': how many values and letters a reading holds, each counted each time it is reached (what is shared counts as often as it is met; a slice's spare places count too). A statement '..UptoSaid' is the law's where the arguments, and the package variables that the reading takes, are together of bulk at most 1048576: NARROWER than '..Said'. Prove '..Said' where nothing that the law and all that it calls make is longer than what came in: it says more and counts as full. Else prove '..UptoSaid'. A law counts once. -/
mutual
def uptoBulk {H : Type} : DataW H → Nat
  | .lit (.string bytes) => bytes.length + 1
  | .lit _ => 1
  | .nil => 1
  | .ptr d => uptoBulk d + 1
  | .slice elems spare => uptoBulkAll elems + uptoBulkAll spare + 1
  | .agg parts => uptoBulkAll parts + 1
  | .iface _ d => uptoBulk d + 1
  | .map entries => uptoBulkEntries entries + 1
  | .held _ => 1
def uptoBulkAll {H : Type} : List (DataW H) → Nat
  | [] => 0
  | d :: r => uptoBulk d + uptoBulkAll r
def uptoBulkEntries {H : Type} : List (Lit × DataW H) → Nat
  | [] => 0
  | x :: r => uptoBulkEntry x + uptoBulkEntries r
def uptoBulkEntry {H : Type} : Lit × DataW H → Nat
  | (.string bytes, d) => bytes.length + uptoBulk d + 1
  | (_, d) => uptoBulk d + 1
 end
def uptoSmall : (H : Type) → List (DataW H) → Bool := fun _ ds => decide (uptoBulkAll ds ≤ 1048576)
def OpenSpec.upto (s : _root_.Go.ChangeSpec) : _root_.Go.OpenSpec := { _root_.Go.OpenSpec.ofChange s with cond := some uptoSmall }

/-- 'icehouselaw03.TagsTwo', WHERE WHAT IT READS IS OF BULK AT MOST 1048576: true; the input reads as it did. -/
def tagsTwoUptoRow : OpenClaim := { program := "ytbmbnkoggmeanaa", sum := "3eb775c1bbcb0bf1a32acf1fed5049cc80a6c621f034160f06d03e09d21278a6", func := "icehouse/icehouselaw03.TagsTwo", spec := "tagsTwo", apart := false, narrowed := true }
def TagsTwoUptoSaid : Prop := tagsTwoUptoRow.holds Try.pinned (OpenSpec.upto tagsTwoSpec)

/-- 'icehouselaw03.TagsOrder', WHERE WHAT IT READS IS OF BULK AT MOST 1048576: true; the input reads as it did. -/
def tagsOrderUptoRow : OpenClaim := { program := "ytbmbnkoggmeanaa", sum := "3eb775c1bbcb0bf1a32acf1fed5049cc80a6c621f034160f06d03e09d21278a6", func := "icehouse/icehouselaw03.TagsOrder", spec := "tagsOrder", apart := false, narrowed := true }
def TagsOrderUptoSaid : Prop := tagsOrderUptoRow.holds Try.pinned (OpenSpec.upto tagsOrderSpec)

/-- 'icehouselaw03.TagsReads', WHERE WHAT IT READS IS OF BULK AT MOST 1048576: true; the input reads as it did. -/
def tagsReadsUptoRow : OpenClaim := { program := "ytbmbnkoggmeanaa", sum := "3eb775c1bbcb0bf1a32acf1fed5049cc80a6c621f034160f06d03e09d21278a6", func := "icehouse/icehouselaw03.TagsReads", spec := "tagsReads", apart := false, narrowed := true }
def TagsReadsUptoSaid : Prop := tagsReadsUptoRow.holds Try.pinned (OpenSpec.upto tagsReadsSpec)

/-- 'icehouselaw03.TagsMax', WHERE WHAT IT READS IS OF BULK AT MOST 1048576: true; the input reads as it did. -/
def tagsMaxUptoRow : OpenClaim := { program := "ytbmbnkoggmeanaa", sum := "3eb775c1bbcb0bf1a32acf1fed5049cc80a6c621f034160f06d03e09d21278a6", func := "icehouse/icehouselaw03.TagsMax", spec := "tagsMax", apart := false, narrowed := true }
def TagsMaxUptoSaid : Prop := tagsMaxUptoRow.holds Try.pinned (OpenSpec.upto tagsMaxSpec)

/-- 'icehouselaw03.TagsMaxes', WHERE WHAT IT READS IS OF BULK AT MOST 1048576: true; the input reads as it did. -/
def tagsMaxesUptoRow : OpenClaim := { program := "ytbmbnkoggmeanaa", sum := "3eb775c1bbcb0bf1a32acf1fed5049cc80a6c621f034160f06d03e09d21278a6", func := "icehouse/icehouselaw03.TagsMaxes", spec := "tagsMaxes", apart := false, narrowed := true }
def TagsMaxesUptoSaid : Prop := tagsMaxesUptoRow.holds Try.pinned (OpenSpec.upto tagsMaxesSpec)

/-- 'icehouselaw03.TagsVals', WHERE WHAT IT READS IS OF BULK AT MOST 1048576: true; the input reads as it did. -/
def tagsValsUptoRow : OpenClaim := { program := "ytbmbnkoggmeanaa", sum := "3eb775c1bbcb0bf1a32acf1fed5049cc80a6c621f034160f06d03e09d21278a6", func := "icehouse/icehouselaw03.TagsVals", spec := "tagsVals", apart := false, narrowed := true }
def TagsValsUptoSaid : Prop := tagsValsUptoRow.holds Try.pinned (OpenSpec.upto tagsValsSpec)

/-- 'icehouselaw03.TagsNewer', WHERE WHAT IT READS IS OF BULK AT MOST 1048576: true; the input reads as it did. -/
def tagsNewerUptoRow : OpenClaim := { program := "ytbmbnkoggmeanaa", sum := "3eb775c1bbcb0bf1a32acf1fed5049cc80a6c621f034160f06d03e09d21278a6", func := "icehouse/icehouselaw03.TagsNewer", spec := "tagsNewer", apart := false, narrowed := true }
def TagsNewerUptoSaid : Prop := tagsNewerUptoRow.holds Try.pinned (OpenSpec.upto tagsNewerSpec)

/-- 'icehouselaw03.TagsBack', WHERE WHAT IT READS IS OF BULK AT MOST 1048576: true; the input reads as it did. -/
def tagsBackUptoRow : OpenClaim := { program := "ytbmbnkoggmeanaa", sum := "3eb775c1bbcb0bf1a32acf1fed5049cc80a6c621f034160f06d03e09d21278a6", func := "icehouse/icehouselaw03.TagsBack", spec := "tagsBack", apart := false, narrowed := true }
def TagsBackUptoSaid : Prop := tagsBackUptoRow.holds Try.pinned (OpenSpec.upto tagsBackSpec)

/-- 'icehouselaw03.TagsWrites', WHERE WHAT IT READS IS OF BULK AT MOST 1048576: true; the input reads as it did. -/
def tagsWritesUptoRow : OpenClaim := { program := "ytbmbnkoggmeanaa", sum := "3eb775c1bbcb0bf1a32acf1fed5049cc80a6c621f034160f06d03e09d21278a6", func := "icehouse/icehouselaw03.TagsWrites", spec := "tagsWrites", apart := false, narrowed := true }
def TagsWritesUptoSaid : Prop := tagsWritesUptoRow.holds Try.pinned (OpenSpec.upto tagsWritesSpec)

end Rows
end Go.Proofs.Ytbmbnkoggmeanaa
