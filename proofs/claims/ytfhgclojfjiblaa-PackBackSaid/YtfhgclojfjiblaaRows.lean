/-
  No cell of these rows narrows 'for every input' (looked for: loops, veiled, ifaces, maps, wideKeys, modest, calm, conditions, laid).
  DERIVED. THE GIVEN ROWS OF THIS SEAT. 7 by the template 'for every input the law returns true; each argument reads behind the call as it read before'; 0 by the template 'total and deterministic' (their statements: YtfhgclojfjiblaaTotals.lean).
  GIVEN WITH THE SEED: the statements are not yours to turn. If you find one false, say at which input.
  Laid BY PROGRAM, IN A SANDBOX (cutbox-rows.mjs): the forced cells as the released guide's own fill.sh prints them over the translation aa41655e18b27e0d… (all of the seat's roots in one cut). By AI agents, Wed Nov 11 2026. No macro, syntax, notation, axiom, sorry.
-/
import Derived.Test.YtfhgclojfjiblaaChecked
import GoSem.Claim
import GoSem.ClaimJoined
import GoSem.ClaimMapViews
import Derived.JoinedTies
import Derived.KernelRfl
namespace Go.Proofs.Ytfhgclojfjiblaa
/- THE CELL 'sum', in the pinned program and in every row, IS THE sha256 OF THE DUMP (.gsa) THAT YtfhgclojfjiblaaProg.lean LOADS. Nothing in Lean hashes anything: it is a label: what it is worth is what the hold of that sum in a sandbox is worth. -/
noncomputable def Try.pinned : Pinned := { name := "ytfhgclojfjiblaa", sum := "aa41655e18b27e0d0123dbd2ffb8a1c8d7f5adad11d04ef4bc170fe258ee3cd9", checked := Try.checked }
namespace Rows
def none {H : Type} : Left H := { results := [], args := [] }

/-- 'icehouselaw02.PackPuts': WHATEVER THE INPUT: true; the input reads as it did. -/
def packPutsSpec : ChangeSpec := { name := "packPuts", fn := fun _ => fun
  | [d1, d2] => { results := [.lit (.bool true)], args := [d1, d2] }
  | _ => none }
def packPutsRow : OpenClaim := { program := "ytfhgclojfjiblaa", sum := "aa41655e18b27e0d0123dbd2ffb8a1c8d7f5adad11d04ef4bc170fe258ee3cd9", func := "icehouse/icehouselaw02.PackPuts", spec := "packPuts", apart := false }
def PackPutsSaid : Prop := packPutsRow.holds Try.pinned (OpenSpec.ofChange packPutsSpec)

/-- ITS FALSE NEIGHBOUR: 'it returns false'. Refute it at one input. -/
def packPutsWrong : ChangeSpec := { name := "packPuts", fn := fun _ => fun
  | [d1, d2] => { results := [.lit (.bool false)], args := [d1, d2] }
  | _ => none }
def PackPutsWrongFalsely : Prop := packPutsRow.holds Try.pinned (OpenSpec.ofChange packPutsWrong)

/-- 'icehouselaw02.PackTruths': WHATEVER THE INPUT: true; the input reads as it did. -/
def packTruthsSpec : ChangeSpec := { name := "packTruths", fn := fun _ => fun
  | [d1, d2] => { results := [.lit (.bool true)], args := [d1, d2] }
  | _ => none }
def packTruthsRow : OpenClaim := { program := "ytfhgclojfjiblaa", sum := "aa41655e18b27e0d0123dbd2ffb8a1c8d7f5adad11d04ef4bc170fe258ee3cd9", func := "icehouse/icehouselaw02.PackTruths", spec := "packTruths", apart := false }
def PackTruthsSaid : Prop := packTruthsRow.holds Try.pinned (OpenSpec.ofChange packTruthsSpec)

/-- ITS FALSE NEIGHBOUR: 'it returns false'. Refute it at one input. -/
def packTruthsWrong : ChangeSpec := { name := "packTruths", fn := fun _ => fun
  | [d1, d2] => { results := [.lit (.bool false)], args := [d1, d2] }
  | _ => none }
def PackTruthsWrongFalsely : Prop := packTruthsRow.holds Try.pinned (OpenSpec.ofChange packTruthsWrong)

/-- 'icehouselaw02.PackOne': WHATEVER THE INPUT: true; the input reads as it did. -/
def packOneSpec : ChangeSpec := { name := "packOne", fn := fun _ => fun
  | [d1, d2, d3] => { results := [.lit (.bool true)], args := [d1, d2, d3] }
  | _ => none }
def packOneRow : OpenClaim := { program := "ytfhgclojfjiblaa", sum := "aa41655e18b27e0d0123dbd2ffb8a1c8d7f5adad11d04ef4bc170fe258ee3cd9", func := "icehouse/icehouselaw02.PackOne", spec := "packOne", apart := false }
def PackOneSaid : Prop := packOneRow.holds Try.pinned (OpenSpec.ofChange packOneSpec)

/-- ITS FALSE NEIGHBOUR: 'it returns false'. Refute it at one input. -/
def packOneWrong : ChangeSpec := { name := "packOne", fn := fun _ => fun
  | [d1, d2, d3] => { results := [.lit (.bool false)], args := [d1, d2, d3] }
  | _ => none }
def PackOneWrongFalsely : Prop := packOneRow.holds Try.pinned (OpenSpec.ofChange packOneWrong)

/-- 'icehouselaw02.PackMixed': WHATEVER THE INPUT: true; the input reads as it did. -/
def packMixedSpec : ChangeSpec := { name := "packMixed", fn := fun _ => fun
  | [d1, d2, d3, d4] => { results := [.lit (.bool true)], args := [d1, d2, d3, d4] }
  | _ => none }
def packMixedRow : OpenClaim := { program := "ytfhgclojfjiblaa", sum := "aa41655e18b27e0d0123dbd2ffb8a1c8d7f5adad11d04ef4bc170fe258ee3cd9", func := "icehouse/icehouselaw02.PackMixed", spec := "packMixed", apart := false }
def PackMixedSaid : Prop := packMixedRow.holds Try.pinned (OpenSpec.ofChange packMixedSpec)

/-- ITS FALSE NEIGHBOUR: 'it returns false'. Refute it at one input. -/
def packMixedWrong : ChangeSpec := { name := "packMixed", fn := fun _ => fun
  | [d1, d2, d3, d4] => { results := [.lit (.bool false)], args := [d1, d2, d3, d4] }
  | _ => none }
def PackMixedWrongFalsely : Prop := packMixedRow.holds Try.pinned (OpenSpec.ofChange packMixedWrong)

/-- 'icehouselaw02.PackFails': WHATEVER THE INPUT: true; the input reads as it did. -/
def packFailsSpec : ChangeSpec := { name := "packFails", fn := fun _ => fun
  | [d1, d2] => { results := [.lit (.bool true)], args := [d1, d2] }
  | _ => none }
def packFailsRow : OpenClaim := { program := "ytfhgclojfjiblaa", sum := "aa41655e18b27e0d0123dbd2ffb8a1c8d7f5adad11d04ef4bc170fe258ee3cd9", func := "icehouse/icehouselaw02.PackFails", spec := "packFails", apart := false }
def PackFailsSaid : Prop := packFailsRow.holds Try.pinned (OpenSpec.ofChange packFailsSpec)

/-- ITS FALSE NEIGHBOUR: 'it returns false'. Refute it at one input. -/
def packFailsWrong : ChangeSpec := { name := "packFails", fn := fun _ => fun
  | [d1, d2] => { results := [.lit (.bool false)], args := [d1, d2] }
  | _ => none }
def PackFailsWrongFalsely : Prop := packFailsRow.holds Try.pinned (OpenSpec.ofChange packFailsWrong)

/-- 'icehouselaw02.PackAll': WHATEVER THE INPUT: true; the input reads as it did. -/
def packAllSpec : ChangeSpec := { name := "packAll", fn := fun _ => fun
  | [d] => { results := [.lit (.bool true)], args := [d] }
  | _ => none }
def packAllRow : OpenClaim := { program := "ytfhgclojfjiblaa", sum := "aa41655e18b27e0d0123dbd2ffb8a1c8d7f5adad11d04ef4bc170fe258ee3cd9", func := "icehouse/icehouselaw02.PackAll", spec := "packAll", unfollowed := true, recurses := true, apart := false }
def PackAllSaid : Prop := packAllRow.holds Try.pinned (OpenSpec.ofChange packAllSpec)

/-- ITS FALSE NEIGHBOUR: 'it returns false'. Refute it at one input. -/
def packAllWrong : ChangeSpec := { name := "packAll", fn := fun _ => fun
  | [d] => { results := [.lit (.bool false)], args := [d] }
  | _ => none }
def PackAllWrongFalsely : Prop := packAllRow.holds Try.pinned (OpenSpec.ofChange packAllWrong)

/-- 'icehouselaw02.PackBack': WHATEVER THE INPUT: true; the input reads as it did. -/
def packBackSpec : ChangeSpec := { name := "packBack", fn := fun _ => fun
  | [d1, d2, d3, d4] => { results := [.lit (.bool true)], args := [d1, d2, d3, d4] }
  | _ => none }
def packBackRow : OpenClaim := { program := "ytfhgclojfjiblaa", sum := "aa41655e18b27e0d0123dbd2ffb8a1c8d7f5adad11d04ef4bc170fe258ee3cd9", func := "icehouse/icehouselaw02.PackBack", spec := "packBack", unfollowed := true, recurses := true, apart := false }
def PackBackSaid : Prop := packBackRow.holds Try.pinned (OpenSpec.ofChange packBackSpec)

/-- ITS FALSE NEIGHBOUR: 'it returns false'. Refute it at one input. -/
def packBackWrong : ChangeSpec := { name := "packBack", fn := fun _ => fun
  | [d1, d2, d3, d4] => { results := [.lit (.bool false)], args := [d1, d2, d3, d4] }
  | _ => none }
def PackBackWrongFalsely : Prop := packBackRow.holds Try.pinned (OpenSpec.ofChange packBackWrong)

/- THE SECOND FORM. 'bulk': how many values and letters a reading holds, each counted each time it is reached (what is shared counts as often as it is met; a slice's spare places count too). A statement '..UptoSaid' is the law's where the arguments, and the package variables that the reading takes, are together of bulk at most 1048576: NARROWER than '..Said'. Prove '..Said' where nothing that the law and all that it calls make is longer than what came in: it says more and counts as full. Else prove '..UptoSaid'. A law counts once. -/
mutual
def uptoBulk {H : Type} : DataW H → Nat
  | .lit (.string bytes) => bytes.length + 1
  | .lit _ => 1
  | .nil => 1
  | .ptr d => uptoBulk d + 1
  | .slice elems spare => uptoBulkAll elems + uptoBulkAll spare + 1
  | .agg parts => uptoBulkAll parts + 1
  | .iface _ d => uptoBulk d + 1
  | .map entries => uptoBulkEntries entries + 1
  | .held _ => 1
def uptoBulkAll {H : Type} : List (DataW H) → Nat
  | [] => 0
  | d :: r => uptoBulk d + uptoBulkAll r
def uptoBulkEntries {H : Type} : List (Lit × DataW H) → Nat
  | [] => 0
  | x :: r => uptoBulkEntry x + uptoBulkEntries r
def uptoBulkEntry {H : Type} : Lit × DataW H → Nat
  | (.string bytes, d) => bytes.length + uptoBulk d + 1
  | (_, d) => uptoBulk d + 1
 end
def uptoSmall : (H : Type) → List (DataW H) → Bool := fun _ ds => decide (uptoBulkAll ds ≤ 1048576)
def OpenSpec.upto (s : _root_.Go.ChangeSpec) : _root_.Go.OpenSpec := { _root_.Go.OpenSpec.ofChange s with cond := some uptoSmall }

/-- 'icehouselaw02.PackPuts', WHERE WHAT IT READS IS OF BULK AT MOST 1048576: true; the input reads as it did. -/
def packPutsUptoRow : OpenClaim := { program := "ytfhgclojfjiblaa", sum := "aa41655e18b27e0d0123dbd2ffb8a1c8d7f5adad11d04ef4bc170fe258ee3cd9", func := "icehouse/icehouselaw02.PackPuts", spec := "packPuts", apart := false, narrowed := true }
def PackPutsUptoSaid : Prop := packPutsUptoRow.holds Try.pinned (OpenSpec.upto packPutsSpec)

/-- 'icehouselaw02.PackTruths', WHERE WHAT IT READS IS OF BULK AT MOST 1048576: true; the input reads as it did. -/
def packTruthsUptoRow : OpenClaim := { program := "ytfhgclojfjiblaa", sum := "aa41655e18b27e0d0123dbd2ffb8a1c8d7f5adad11d04ef4bc170fe258ee3cd9", func := "icehouse/icehouselaw02.PackTruths", spec := "packTruths", apart := false, narrowed := true }
def PackTruthsUptoSaid : Prop := packTruthsUptoRow.holds Try.pinned (OpenSpec.upto packTruthsSpec)

/-- 'icehouselaw02.PackOne', WHERE WHAT IT READS IS OF BULK AT MOST 1048576: true; the input reads as it did. -/
def packOneUptoRow : OpenClaim := { program := "ytfhgclojfjiblaa", sum := "aa41655e18b27e0d0123dbd2ffb8a1c8d7f5adad11d04ef4bc170fe258ee3cd9", func := "icehouse/icehouselaw02.PackOne", spec := "packOne", apart := false, narrowed := true }
def PackOneUptoSaid : Prop := packOneUptoRow.holds Try.pinned (OpenSpec.upto packOneSpec)

/-- 'icehouselaw02.PackMixed', WHERE WHAT IT READS IS OF BULK AT MOST 1048576: true; the input reads as it did. -/
def packMixedUptoRow : OpenClaim := { program := "ytfhgclojfjiblaa", sum := "aa41655e18b27e0d0123dbd2ffb8a1c8d7f5adad11d04ef4bc170fe258ee3cd9", func := "icehouse/icehouselaw02.PackMixed", spec := "packMixed", apart := false, narrowed := true }
def PackMixedUptoSaid : Prop := packMixedUptoRow.holds Try.pinned (OpenSpec.upto packMixedSpec)

/-- 'icehouselaw02.PackFails', WHERE WHAT IT READS IS OF BULK AT MOST 1048576: true; the input reads as it did. -/
def packFailsUptoRow : OpenClaim := { program := "ytfhgclojfjiblaa", sum := "aa41655e18b27e0d0123dbd2ffb8a1c8d7f5adad11d04ef4bc170fe258ee3cd9", func := "icehouse/icehouselaw02.PackFails", spec := "packFails", apart := false, narrowed := true }
def PackFailsUptoSaid : Prop := packFailsUptoRow.holds Try.pinned (OpenSpec.upto packFailsSpec)

/-- 'icehouselaw02.PackAll', WHERE WHAT IT READS IS OF BULK AT MOST 1048576: true; the input reads as it did. -/
def packAllUptoRow : OpenClaim := { program := "ytfhgclojfjiblaa", sum := "aa41655e18b27e0d0123dbd2ffb8a1c8d7f5adad11d04ef4bc170fe258ee3cd9", func := "icehouse/icehouselaw02.PackAll", spec := "packAll", unfollowed := true, recurses := true, apart := false, narrowed := true }
def PackAllUptoSaid : Prop := packAllUptoRow.holds Try.pinned (OpenSpec.upto packAllSpec)

/-- 'icehouselaw02.PackBack', WHERE WHAT IT READS IS OF BULK AT MOST 1048576: true; the input reads as it did. -/
def packBackUptoRow : OpenClaim := { program := "ytfhgclojfjiblaa", sum := "aa41655e18b27e0d0123dbd2ffb8a1c8d7f5adad11d04ef4bc170fe258ee3cd9", func := "icehouse/icehouselaw02.PackBack", spec := "packBack", unfollowed := true, recurses := true, apart := false, narrowed := true }
def PackBackUptoSaid : Prop := packBackUptoRow.holds Try.pinned (OpenSpec.upto packBackSpec)

end Rows
end Go.Proofs.Ytfhgclojfjiblaa
