/-
  No cell of these rows narrows 'for every input' (looked for: loops, veiled, ifaces, maps, wideKeys, modest, calm, conditions, laid).
  DERIVED. THE GIVEN ROWS OF THIS SEAT. 7 by the template 'for every input the law returns true; each argument reads behind the call as it read before'; 0 by the template 'total and deterministic' (their statements: YteocngcojijnkaaTotals.lean).
  GIVEN WITH THE SEED: the statements are not yours to turn. If you find one false, say at which input.
  Laid BY PROGRAM, IN A SANDBOX (cutbox-rows.mjs): the forced cells as the released guide's own fill.sh prints them over the translation 0bf1078131678658… (all of the seat's roots in one cut). By AI agents, Wed Nov 11 2026. No macro, syntax, notation, axiom, sorry.
-/
import Derived.Test.YteocngcojijnkaaChecked
import GoSem.Claim
import GoSem.ClaimJoined
import GoSem.ClaimMapViews
import Derived.JoinedTies
import Derived.KernelRfl
namespace Go.Proofs.Yteocngcojijnkaa
/- THE CELL 'sum', in the pinned program and in every row, IS THE sha256 OF THE DUMP (.gsa) THAT YteocngcojijnkaaProg.lean LOADS. Nothing in Lean hashes anything: it is a label: what it is worth is what the hold of that sum in a sandbox is worth. -/
noncomputable def Try.pinned : Pinned := { name := "yteocngcojijnkaa", sum := "0bf1078131678658b70dbc5c0b4c009609801dc41e820fcea47921511f4ab74d", checked := Try.checked }
namespace Rows
def none {H : Type} : Left H := { results := [], args := [] }

/-- 'icehouselaw10.QuorumEnough': WHATEVER THE INPUT: true; the input reads as it did. -/
def quorumEnoughSpec : ChangeSpec := { name := "quorumEnough", fn := fun _ => fun
  | [d1, d2, d3] => { results := [.lit (.bool true)], args := [d1, d2, d3] }
  | _ => none }
def quorumEnoughRow : OpenClaim := { program := "yteocngcojijnkaa", sum := "0bf1078131678658b70dbc5c0b4c009609801dc41e820fcea47921511f4ab74d", func := "icehouse/icehouselaw10.QuorumEnough", spec := "quorumEnough", unfollowed := true, recurses := true, apart := false }
def QuorumEnoughSaid : Prop := quorumEnoughRow.holds Try.pinned (OpenSpec.ofChange quorumEnoughSpec)

/-- ITS FALSE NEIGHBOUR: 'it returns false'. Refute it at one input. -/
def quorumEnoughWrong : ChangeSpec := { name := "quorumEnough", fn := fun _ => fun
  | [d1, d2, d3] => { results := [.lit (.bool false)], args := [d1, d2, d3] }
  | _ => none }
def QuorumEnoughWrongFalsely : Prop := quorumEnoughRow.holds Try.pinned (OpenSpec.ofChange quorumEnoughWrong)

/-- 'icehouselaw10.QuorumNeeds': WHATEVER THE INPUT: true; the input reads as it did. -/
def quorumNeedsSpec : ChangeSpec := { name := "quorumNeeds", fn := fun _ => fun
  | [d1, d2, d3] => { results := [.lit (.bool true)], args := [d1, d2, d3] }
  | _ => none }
def quorumNeedsRow : OpenClaim := { program := "yteocngcojijnkaa", sum := "0bf1078131678658b70dbc5c0b4c009609801dc41e820fcea47921511f4ab74d", func := "icehouse/icehouselaw10.QuorumNeeds", spec := "quorumNeeds", unfollowed := true, recurses := true, apart := false }
def QuorumNeedsSaid : Prop := quorumNeedsRow.holds Try.pinned (OpenSpec.ofChange quorumNeedsSpec)

/-- ITS FALSE NEIGHBOUR: 'it returns false'. Refute it at one input. -/
def quorumNeedsWrong : ChangeSpec := { name := "quorumNeeds", fn := fun _ => fun
  | [d1, d2, d3] => { results := [.lit (.bool false)], args := [d1, d2, d3] }
  | _ => none }
def QuorumNeedsWrongFalsely : Prop := quorumNeedsRow.holds Try.pinned (OpenSpec.ofChange quorumNeedsWrong)

/-- 'icehouselaw10.QuorumMeets': WHATEVER THE INPUT: true; the input reads as it did. -/
def quorumMeetsSpec : ChangeSpec := { name := "quorumMeets", fn := fun _ => fun
  | [d1, d2, d3] => { results := [.lit (.bool true)], args := [d1, d2, d3] }
  | _ => none }
def quorumMeetsRow : OpenClaim := { program := "yteocngcojijnkaa", sum := "0bf1078131678658b70dbc5c0b4c009609801dc41e820fcea47921511f4ab74d", func := "icehouse/icehouselaw10.QuorumMeets", spec := "quorumMeets", unfollowed := true, recurses := true, apart := false }
def QuorumMeetsSaid : Prop := quorumMeetsRow.holds Try.pinned (OpenSpec.ofChange quorumMeetsSpec)

/-- ITS FALSE NEIGHBOUR: 'it returns false'. Refute it at one input. -/
def quorumMeetsWrong : ChangeSpec := { name := "quorumMeets", fn := fun _ => fun
  | [d1, d2, d3] => { results := [.lit (.bool false)], args := [d1, d2, d3] }
  | _ => none }
def QuorumMeetsWrongFalsely : Prop := quorumMeetsRow.holds Try.pinned (OpenSpec.ofChange quorumMeetsWrong)

/-- 'icehouselaw10.QuorumCounts': WHATEVER THE INPUT: true; the input reads as it did. -/
def quorumCountsSpec : ChangeSpec := { name := "quorumCounts", fn := fun _ => fun
  | [d1, d2] => { results := [.lit (.bool true)], args := [d1, d2] }
  | _ => none }
def quorumCountsRow : OpenClaim := { program := "yteocngcojijnkaa", sum := "0bf1078131678658b70dbc5c0b4c009609801dc41e820fcea47921511f4ab74d", func := "icehouse/icehouselaw10.QuorumCounts", spec := "quorumCounts", unfollowed := true, recurses := true, apart := false }
def QuorumCountsSaid : Prop := quorumCountsRow.holds Try.pinned (OpenSpec.ofChange quorumCountsSpec)

/-- ITS FALSE NEIGHBOUR: 'it returns false'. Refute it at one input. -/
def quorumCountsWrong : ChangeSpec := { name := "quorumCounts", fn := fun _ => fun
  | [d1, d2] => { results := [.lit (.bool false)], args := [d1, d2] }
  | _ => none }
def QuorumCountsWrongFalsely : Prop := quorumCountsRow.holds Try.pinned (OpenSpec.ofChange quorumCountsWrong)

/-- 'icehouselaw10.QuorumAdds': WHATEVER THE INPUT: true; the input reads as it did. -/
def quorumAddsSpec : ChangeSpec := { name := "quorumAdds", fn := fun _ => fun
  | [d1, d2] => { results := [.lit (.bool true)], args := [d1, d2] }
  | _ => none }
def quorumAddsRow : OpenClaim := { program := "yteocngcojijnkaa", sum := "0bf1078131678658b70dbc5c0b4c009609801dc41e820fcea47921511f4ab74d", func := "icehouse/icehouselaw10.QuorumAdds", spec := "quorumAdds", unfollowed := true, recurses := true, apart := false }
def QuorumAddsSaid : Prop := quorumAddsRow.holds Try.pinned (OpenSpec.ofChange quorumAddsSpec)

/-- ITS FALSE NEIGHBOUR: 'it returns false'. Refute it at one input. -/
def quorumAddsWrong : ChangeSpec := { name := "quorumAdds", fn := fun _ => fun
  | [d1, d2] => { results := [.lit (.bool false)], args := [d1, d2] }
  | _ => none }
def QuorumAddsWrongFalsely : Prop := quorumAddsRow.holds Try.pinned (OpenSpec.ofChange quorumAddsWrong)

/-- 'icehouselaw10.QuorumRings': WHATEVER THE INPUT: true; the input reads as it did. -/
def quorumRingsSpec : ChangeSpec := { name := "quorumRings", fn := fun _ => fun
  | [d1, d2] => { results := [.lit (.bool true)], args := [d1, d2] }
  | _ => none }
def quorumRingsRow : OpenClaim := { program := "yteocngcojijnkaa", sum := "0bf1078131678658b70dbc5c0b4c009609801dc41e820fcea47921511f4ab74d", func := "icehouse/icehouselaw10.QuorumRings", spec := "quorumRings", unfollowed := true, recurses := true, apart := false }
def QuorumRingsSaid : Prop := quorumRingsRow.holds Try.pinned (OpenSpec.ofChange quorumRingsSpec)

/-- ITS FALSE NEIGHBOUR: 'it returns false'. Refute it at one input. -/
def quorumRingsWrong : ChangeSpec := { name := "quorumRings", fn := fun _ => fun
  | [d1, d2] => { results := [.lit (.bool false)], args := [d1, d2] }
  | _ => none }
def QuorumRingsWrongFalsely : Prop := quorumRingsRow.holds Try.pinned (OpenSpec.ofChange quorumRingsWrong)

/-- 'icehouselaw10.QuorumOne': WHATEVER THE INPUT: true; the input reads as it did. -/
def quorumOneSpec : ChangeSpec := { name := "quorumOne", fn := fun _ => fun
  | [d1, d2, d3] => { results := [.lit (.bool true)], args := [d1, d2, d3] }
  | _ => none }
def quorumOneRow : OpenClaim := { program := "yteocngcojijnkaa", sum := "0bf1078131678658b70dbc5c0b4c009609801dc41e820fcea47921511f4ab74d", func := "icehouse/icehouselaw10.QuorumOne", spec := "quorumOne", unfollowed := true, recurses := true, apart := false }
def QuorumOneSaid : Prop := quorumOneRow.holds Try.pinned (OpenSpec.ofChange quorumOneSpec)

/-- ITS FALSE NEIGHBOUR: 'it returns false'. Refute it at one input. -/
def quorumOneWrong : ChangeSpec := { name := "quorumOne", fn := fun _ => fun
  | [d1, d2, d3] => { results := [.lit (.bool false)], args := [d1, d2, d3] }
  | _ => none }
def QuorumOneWrongFalsely : Prop := quorumOneRow.holds Try.pinned (OpenSpec.ofChange quorumOneWrong)

/- THE SECOND FORM. 'bulk': how many values and letters a reading holds, each counted each time it is reached (what is shared counts as often as it is met; a slice's spare places count too). A statement '..UptoSaid' is the law's where the arguments, and the package variables that the reading takes, are together of bulk at most 1048576: NARROWER than '..Said'. Prove '..Said' where nothing that the law and all that it calls make is longer than what came in: it says more and counts as full. Else prove '..UptoSaid'. A law counts once. -/
mutual
def uptoBulk {H : Type} : DataW H → Nat
  | .lit (.string bytes) => bytes.length + 1
  | .lit _ => 1
  | .nil => 1
  | .ptr d => uptoBulk d + 1
  | .slice elems spare => uptoBulkAll elems + uptoBulkAll spare + 1
  | .agg parts => uptoBulkAll parts + 1
  | .iface _ d => uptoBulk d + 1
  | .map entries => uptoBulkEntries entries + 1
  | .held _ => 1
def uptoBulkAll {H : Type} : List (DataW H) → Nat
  | [] => 0
  | d :: r => uptoBulk d + uptoBulkAll r
def uptoBulkEntries {H : Type} : List (Lit × DataW H) → Nat
  | [] => 0
  | x :: r => uptoBulkEntry x + uptoBulkEntries r
def uptoBulkEntry {H : Type} : Lit × DataW H → Nat
  | (.string bytes, d) => bytes.length + uptoBulk d + 1
  | (_, d) => uptoBulk d + 1
 end
def uptoSmall : (H : Type) → List (DataW H) → Bool := fun _ ds => decide (uptoBulkAll ds ≤ 1048576)
def OpenSpec.upto (s : _root_.Go.ChangeSpec) : _root_.Go.OpenSpec := { _root_.Go.OpenSpec.ofChange s with cond := some uptoSmall }

/-- 'icehouselaw10.QuorumEnough', WHERE WHAT IT READS IS OF BULK AT MOST 1048576: true; the input reads as it did. -/
def quorumEnoughUptoRow : OpenClaim := { program := "yteocngcojijnkaa", sum := "0bf1078131678658b70dbc5c0b4c009609801dc41e820fcea47921511f4ab74d", func := "icehouse/icehouselaw10.QuorumEnough", spec := "quorumEnough", unfollowed := true, recurses := true, apart := false, narrowed := true }
def QuorumEnoughUptoSaid : Prop := quorumEnoughUptoRow.holds Try.pinned (OpenSpec.upto quorumEnoughSpec)

/-- 'icehouselaw10.QuorumNeeds', WHERE WHAT IT READS IS OF BULK AT MOST 1048576: true; the input reads as it did. -/
def quorumNeedsUptoRow : OpenClaim := { program := "yteocngcojijnkaa", sum := "0bf1078131678658b70dbc5c0b4c009609801dc41e820fcea47921511f4ab74d", func := "icehouse/icehouselaw10.QuorumNeeds", spec := "quorumNeeds", unfollowed := true, recurses := true, apart := false, narrowed := true }
def QuorumNeedsUptoSaid : Prop := quorumNeedsUptoRow.holds Try.pinned (OpenSpec.upto quorumNeedsSpec)

/-- 'icehouselaw10.QuorumMeets', WHERE WHAT IT READS IS OF BULK AT MOST 1048576: true; the input reads as it did. -/
def quorumMeetsUptoRow : OpenClaim := { program := "yteocngcojijnkaa", sum := "0bf1078131678658b70dbc5c0b4c009609801dc41e820fcea47921511f4ab74d", func := "icehouse/icehouselaw10.QuorumMeets", spec := "quorumMeets", unfollowed := true, recurses := true, apart := false, narrowed := true }
def QuorumMeetsUptoSaid : Prop := quorumMeetsUptoRow.holds Try.pinned (OpenSpec.upto quorumMeetsSpec)

/-- 'icehouselaw10.QuorumCounts', WHERE WHAT IT READS IS OF BULK AT MOST 1048576: true; the input reads as it did. -/
def quorumCountsUptoRow : OpenClaim := { program := "yteocngcojijnkaa", sum := "0bf1078131678658b70dbc5c0b4c009609801dc41e820fcea47921511f4ab74d", func := "icehouse/icehouselaw10.QuorumCounts", spec := "quorumCounts", unfollowed := true, recurses := true, apart := false, narrowed := true }
def QuorumCountsUptoSaid : Prop := quorumCountsUptoRow.holds Try.pinned (OpenSpec.upto quorumCountsSpec)

/-- 'icehouselaw10.QuorumAdds', WHERE WHAT IT READS IS OF BULK AT MOST 1048576: true; the input reads as it did. -/
def quorumAddsUptoRow : OpenClaim := { program := "yteocngcojijnkaa", sum := "0bf1078131678658b70dbc5c0b4c009609801dc41e820fcea47921511f4ab74d", func := "icehouse/icehouselaw10.QuorumAdds", spec := "quorumAdds", unfollowed := true, recurses := true, apart := false, narrowed := true }
def QuorumAddsUptoSaid : Prop := quorumAddsUptoRow.holds Try.pinned (OpenSpec.upto quorumAddsSpec)

/-- 'icehouselaw10.QuorumRings', WHERE WHAT IT READS IS OF BULK AT MOST 1048576: true; the input reads as it did. -/
def quorumRingsUptoRow : OpenClaim := { program := "yteocngcojijnkaa", sum := "0bf1078131678658b70dbc5c0b4c009609801dc41e820fcea47921511f4ab74d", func := "icehouse/icehouselaw10.QuorumRings", spec := "quorumRings", unfollowed := true, recurses := true, apart := false, narrowed := true }
def QuorumRingsUptoSaid : Prop := quorumRingsUptoRow.holds Try.pinned (OpenSpec.upto quorumRingsSpec)

/-- 'icehouselaw10.QuorumOne', WHERE WHAT IT READS IS OF BULK AT MOST 1048576: true; the input reads as it did. -/
def quorumOneUptoRow : OpenClaim := { program := "yteocngcojijnkaa", sum := "0bf1078131678658b70dbc5c0b4c009609801dc41e820fcea47921511f4ab74d", func := "icehouse/icehouselaw10.QuorumOne", spec := "quorumOne", unfollowed := true, recurses := true, apart := false, narrowed := true }
def QuorumOneUptoSaid : Prop := quorumOneUptoRow.holds Try.pinned (OpenSpec.upto quorumOneSpec)

end Rows
end Go.Proofs.Yteocngcojijnkaa
