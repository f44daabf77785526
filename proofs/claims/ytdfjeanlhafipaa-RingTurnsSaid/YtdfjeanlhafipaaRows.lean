/-
  No cell of these rows narrows 'for every input' (looked for: loops, veiled, ifaces, maps, wideKeys, modest, calm, conditions, laid).
  DERIVED. THE GIVEN ROWS OF THIS SEAT. 7 by the template 'for every input the law returns true; each argument reads behind the call as it read before'; 0 by the template 'total and deterministic' (their statements: YtdfjeanlhafipaaTotals.lean).
  GIVEN WITH THE SEED: the statements are not yours to turn. If you find one false, say at which input.
  Laid BY PROGRAM, IN A SANDBOX (cutbox-rows.mjs): the forced cells as the released guide's own fill.sh prints them over the translation 5cb5d6af5892738a… (all of the seat's roots in one cut). By AI agents, Wed Nov 11 2026. No macro, syntax, notation, axiom, sorry.
-/
import Derived.Test.YtdfjeanlhafipaaChecked
import GoSem.Claim
import GoSem.ClaimJoined
import GoSem.ClaimMapViews
import Derived.JoinedTies
import Derived.KernelRfl
namespace Go.Proofs.Ytdfjeanlhafipaa
/- THE CELL 'sum', in the pinned program and in every row, IS THE sha256 OF THE DUMP (.gsa) THAT YtdfjeanlhafipaaProg.lean LOADS. Nothing in Lean hashes anything: it is a label: what it is worth is what the hold of that sum in a sandbox is worth. -/
noncomputable def Try.pinned : Pinned := { name := "ytdfjeanlhafipaa", sum := "5cb5d6af5892738af7d8fcfcd31928eec41814a44b29cd256f9deed9826be315", checked := Try.checked }
namespace Rows
def none {H : Type} : Left H := { results := [], args := [] }

/-- 'icehouselaw09.RingAll': WHATEVER THE INPUT: true; the input reads as it did. -/
def ringAllSpec : ChangeSpec := { name := "ringAll", fn := fun _ => fun
  | [d1, d2] => { results := [.lit (.bool true)], args := [d1, d2] }
  | _ => none }
def ringAllRow : OpenClaim := { program := "ytdfjeanlhafipaa", sum := "5cb5d6af5892738af7d8fcfcd31928eec41814a44b29cd256f9deed9826be315", func := "icehouse/icehouselaw09.RingAll", spec := "ringAll", unfollowed := true, recurses := true, apart := false }
def RingAllSaid : Prop := ringAllRow.holds Try.pinned (OpenSpec.ofChange ringAllSpec)

/-- ITS FALSE NEIGHBOUR: 'it returns false'. Refute it at one input. -/
def ringAllWrong : ChangeSpec := { name := "ringAll", fn := fun _ => fun
  | [d1, d2] => { results := [.lit (.bool false)], args := [d1, d2] }
  | _ => none }
def RingAllWrongFalsely : Prop := ringAllRow.holds Try.pinned (OpenSpec.ofChange ringAllWrong)

/-- 'icehouselaw09.RingKeeps': WHATEVER THE INPUT: true; the input reads as it did. -/
def ringKeepsSpec : ChangeSpec := { name := "ringKeeps", fn := fun _ => fun
  | [d1, d2, d3] => { results := [.lit (.bool true)], args := [d1, d2, d3] }
  | _ => none }
def ringKeepsRow : OpenClaim := { program := "ytdfjeanlhafipaa", sum := "5cb5d6af5892738af7d8fcfcd31928eec41814a44b29cd256f9deed9826be315", func := "icehouse/icehouselaw09.RingKeeps", spec := "ringKeeps", unfollowed := true, recurses := true, apart := false }
def RingKeepsSaid : Prop := ringKeepsRow.holds Try.pinned (OpenSpec.ofChange ringKeepsSpec)

/-- ITS FALSE NEIGHBOUR: 'it returns false'. Refute it at one input. -/
def ringKeepsWrong : ChangeSpec := { name := "ringKeeps", fn := fun _ => fun
  | [d1, d2, d3] => { results := [.lit (.bool false)], args := [d1, d2, d3] }
  | _ => none }
def RingKeepsWrongFalsely : Prop := ringKeepsRow.holds Try.pinned (OpenSpec.ofChange ringKeepsWrong)

/-- 'icehouselaw09.RingPoints': WHATEVER THE INPUT: true; the input reads as it did. -/
def ringPointsSpec : ChangeSpec := { name := "ringPoints", fn := fun _ => fun
  | [d] => { results := [.lit (.bool true)], args := [d] }
  | _ => none }
def ringPointsRow : OpenClaim := { program := "ytdfjeanlhafipaa", sum := "5cb5d6af5892738af7d8fcfcd31928eec41814a44b29cd256f9deed9826be315", func := "icehouse/icehouselaw09.RingPoints", spec := "ringPoints", unfollowed := true, recurses := true, apart := false }
def RingPointsSaid : Prop := ringPointsRow.holds Try.pinned (OpenSpec.ofChange ringPointsSpec)

/-- ITS FALSE NEIGHBOUR: 'it returns false'. Refute it at one input. -/
def ringPointsWrong : ChangeSpec := { name := "ringPoints", fn := fun _ => fun
  | [d] => { results := [.lit (.bool false)], args := [d] }
  | _ => none }
def RingPointsWrongFalsely : Prop := ringPointsRow.holds Try.pinned (OpenSpec.ofChange ringPointsWrong)

/-- 'icehouselaw09.RingSegments': WHATEVER THE INPUT: true; the input reads as it did. -/
def ringSegmentsSpec : ChangeSpec := { name := "ringSegments", fn := fun _ => fun
  | [d1, d2] => { results := [.lit (.bool true)], args := [d1, d2] }
  | _ => none }
def ringSegmentsRow : OpenClaim := { program := "ytdfjeanlhafipaa", sum := "5cb5d6af5892738af7d8fcfcd31928eec41814a44b29cd256f9deed9826be315", func := "icehouse/icehouselaw09.RingSegments", spec := "ringSegments", unfollowed := true, recurses := true, apart := false }
def RingSegmentsSaid : Prop := ringSegmentsRow.holds Try.pinned (OpenSpec.ofChange ringSegmentsSpec)

/-- ITS FALSE NEIGHBOUR: 'it returns false'. Refute it at one input. -/
def ringSegmentsWrong : ChangeSpec := { name := "ringSegments", fn := fun _ => fun
  | [d1, d2] => { results := [.lit (.bool false)], args := [d1, d2] }
  | _ => none }
def RingSegmentsWrongFalsely : Prop := ringSegmentsRow.holds Try.pinned (OpenSpec.ofChange ringSegmentsWrong)

/-- 'icehouselaw09.RingLess': WHATEVER THE INPUT: true; the input reads as it did. -/
def ringLessSpec : ChangeSpec := { name := "ringLess", fn := fun _ => fun
  | [d1, d2, d3] => { results := [.lit (.bool true)], args := [d1, d2, d3] }
  | _ => none }
def ringLessRow : OpenClaim := { program := "ytdfjeanlhafipaa", sum := "5cb5d6af5892738af7d8fcfcd31928eec41814a44b29cd256f9deed9826be315", func := "icehouse/icehouselaw09.RingLess", spec := "ringLess", unfollowed := true, recurses := true, apart := false }
def RingLessSaid : Prop := ringLessRow.holds Try.pinned (OpenSpec.ofChange ringLessSpec)

/-- ITS FALSE NEIGHBOUR: 'it returns false'. Refute it at one input. -/
def ringLessWrong : ChangeSpec := { name := "ringLess", fn := fun _ => fun
  | [d1, d2, d3] => { results := [.lit (.bool false)], args := [d1, d2, d3] }
  | _ => none }
def RingLessWrongFalsely : Prop := ringLessRow.holds Try.pinned (OpenSpec.ofChange ringLessWrong)

/-- 'icehouselaw09.RingStays': WHATEVER THE INPUT: true; the input reads as it did. -/
def ringStaysSpec : ChangeSpec := { name := "ringStays", fn := fun _ => fun
  | [d1, d2, d3] => { results := [.lit (.bool true)], args := [d1, d2, d3] }
  | _ => none }
def ringStaysRow : OpenClaim := { program := "ytdfjeanlhafipaa", sum := "5cb5d6af5892738af7d8fcfcd31928eec41814a44b29cd256f9deed9826be315", func := "icehouse/icehouselaw09.RingStays", spec := "ringStays", inPlace := ["slices.overlaps[int]"], unfollowed := true, recurses := true, apart := false }
def RingStaysSaid : Prop := ringStaysRow.holds Try.pinned (OpenSpec.ofChange ringStaysSpec)

/-- ITS FALSE NEIGHBOUR: 'it returns false'. Refute it at one input. -/
def ringStaysWrong : ChangeSpec := { name := "ringStays", fn := fun _ => fun
  | [d1, d2, d3] => { results := [.lit (.bool false)], args := [d1, d2, d3] }
  | _ => none }
def RingStaysWrongFalsely : Prop := ringStaysRow.holds Try.pinned (OpenSpec.ofChange ringStaysWrong)

/-- 'icehouselaw09.RingTurns': WHATEVER THE INPUT: true; the input reads as it did. -/
def ringTurnsSpec : ChangeSpec := { name := "ringTurns", fn := fun _ => fun
  | [d1, d2] => { results := [.lit (.bool true)], args := [d1, d2] }
  | _ => none }
def ringTurnsRow : OpenClaim := { program := "ytdfjeanlhafipaa", sum := "5cb5d6af5892738af7d8fcfcd31928eec41814a44b29cd256f9deed9826be315", func := "icehouse/icehouselaw09.RingTurns", spec := "ringTurns", inPlace := ["slices.overlaps[int]"], unfollowed := true, recurses := true, apart := false }
def RingTurnsSaid : Prop := ringTurnsRow.holds Try.pinned (OpenSpec.ofChange ringTurnsSpec)

/-- ITS FALSE NEIGHBOUR: 'it returns false'. Refute it at one input. -/
def ringTurnsWrong : ChangeSpec := { name := "ringTurns", fn := fun _ => fun
  | [d1, d2] => { results := [.lit (.bool false)], args := [d1, d2] }
  | _ => none }
def RingTurnsWrongFalsely : Prop := ringTurnsRow.holds Try.pinned (OpenSpec.ofChange ringTurnsWrong)

/- THE SECOND FORM. 'bulk': how many values and letters a reading holds, each counted each time it is reached (what is shared counts as often as it is met; a slice's spare places count too). A statement '..UptoSaid' is the law's where the arguments, and the package variables that the reading takes, are together of bulk at most 1048576: NARROWER than '..Said'. Prove '..Said' where nothing that the law and all that it calls make is longer than what came in: it says more and counts as full. Else prove '..UptoSaid'. A law counts once. -/
mutual
def uptoBulk {H : Type} : DataW H → Nat
  | .lit (.string bytes) => bytes.length + 1
  | .lit _ => 1
  | .nil => 1
  | .ptr d => uptoBulk d + 1
  | .slice elems spare => uptoBulkAll elems + uptoBulkAll spare + 1
  | .agg parts => uptoBulkAll parts + 1
  | .iface _ d => uptoBulk d + 1
  | .map entries => uptoBulkEntries entries + 1
  | .held _ => 1
def uptoBulkAll {H : Type} : List (DataW H) → Nat
  | [] => 0
  | d :: r => uptoBulk d + uptoBulkAll r
def uptoBulkEntries {H : Type} : List (Lit × DataW H) → Nat
  | [] => 0
  | x :: r => uptoBulkEntry x + uptoBulkEntries r
def uptoBulkEntry {H : Type} : Lit × DataW H → Nat
  | (.string bytes, d) => bytes.length + uptoBulk d + 1
  | (_, d) => uptoBulk d + 1
 end
def uptoSmall : (H : Type) → List (DataW H) → Bool := fun _ ds => decide (uptoBulkAll ds ≤ 1048576)
def OpenSpec.upto (s : _root_.Go.ChangeSpec) : _root_.Go.OpenSpec := { _root_.Go.OpenSpec.ofChange s with cond := some uptoSmall }

/-- 'icehouselaw09.RingAll', WHERE WHAT IT READS IS OF BULK AT MOST 1048576: true; the input reads as it did. -/
def ringAllUptoRow : OpenClaim := { program := "ytdfjeanlhafipaa", sum := "5cb5d6af5892738af7d8fcfcd31928eec41814a44b29cd256f9deed9826be315", func := "icehouse/icehouselaw09.RingAll", spec := "ringAll", unfollowed := true, recurses := true, apart := false, narrowed := true }
def RingAllUptoSaid : Prop := ringAllUptoRow.holds Try.pinned (OpenSpec.upto ringAllSpec)

/-- 'icehouselaw09.RingKeeps', WHERE WHAT IT READS IS OF BULK AT MOST 1048576: true; the input reads as it did. -/
def ringKeepsUptoRow : OpenClaim := { program := "ytdfjeanlhafipaa", sum := "5cb5d6af5892738af7d8fcfcd31928eec41814a44b29cd256f9deed9826be315", func := "icehouse/icehouselaw09.RingKeeps", spec := "ringKeeps", unfollowed := true, recurses := true, apart := false, narrowed := true }
def RingKeepsUptoSaid : Prop := ringKeepsUptoRow.holds Try.pinned (OpenSpec.upto ringKeepsSpec)

/-- 'icehouselaw09.RingPoints', WHERE WHAT IT READS IS OF BULK AT MOST 1048576: true; the input reads as it did. -/
def ringPointsUptoRow : OpenClaim := { program := "ytdfjeanlhafipaa", sum := "5cb5d6af5892738af7d8fcfcd31928eec41814a44b29cd256f9deed9826be315", func := "icehouse/icehouselaw09.RingPoints", spec := "ringPoints", unfollowed := true, recurses := true, apart := false, narrowed := true }
def RingPointsUptoSaid : Prop := ringPointsUptoRow.holds Try.pinned (OpenSpec.upto ringPointsSpec)

/-- 'icehouselaw09.RingSegments', WHERE WHAT IT READS IS OF BULK AT MOST 1048576: true; the input reads as it did. -/
def ringSegmentsUptoRow : OpenClaim := { program := "ytdfjeanlhafipaa", sum := "5cb5d6af5892738af7d8fcfcd31928eec41814a44b29cd256f9deed9826be315", func := "icehouse/icehouselaw09.RingSegments", spec := "ringSegments", unfollowed := true, recurses := true, apart := false, narrowed := true }
def RingSegmentsUptoSaid : Prop := ringSegmentsUptoRow.holds Try.pinned (OpenSpec.upto ringSegmentsSpec)

/-- 'icehouselaw09.RingLess', WHERE WHAT IT READS IS OF BULK AT MOST 1048576: true; the input reads as it did. -/
def ringLessUptoRow : OpenClaim := { program := "ytdfjeanlhafipaa", sum := "5cb5d6af5892738af7d8fcfcd31928eec41814a44b29cd256f9deed9826be315", func := "icehouse/icehouselaw09.RingLess", spec := "ringLess", unfollowed := true, recurses := true, apart := false, narrowed := true }
def RingLessUptoSaid : Prop := ringLessUptoRow.holds Try.pinned (OpenSpec.upto ringLessSpec)

/-- 'icehouselaw09.RingStays', WHERE WHAT IT READS IS OF BULK AT MOST 1048576: true; the input reads as it did. -/
def ringStaysUptoRow : OpenClaim := { program := "ytdfjeanlhafipaa", sum := "5cb5d6af5892738af7d8fcfcd31928eec41814a44b29cd256f9deed9826be315", func := "icehouse/icehouselaw09.RingStays", spec := "ringStays", inPlace := ["slices.overlaps[int]"], unfollowed := true, recurses := true, apart := false, narrowed := true }
def RingStaysUptoSaid : Prop := ringStaysUptoRow.holds Try.pinned (OpenSpec.upto ringStaysSpec)

/-- 'icehouselaw09.RingTurns', WHERE WHAT IT READS IS OF BULK AT MOST 1048576: true; the input reads as it did. -/
def ringTurnsUptoRow : OpenClaim := { program := "ytdfjeanlhafipaa", sum := "5cb5d6af5892738af7d8fcfcd31928eec41814a44b29cd256f9deed9826be315", func := "icehouse/icehouselaw09.RingTurns", spec := "ringTurns", inPlace := ["slices.overlaps[int]"], unfollowed := true, recurses := true, apart := false, narrowed := true }
def RingTurnsUptoSaid : Prop := ringTurnsUptoRow.holds Try.pinned (OpenSpec.upto ringTurnsSpec)

end Rows
end Go.Proofs.Ytdfjeanlhafipaa
