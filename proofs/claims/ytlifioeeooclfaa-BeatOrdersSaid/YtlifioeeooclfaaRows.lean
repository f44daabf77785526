/-
  No cell of these rows narrows 'for every input' (looked for: loops, veiled, ifaces, maps, wideKeys, modest, calm, conditions, laid).
  DERIVED. THE GIVEN ROWS OF THIS SEAT. 6 by the template 'for every input the law returns true; each argument reads behind the call as it read before'; 0 by the template 'total and deterministic' (their statements: YtlifioeeooclfaaTotals.lean).
  GIVEN WITH THE SEED: the statements are not yours to turn. If you find one false, say at which input.
  Laid BY PROGRAM, IN A SANDBOX (cutbox-rows.mjs): the forced cells as the released guide's own fill.sh prints them over the translation 3b9f7984a3b4851a… (all of the seat's roots in one cut). By AI agents, Wed Nov 11 2026. No macro, syntax, notation, axiom, sorry.
-/
import Derived.Test.YtlifioeeooclfaaChecked
import GoSem.Claim
import GoSem.ClaimJoined
import GoSem.ClaimMapViews
import Derived.JoinedTies
import Derived.KernelRfl
namespace Go.Proofs.Ytlifioeeooclfaa
/- THE CELL 'sum', in the pinned program and in every row, IS THE sha256 OF THE DUMP (.gsa) THAT YtlifioeeooclfaaProg.lean LOADS. Nothing in Lean hashes anything: it is a label: what it is worth is what the hold of that sum in a sandbox is worth. -/
noncomputable def Try.pinned : Pinned := { name := "ytlifioeeooclfaa", sum := "3b9f7984a3b4851ac7f84bf0b526c5644b11eba97054bfd5e9f8360a5ba8dc7d", checked := Try.checked }
namespace Rows
def none {H : Type} : Left H := { results := [], args := [] }

/-- 'icehouselaw15.BeatUsual': WHATEVER THE INPUT: true; the input reads as it did. -/
def beatUsualSpec : ChangeSpec := { name := "beatUsual", fn := fun _ => fun
  | [d1, d2, d3] => { results := [.lit (.bool true)], args := [d1, d2, d3] }
  | _ => none }
def beatUsualRow : OpenClaim := { program := "ytlifioeeooclfaa", sum := "3b9f7984a3b4851ac7f84bf0b526c5644b11eba97054bfd5e9f8360a5ba8dc7d", func := "icehouse/icehouselaw15.BeatUsual", spec := "beatUsual", inPlace := ["math.Float64bits", "math.Float64frombits"], apart := false }
def BeatUsualSaid : Prop := beatUsualRow.holds Try.pinned (OpenSpec.ofChange beatUsualSpec)

/-- ITS FALSE NEIGHBOUR: 'it returns false'. Refute it at one input. -/
def beatUsualWrong : ChangeSpec := { name := "beatUsual", fn := fun _ => fun
  | [d1, d2, d3] => { results := [.lit (.bool false)], args := [d1, d2, d3] }
  | _ => none }
def BeatUsualWrongFalsely : Prop := beatUsualRow.holds Try.pinned (OpenSpec.ofChange beatUsualWrong)

/-- 'icehouselaw15.BeatHeard': WHATEVER THE INPUT: true; the input reads as it did. -/
def beatHeardSpec : ChangeSpec := { name := "beatHeard", fn := fun _ => fun
  | [d1, d2, d3] => { results := [.lit (.bool true)], args := [d1, d2, d3] }
  | _ => none }
def beatHeardRow : OpenClaim := { program := "ytlifioeeooclfaa", sum := "3b9f7984a3b4851ac7f84bf0b526c5644b11eba97054bfd5e9f8360a5ba8dc7d", func := "icehouse/icehouselaw15.BeatHeard", spec := "beatHeard", inPlace := ["math.Float64bits", "math.Float64frombits"], unfollowed := true, recurses := true, apart := false }
def BeatHeardSaid : Prop := beatHeardRow.holds Try.pinned (OpenSpec.ofChange beatHeardSpec)

/-- ITS FALSE NEIGHBOUR: 'it returns false'. Refute it at one input. -/
def beatHeardWrong : ChangeSpec := { name := "beatHeard", fn := fun _ => fun
  | [d1, d2, d3] => { results := [.lit (.bool false)], args := [d1, d2, d3] }
  | _ => none }
def BeatHeardWrongFalsely : Prop := beatHeardRow.holds Try.pinned (OpenSpec.ofChange beatHeardWrong)

/-- 'icehouselaw15.BeatScores': WHATEVER THE INPUT: true; the input reads as it did. -/
def beatScoresSpec : ChangeSpec := { name := "beatScores", fn := fun _ => fun
  | [d1, d2, d3, d4] => { results := [.lit (.bool true)], args := [d1, d2, d3, d4] }
  | _ => none }
def beatScoresRow : OpenClaim := { program := "ytlifioeeooclfaa", sum := "3b9f7984a3b4851ac7f84bf0b526c5644b11eba97054bfd5e9f8360a5ba8dc7d", func := "icehouse/icehouselaw15.BeatScores", spec := "beatScores", inPlace := ["math.Float64bits", "math.Float64frombits"], apart := false }
def BeatScoresSaid : Prop := beatScoresRow.holds Try.pinned (OpenSpec.ofChange beatScoresSpec)

/-- ITS FALSE NEIGHBOUR: 'it returns false'. Refute it at one input. -/
def beatScoresWrong : ChangeSpec := { name := "beatScores", fn := fun _ => fun
  | [d1, d2, d3, d4] => { results := [.lit (.bool false)], args := [d1, d2, d3, d4] }
  | _ => none }
def BeatScoresWrongFalsely : Prop := beatScoresRow.holds Try.pinned (OpenSpec.ofChange beatScoresWrong)

/-- 'icehouselaw15.BeatLonger': WHATEVER THE INPUT: true; the input reads as it did. -/
def beatLongerSpec : ChangeSpec := { name := "beatLonger", fn := fun _ => fun
  | [d1, d2, d3, d4, d5] => { results := [.lit (.bool true)], args := [d1, d2, d3, d4, d5] }
  | _ => none }
def beatLongerRow : OpenClaim := { program := "ytlifioeeooclfaa", sum := "3b9f7984a3b4851ac7f84bf0b526c5644b11eba97054bfd5e9f8360a5ba8dc7d", func := "icehouse/icehouselaw15.BeatLonger", spec := "beatLonger", inPlace := ["math.Float64bits", "math.Float64frombits"], apart := false }
def BeatLongerSaid : Prop := beatLongerRow.holds Try.pinned (OpenSpec.ofChange beatLongerSpec)

/-- ITS FALSE NEIGHBOUR: 'it returns false'. Refute it at one input. -/
def beatLongerWrong : ChangeSpec := { name := "beatLonger", fn := fun _ => fun
  | [d1, d2, d3, d4, d5] => { results := [.lit (.bool false)], args := [d1, d2, d3, d4, d5] }
  | _ => none }
def BeatLongerWrongFalsely : Prop := beatLongerRow.holds Try.pinned (OpenSpec.ofChange beatLongerWrong)

/-- 'icehouselaw15.BeatSame': WHATEVER THE INPUT: true; the input reads as it did. -/
def beatSameSpec : ChangeSpec := { name := "beatSame", fn := fun _ => fun
  | [d1, d2, d3, d4, d5] => { results := [.lit (.bool true)], args := [d1, d2, d3, d4, d5] }
  | _ => none }
def beatSameRow : OpenClaim := { program := "ytlifioeeooclfaa", sum := "3b9f7984a3b4851ac7f84bf0b526c5644b11eba97054bfd5e9f8360a5ba8dc7d", func := "icehouse/icehouselaw15.BeatSame", spec := "beatSame", inPlace := ["math.Float64bits", "math.Float64frombits"], unfollowed := true, recurses := true, apart := false }
def BeatSameSaid : Prop := beatSameRow.holds Try.pinned (OpenSpec.ofChange beatSameSpec)

/-- ITS FALSE NEIGHBOUR: 'it returns false'. Refute it at one input. -/
def beatSameWrong : ChangeSpec := { name := "beatSame", fn := fun _ => fun
  | [d1, d2, d3, d4, d5] => { results := [.lit (.bool false)], args := [d1, d2, d3, d4, d5] }
  | _ => none }
def BeatSameWrongFalsely : Prop := beatSameRow.holds Try.pinned (OpenSpec.ofChange beatSameWrong)

/-- 'icehouselaw15.BeatOrders': WHATEVER THE INPUT: true; the input reads as it did. -/
def beatOrdersSpec : ChangeSpec := { name := "beatOrders", fn := fun _ => fun
  | [d1, d2] => { results := [.lit (.bool true)], args := [d1, d2] }
  | _ => none }
def beatOrdersRow : OpenClaim := { program := "ytlifioeeooclfaa", sum := "3b9f7984a3b4851ac7f84bf0b526c5644b11eba97054bfd5e9f8360a5ba8dc7d", func := "icehouse/icehouselaw15.BeatOrders", spec := "beatOrders", inPlace := ["math.Float64bits", "math.Float64frombits"], unfollowed := true, recurses := true, apart := false }
def BeatOrdersSaid : Prop := beatOrdersRow.holds Try.pinned (OpenSpec.ofChange beatOrdersSpec)

/-- ITS FALSE NEIGHBOUR: 'it returns false'. Refute it at one input. -/
def beatOrdersWrong : ChangeSpec := { name := "beatOrders", fn := fun _ => fun
  | [d1, d2] => { results := [.lit (.bool false)], args := [d1, d2] }
  | _ => none }
def BeatOrdersWrongFalsely : Prop := beatOrdersRow.holds Try.pinned (OpenSpec.ofChange beatOrdersWrong)

/- THE SECOND FORM. 'bulk': how many values and letters a reading holds, each counted each time it is reached (what is shared counts as often as it is met; a slice's spare places count too). A statement '..UptoSaid' is the law's where the arguments, and the package variables that the reading takes, are together of bulk at most 1048576: NARROWER than '..Said'. Prove '..Said' where nothing that the law and all that it calls make is longer than what came in: it says more and counts as full. Else prove '..UptoSaid'. A law counts once. -/
mutual
def uptoBulk {H : Type} : DataW H → Nat
  | .lit (.string bytes) => bytes.length + 1
  | .lit _ => 1
  | .nil => 1
  | .ptr d => uptoBulk d + 1
  | .slice elems spare => uptoBulkAll elems + uptoBulkAll spare + 1
  | .agg parts => uptoBulkAll parts + 1
  | .iface _ d => uptoBulk d + 1
  | .map entries => uptoBulkEntries entries + 1
  | .held _ => 1
def uptoBulkAll {H : Type} : List (DataW H) → Nat
  | [] => 0
  | d :: r => uptoBulk d + uptoBulkAll r
def uptoBulkEntries {H : Type} : List (Lit × DataW H) → Nat
  | [] => 0
  | x :: r => uptoBulkEntry x + uptoBulkEntries r
def uptoBulkEntry {H : Type} : Lit × DataW H → Nat
  | (.string bytes, d) => bytes.length + uptoBulk d + 1
  | (_, d) => uptoBulk d + 1
 end
def uptoSmall : (H : Type) → List (DataW H) → Bool := fun _ ds => decide (uptoBulkAll ds ≤ 1048576)
def OpenSpec.upto (s : _root_.Go.ChangeSpec) : _root_.Go.OpenSpec := { _root_.Go.OpenSpec.ofChange s with cond := some uptoSmall }

/-- 'icehouselaw15.BeatUsual', WHERE WHAT IT READS IS OF BULK AT MOST 1048576: true; the input reads as it did. -/
def beatUsualUptoRow : OpenClaim := { program := "ytlifioeeooclfaa", sum := "3b9f7984a3b4851ac7f84bf0b526c5644b11eba97054bfd5e9f8360a5ba8dc7d", func := "icehouse/icehouselaw15.BeatUsual", spec := "beatUsual", inPlace := ["math.Float64bits", "math.Float64frombits"], apart := false, narrowed := true }
def BeatUsualUptoSaid : Prop := beatUsualUptoRow.holds Try.pinned (OpenSpec.upto beatUsualSpec)

/-- 'icehouselaw15.BeatHeard', WHERE WHAT IT READS IS OF BULK AT MOST 1048576: true; the input reads as it did. -/
def beatHeardUptoRow : OpenClaim := { program := "ytlifioeeooclfaa", sum := "3b9f7984a3b4851ac7f84bf0b526c5644b11eba97054bfd5e9f8360a5ba8dc7d", func := "icehouse/icehouselaw15.BeatHeard", spec := "beatHeard", inPlace := ["math.Float64bits", "math.Float64frombits"], unfollowed := true, recurses := true, apart := false, narrowed := true }
def BeatHeardUptoSaid : Prop := beatHeardUptoRow.holds Try.pinned (OpenSpec.upto beatHeardSpec)

/-- 'icehouselaw15.BeatScores', WHERE WHAT IT READS IS OF BULK AT MOST 1048576: true; the input reads as it did. -/
def beatScoresUptoRow : OpenClaim := { program := "ytlifioeeooclfaa", sum := "3b9f7984a3b4851ac7f84bf0b526c5644b11eba97054bfd5e9f8360a5ba8dc7d", func := "icehouse/icehouselaw15.BeatScores", spec := "beatScores", inPlace := ["math.Float64bits", "math.Float64frombits"], apart := false, narrowed := true }
def BeatScoresUptoSaid : Prop := beatScoresUptoRow.holds Try.pinned (OpenSpec.upto beatScoresSpec)

/-- 'icehouselaw15.BeatLonger', WHERE WHAT IT READS IS OF BULK AT MOST 1048576: true; the input reads as it did. -/
def beatLongerUptoRow : OpenClaim := { program := "ytlifioeeooclfaa", sum := "3b9f7984a3b4851ac7f84bf0b526c5644b11eba97054bfd5e9f8360a5ba8dc7d", func := "icehouse/icehouselaw15.BeatLonger", spec := "beatLonger", inPlace := ["math.Float64bits", "math.Float64frombits"], apart := false, narrowed := true }
def BeatLongerUptoSaid : Prop := beatLongerUptoRow.holds Try.pinned (OpenSpec.upto beatLongerSpec)

/-- 'icehouselaw15.BeatSame', WHERE WHAT IT READS IS OF BULK AT MOST 1048576: true; the input reads as it did. -/
def beatSameUptoRow : OpenClaim := { program := "ytlifioeeooclfaa", sum := "3b9f7984a3b4851ac7f84bf0b526c5644b11eba97054bfd5e9f8360a5ba8dc7d", func := "icehouse/icehouselaw15.BeatSame", spec := "beatSame", inPlace := ["math.Float64bits", "math.Float64frombits"], unfollowed := true, recurses := true, apart := false, narrowed := true }
def BeatSameUptoSaid : Prop := beatSameUptoRow.holds Try.pinned (OpenSpec.upto beatSameSpec)

/-- 'icehouselaw15.BeatOrders', WHERE WHAT IT READS IS OF BULK AT MOST 1048576: true; the input reads as it did. -/
def beatOrdersUptoRow : OpenClaim := { program := "ytlifioeeooclfaa", sum := "3b9f7984a3b4851ac7f84bf0b526c5644b11eba97054bfd5e9f8360a5ba8dc7d", func := "icehouse/icehouselaw15.BeatOrders", spec := "beatOrders", inPlace := ["math.Float64bits", "math.Float64frombits"], unfollowed := true, recurses := true, apart := false, narrowed := true }
def BeatOrdersUptoSaid : Prop := beatOrdersUptoRow.holds Try.pinned (OpenSpec.upto beatOrdersSpec)

end Rows
end Go.Proofs.Ytlifioeeooclfaa
