/-
  No cell of these rows narrows 'for every input' (looked for: loops, veiled, ifaces, maps, wideKeys, modest, calm, conditions, laid).
  DERIVED. THE GIVEN ROWS OF THIS SEAT. 9 by the template 'for every input the law returns true; each argument reads behind the call as it read before'; 0 by the template 'total and deterministic' (their statements: YtkejjobljiibeaaTotals.lean).
  GIVEN WITH THE SEED: the statements are not yours to turn. If you find one false, say at which input.
  Laid BY PROGRAM, IN A SANDBOX (cutbox-rows.mjs): the forced cells as the released guide's own fill.sh prints them over the translation 7754879d94cf54c4… (all of the seat's roots in one cut). By AI agents, Wed Nov 11 2026. No macro, syntax, notation, axiom, sorry.
-/
import Derived.Test.YtkejjobljiibeaaChecked
import GoSem.Claim
import GoSem.ClaimJoined
import GoSem.ClaimMapViews
import Derived.JoinedTies
import Derived.KernelRfl
namespace Go.Proofs.Ytkejjobljiibeaa
/- THE CELL 'sum', in the pinned program and in every row, IS THE sha256 OF THE DUMP (.gsa) THAT YtkejjobljiibeaaProg.lean LOADS. Nothing in Lean hashes anything: it is a label: what it is worth is what the hold of that sum in a sandbox is worth. -/
noncomputable def Try.pinned : Pinned := { name := "ytkejjobljiibeaa", sum := "7754879d94cf54c4988b96ca7b8bb0db3b9347602de51d5db3ac61ce6c69b8cf", checked := Try.checked }
namespace Rows
def none {H : Type} : Left H := { results := [], args := [] }

/-- 'icehouselaw01.RealKeys': WHATEVER THE INPUT: true; the input reads as it did. -/
def realKeysSpec : ChangeSpec := { name := "realKeys", fn := fun _ => fun
  | [d1, d2] => { results := [.lit (.bool true)], args := [d1, d2] }
  | _ => none }
def realKeysRow : OpenClaim := { program := "ytkejjobljiibeaa", sum := "7754879d94cf54c4988b96ca7b8bb0db3b9347602de51d5db3ac61ce6c69b8cf", func := "icehouse/icehouselaw01.RealKeys", spec := "realKeys", inPlace := ["math.Float64frombits", "math.Float64bits"], apart := false }
def RealKeysSaid : Prop := realKeysRow.holds Try.pinned (OpenSpec.ofChange realKeysSpec)

/-- ITS FALSE NEIGHBOUR: 'it returns false'. Refute it at one input. -/
def realKeysWrong : ChangeSpec := { name := "realKeys", fn := fun _ => fun
  | [d1, d2] => { results := [.lit (.bool false)], args := [d1, d2] }
  | _ => none }
def RealKeysWrongFalsely : Prop := realKeysRow.holds Try.pinned (OpenSpec.ofChange realKeysWrong)

/-- 'icehouselaw01.RealOrder': WHATEVER THE INPUT: true; the input reads as it did. -/
def realOrderSpec : ChangeSpec := { name := "realOrder", fn := fun _ => fun
  | [d1, d2, d3] => { results := [.lit (.bool true)], args := [d1, d2, d3] }
  | _ => none }
def realOrderRow : OpenClaim := { program := "ytkejjobljiibeaa", sum := "7754879d94cf54c4988b96ca7b8bb0db3b9347602de51d5db3ac61ce6c69b8cf", func := "icehouse/icehouselaw01.RealOrder", spec := "realOrder", inPlace := ["math.Float64frombits", "math.Float64bits"], apart := false }
def RealOrderSaid : Prop := realOrderRow.holds Try.pinned (OpenSpec.ofChange realOrderSpec)

/-- ITS FALSE NEIGHBOUR: 'it returns false'. Refute it at one input. -/
def realOrderWrong : ChangeSpec := { name := "realOrder", fn := fun _ => fun
  | [d1, d2, d3] => { results := [.lit (.bool false)], args := [d1, d2, d3] }
  | _ => none }
def RealOrderWrongFalsely : Prop := realOrderRow.holds Try.pinned (OpenSpec.ofChange realOrderWrong)

/-- 'icehouselaw01.RealNext': WHATEVER THE INPUT: true; the input reads as it did. -/
def realNextSpec : ChangeSpec := { name := "realNext", fn := fun _ => fun
  | [d1, d2] => { results := [.lit (.bool true)], args := [d1, d2] }
  | _ => none }
def realNextRow : OpenClaim := { program := "ytkejjobljiibeaa", sum := "7754879d94cf54c4988b96ca7b8bb0db3b9347602de51d5db3ac61ce6c69b8cf", func := "icehouse/icehouselaw01.RealNext", spec := "realNext", inPlace := ["math.Float64frombits", "math.Float64bits"], apart := false }
def RealNextSaid : Prop := realNextRow.holds Try.pinned (OpenSpec.ofChange realNextSpec)

/-- ITS FALSE NEIGHBOUR: 'it returns false'. Refute it at one input. -/
def realNextWrong : ChangeSpec := { name := "realNext", fn := fun _ => fun
  | [d1, d2] => { results := [.lit (.bool false)], args := [d1, d2] }
  | _ => none }
def RealNextWrongFalsely : Prop := realNextRow.holds Try.pinned (OpenSpec.ofChange realNextWrong)

/-- 'icehouselaw01.RealLeast': WHATEVER THE INPUT: true; the input reads as it did. -/
def realLeastSpec : ChangeSpec := { name := "realLeast", fn := fun _ => fun
  | [d] => { results := [.lit (.bool true)], args := [d] }
  | _ => none }
def realLeastRow : OpenClaim := { program := "ytkejjobljiibeaa", sum := "7754879d94cf54c4988b96ca7b8bb0db3b9347602de51d5db3ac61ce6c69b8cf", func := "icehouse/icehouselaw01.RealLeast", spec := "realLeast", inPlace := ["math.Float64bits", "math.Float64frombits"], apart := false }
def RealLeastSaid : Prop := realLeastRow.holds Try.pinned (OpenSpec.ofChange realLeastSpec)

/-- ITS FALSE NEIGHBOUR: 'it returns false'. Refute it at one input. -/
def realLeastWrong : ChangeSpec := { name := "realLeast", fn := fun _ => fun
  | [d] => { results := [.lit (.bool false)], args := [d] }
  | _ => none }
def RealLeastWrongFalsely : Prop := realLeastRow.holds Try.pinned (OpenSpec.ofChange realLeastWrong)

/-- 'icehouselaw01.RealBytes': WHATEVER THE INPUT: true; the input reads as it did. -/
def realBytesSpec : ChangeSpec := { name := "realBytes", fn := fun _ => fun
  | [d1, d2] => { results := [.lit (.bool true)], args := [d1, d2] }
  | _ => none }
def realBytesRow : OpenClaim := { program := "ytkejjobljiibeaa", sum := "7754879d94cf54c4988b96ca7b8bb0db3b9347602de51d5db3ac61ce6c69b8cf", func := "icehouse/icehouselaw01.RealBytes", spec := "realBytes", inPlace := ["math.Float64bits", "math.Float64frombits"], apart := false }
def RealBytesSaid : Prop := realBytesRow.holds Try.pinned (OpenSpec.ofChange realBytesSpec)

/-- ITS FALSE NEIGHBOUR: 'it returns false'. Refute it at one input. -/
def realBytesWrong : ChangeSpec := { name := "realBytes", fn := fun _ => fun
  | [d1, d2] => { results := [.lit (.bool false)], args := [d1, d2] }
  | _ => none }
def RealBytesWrongFalsely : Prop := realBytesRow.holds Try.pinned (OpenSpec.ofChange realBytesWrong)

/-- 'icehouselaw01.RealBack': WHATEVER THE INPUT: true; the input reads as it did. -/
def realBackSpec : ChangeSpec := { name := "realBack", fn := fun _ => fun
  | [d1, d2] => { results := [.lit (.bool true)], args := [d1, d2] }
  | _ => none }
def realBackRow : OpenClaim := { program := "ytkejjobljiibeaa", sum := "7754879d94cf54c4988b96ca7b8bb0db3b9347602de51d5db3ac61ce6c69b8cf", func := "icehouse/icehouselaw01.RealBack", spec := "realBack", inPlace := ["math.Float64frombits", "math.Float64bits"], apart := false }
def RealBackSaid : Prop := realBackRow.holds Try.pinned (OpenSpec.ofChange realBackSpec)

/-- ITS FALSE NEIGHBOUR: 'it returns false'. Refute it at one input. -/
def realBackWrong : ChangeSpec := { name := "realBack", fn := fun _ => fun
  | [d1, d2] => { results := [.lit (.bool false)], args := [d1, d2] }
  | _ => none }
def RealBackWrongFalsely : Prop := realBackRow.holds Try.pinned (OpenSpec.ofChange realBackWrong)

/-- 'icehouselaw01.RealShares': WHATEVER THE INPUT: true; the input reads as it did. -/
def realSharesSpec : ChangeSpec := { name := "realShares", fn := fun _ => fun
  | [d1, d2] => { results := [.lit (.bool true)], args := [d1, d2] }
  | _ => none }
def realSharesRow : OpenClaim := { program := "ytkejjobljiibeaa", sum := "7754879d94cf54c4988b96ca7b8bb0db3b9347602de51d5db3ac61ce6c69b8cf", func := "icehouse/icehouselaw01.RealShares", spec := "realShares", inPlace := ["math.Float64frombits", "math.Float64bits"], apart := false }
def RealSharesSaid : Prop := realSharesRow.holds Try.pinned (OpenSpec.ofChange realSharesSpec)

/-- ITS FALSE NEIGHBOUR: 'it returns false'. Refute it at one input. -/
def realSharesWrong : ChangeSpec := { name := "realShares", fn := fun _ => fun
  | [d1, d2] => { results := [.lit (.bool false)], args := [d1, d2] }
  | _ => none }
def RealSharesWrongFalsely : Prop := realSharesRow.holds Try.pinned (OpenSpec.ofChange realSharesWrong)

/-- 'icehouselaw01.RealAlone': WHATEVER THE INPUT: true; the input reads as it did. -/
def realAloneSpec : ChangeSpec := { name := "realAlone", fn := fun _ => fun
  | [d] => { results := [.lit (.bool true)], args := [d] }
  | _ => none }
def realAloneRow : OpenClaim := { program := "ytkejjobljiibeaa", sum := "7754879d94cf54c4988b96ca7b8bb0db3b9347602de51d5db3ac61ce6c69b8cf", func := "icehouse/icehouselaw01.RealAlone", spec := "realAlone", inPlace := ["math.Float64frombits", "math.Float64bits"], apart := false }
def RealAloneSaid : Prop := realAloneRow.holds Try.pinned (OpenSpec.ofChange realAloneSpec)

/-- ITS FALSE NEIGHBOUR: 'it returns false'. Refute it at one input. -/
def realAloneWrong : ChangeSpec := { name := "realAlone", fn := fun _ => fun
  | [d] => { results := [.lit (.bool false)], args := [d] }
  | _ => none }
def RealAloneWrongFalsely : Prop := realAloneRow.holds Try.pinned (OpenSpec.ofChange realAloneWrong)

/-- 'icehouselaw01.RealSome': WHATEVER THE INPUT: true; the input reads as it did. -/
def realSomeSpec : ChangeSpec := { name := "realSome", fn := fun _ => fun
  | [d] => { results := [.lit (.bool true)], args := [d] }
  | _ => none }
def realSomeRow : OpenClaim := { program := "ytkejjobljiibeaa", sum := "7754879d94cf54c4988b96ca7b8bb0db3b9347602de51d5db3ac61ce6c69b8cf", func := "icehouse/icehouselaw01.RealSome", spec := "realSome", inPlace := ["math.Float64bits", "math.Float64frombits"], apart := false }
def RealSomeSaid : Prop := realSomeRow.holds Try.pinned (OpenSpec.ofChange realSomeSpec)

/-- ITS FALSE NEIGHBOUR: 'it returns false'. Refute it at one input. -/
def realSomeWrong : ChangeSpec := { name := "realSome", fn := fun _ => fun
  | [d] => { results := [.lit (.bool false)], args := [d] }
  | _ => none }
def RealSomeWrongFalsely : Prop := realSomeRow.holds Try.pinned (OpenSpec.ofChange realSomeWrong)

/- THE SECOND FORM. 'bulk': how many values and letters a reading holds, each counted each time it is reached (what is shared counts as often as it is met; a slice's spare places count too). A statement '..UptoSaid' is the law's where the arguments, and the package variables that the reading takes, are together of bulk at most 1048576: NARROWER than '..Said'. Prove '..Said' where nothing that the law and all that it calls make is longer than what came in: it says more and counts as full. Else prove '..UptoSaid'. A law counts once. -/
mutual
def uptoBulk {H : Type} : DataW H → Nat
  | .lit (.string bytes) => bytes.length + 1
  | .lit _ => 1
  | .nil => 1
  | .ptr d => uptoBulk d + 1
  | .slice elems spare => uptoBulkAll elems + uptoBulkAll spare + 1
  | .agg parts => uptoBulkAll parts + 1
  | .iface _ d => uptoBulk d + 1
  | .map entries => uptoBulkEntries entries + 1
  | .held _ => 1
def uptoBulkAll {H : Type} : List (DataW H) → Nat
  | [] => 0
  | d :: r => uptoBulk d + uptoBulkAll r
def uptoBulkEntries {H : Type} : List (Lit × DataW H) → Nat
  | [] => 0
  | x :: r => uptoBulkEntry x + uptoBulkEntries r
def uptoBulkEntry {H : Type} : Lit × DataW H → Nat
  | (.string bytes, d) => bytes.length + uptoBulk d + 1
  | (_, d) => uptoBulk d + 1
 end
def uptoSmall : (H : Type) → List (DataW H) → Bool := fun _ ds => decide (uptoBulkAll ds ≤ 1048576)
def OpenSpec.upto (s : _root_.Go.ChangeSpec) : _root_.Go.OpenSpec := { _root_.Go.OpenSpec.ofChange s with cond := some uptoSmall }

/-- 'icehouselaw01.RealKeys', WHERE WHAT IT READS IS OF BULK AT MOST 1048576: true; the input reads as it did. -/
def realKeysUptoRow : OpenClaim := { program := "ytkejjobljiibeaa", sum := "7754879d94cf54c4988b96ca7b8bb0db3b9347602de51d5db3ac61ce6c69b8cf", func := "icehouse/icehouselaw01.RealKeys", spec := "realKeys", inPlace := ["math.Float64frombits", "math.Float64bits"], apart := false, narrowed := true }
def RealKeysUptoSaid : Prop := realKeysUptoRow.holds Try.pinned (OpenSpec.upto realKeysSpec)

/-- 'icehouselaw01.RealOrder', WHERE WHAT IT READS IS OF BULK AT MOST 1048576: true; the input reads as it did. -/
def realOrderUptoRow : OpenClaim := { program := "ytkejjobljiibeaa", sum := "7754879d94cf54c4988b96ca7b8bb0db3b9347602de51d5db3ac61ce6c69b8cf", func := "icehouse/icehouselaw01.RealOrder", spec := "realOrder", inPlace := ["math.Float64frombits", "math.Float64bits"], apart := false, narrowed := true }
def RealOrderUptoSaid : Prop := realOrderUptoRow.holds Try.pinned (OpenSpec.upto realOrderSpec)

/-- 'icehouselaw01.RealNext', WHERE WHAT IT READS IS OF BULK AT MOST 1048576: true; the input reads as it did. -/
def realNextUptoRow : OpenClaim := { program := "ytkejjobljiibeaa", sum := "7754879d94cf54c4988b96ca7b8bb0db3b9347602de51d5db3ac61ce6c69b8cf", func := "icehouse/icehouselaw01.RealNext", spec := "realNext", inPlace := ["math.Float64frombits", "math.Float64bits"], apart := false, narrowed := true }
def RealNextUptoSaid : Prop := realNextUptoRow.holds Try.pinned (OpenSpec.upto realNextSpec)

/-- 'icehouselaw01.RealLeast', WHERE WHAT IT READS IS OF BULK AT MOST 1048576: true; the input reads as it did. -/
def realLeastUptoRow : OpenClaim := { program := "ytkejjobljiibeaa", sum := "7754879d94cf54c4988b96ca7b8bb0db3b9347602de51d5db3ac61ce6c69b8cf", func := "icehouse/icehouselaw01.RealLeast", spec := "realLeast", inPlace := ["math.Float64bits", "math.Float64frombits"], apart := false, narrowed := true }
def RealLeastUptoSaid : Prop := realLeastUptoRow.holds Try.pinned (OpenSpec.upto realLeastSpec)

/-- 'icehouselaw01.RealBytes', WHERE WHAT IT READS IS OF BULK AT MOST 1048576: true; the input reads as it did. -/
def realBytesUptoRow : OpenClaim := { program := "ytkejjobljiibeaa", sum := "7754879d94cf54c4988b96ca7b8bb0db3b9347602de51d5db3ac61ce6c69b8cf", func := "icehouse/icehouselaw01.RealBytes", spec := "realBytes", inPlace := ["math.Float64bits", "math.Float64frombits"], apart := false, narrowed := true }
def RealBytesUptoSaid : Prop := realBytesUptoRow.holds Try.pinned (OpenSpec.upto realBytesSpec)

/-- 'icehouselaw01.RealBack', WHERE WHAT IT READS IS OF BULK AT MOST 1048576: true; the input reads as it did. -/
def realBackUptoRow : OpenClaim := { program := "ytkejjobljiibeaa", sum := "7754879d94cf54c4988b96ca7b8bb0db3b9347602de51d5db3ac61ce6c69b8cf", func := "icehouse/icehouselaw01.RealBack", spec := "realBack", inPlace := ["math.Float64frombits", "math.Float64bits"], apart := false, narrowed := true }
def RealBackUptoSaid : Prop := realBackUptoRow.holds Try.pinned (OpenSpec.upto realBackSpec)

/-- 'icehouselaw01.RealShares', WHERE WHAT IT READS IS OF BULK AT MOST 1048576: true; the input reads as it did. -/
def realSharesUptoRow : OpenClaim := { program := "ytkejjobljiibeaa", sum := "7754879d94cf54c4988b96ca7b8bb0db3b9347602de51d5db3ac61ce6c69b8cf", func := "icehouse/icehouselaw01.RealShares", spec := "realShares", inPlace := ["math.Float64frombits", "math.Float64bits"], apart := false, narrowed := true }
def RealSharesUptoSaid : Prop := realSharesUptoRow.holds Try.pinned (OpenSpec.upto realSharesSpec)

/-- 'icehouselaw01.RealAlone', WHERE WHAT IT READS IS OF BULK AT MOST 1048576: true; the input reads as it did. -/
def realAloneUptoRow : OpenClaim := { program := "ytkejjobljiibeaa", sum := "7754879d94cf54c4988b96ca7b8bb0db3b9347602de51d5db3ac61ce6c69b8cf", func := "icehouse/icehouselaw01.RealAlone", spec := "realAlone", inPlace := ["math.Float64frombits", "math.Float64bits"], apart := false, narrowed := true }
def RealAloneUptoSaid : Prop := realAloneUptoRow.holds Try.pinned (OpenSpec.upto realAloneSpec)

/-- 'icehouselaw01.RealSome', WHERE WHAT IT READS IS OF BULK AT MOST 1048576: true; the input reads as it did. -/
def realSomeUptoRow : OpenClaim := { program := "ytkejjobljiibeaa", sum := "7754879d94cf54c4988b96ca7b8bb0db3b9347602de51d5db3ac61ce6c69b8cf", func := "icehouse/icehouselaw01.RealSome", spec := "realSome", inPlace := ["math.Float64bits", "math.Float64frombits"], apart := false, narrowed := true }
def RealSomeUptoSaid : Prop := realSomeUptoRow.holds Try.pinned (OpenSpec.upto realSomeSpec)

end Rows
end Go.Proofs.Ytkejjobljiibeaa
