/-
  NARROWER THAN 'FOR EVERY INPUT', by the rows' own cells (each row's printed sentence says how): MsgsWrites: laid · MsgsReads: laid · MsgsBack: laid · MsgsKinds: laid · MsgsHeads: laid · MsgsTwice: laid · MsgsSame: laid.
  DERIVED. THE GIVEN ROWS OF THIS SEAT. 7 by the template 'for every input the law returns true; each argument reads behind the call as it read before'; 0 by the template 'total and deterministic' (their statements: YthaoiamgkpkcbaaDoorTotals.lean).
  GIVEN WITH THE SEED: the statements are not yours to turn. If you find one false, say at which input.
  Laid BY PROGRAM, IN A SANDBOX (cutbox-rows.mjs): the forced cells as the released guide's own fill.sh prints them over the translation 3c9a5f4c8f7a8cd4… (all of the seat's roots in one cut). By AI agents, Wed Nov 11 2026. No macro, syntax, notation, axiom, sorry.
-/
import Derived.Test.YthaoiamgkpkcbaaDoorChecked
import GoSem.Claim
import GoSem.ClaimJoined
import GoSem.ClaimMapViews
import Derived.JoinedTies
import Derived.KernelRfl
namespace Go.Proofs.YthaoiamgkpkcbaaDoor
/- THE CELL 'sum', in the pinned program and in every row, IS THE sha256 OF THE DUMP (.gsa) THAT YthaoiamgkpkcbaaDoorProg.lean LOADS. Nothing in Lean hashes anything: it is a label: what it is worth is what the hold of that sum in a sandbox is worth. -/
noncomputable def Tryd.pinned : Pinned := { name := "ythaoiamgkpkcbaadoor", sum := "3c9a5f4c8f7a8cd47f6daa28db3c2311eea5c1af1fea392ad0382d2003e1a7e5", checked := Tryd.checked }
namespace Rows
def none {H : Type} : Left H := { results := [], args := [] }

/- WHAT THE LISTED PACKAGE-LEVEL VARIABLES READ AS WHEN THE CALL BEGINS. Each datum BY PROGRAM (the guide's laid-datum.mjs) off the statement by which the dump's own 'gosem.cut.vars' lays the variable. In a bare row this is a premise. The card (YthaoiamgkpkcbaaDoorCards.lean) ties it to the program's text. -/
def laid_icehouse_msgs_kinds {H : Type} : DataW H := .agg [.agg [.lit (.bool false), .lit (.bool false), .lit (.bool false), .lit (.bool false), .lit (.bool false)], .agg [.lit (.bool false), .lit (.bool false), .lit (.bool true), .lit (.bool false), .lit (.bool false)], .agg [.lit (.bool true), .lit (.bool true), .lit (.bool true), .lit (.bool false), .lit (.bool false)], .agg [.lit (.bool false), .lit (.bool false), .lit (.bool true), .lit (.bool false), .lit (.bool false)], .agg [.lit (.bool false), .lit (.bool false), .lit (.bool true), .lit (.bool false), .lit (.bool false)], .agg [.lit (.bool false), .lit (.bool false), .lit (.bool true), .lit (.bool false), .lit (.bool false)], .agg [.lit (.bool true), .lit (.bool false), .lit (.bool false), .lit (.bool false), .lit (.bool false)], .agg [.lit (.bool false), .lit (.bool false), .lit (.bool true), .lit (.bool false), .lit (.bool false)], .agg [.lit (.bool false), .lit (.bool false), .lit (.bool true), .lit (.bool false), .lit (.bool false)], .agg [.lit (.bool true), .lit (.bool false), .lit (.bool true), .lit (.bool false), .lit (.bool false)], .agg [.lit (.bool false), .lit (.bool false), .lit (.bool true), .lit (.bool false), .lit (.bool false)], .agg [.lit (.bool false), .lit (.bool false), .lit (.bool true), .lit (.bool false), .lit (.bool false)], .agg [.lit (.bool true), .lit (.bool false), .lit (.bool false), .lit (.bool false), .lit (.bool false)], .agg [.lit (.bool true), .lit (.bool true), .lit (.bool false), .lit (.bool true), .lit (.bool false)], .agg [.lit (.bool true), .lit (.bool true), .lit (.bool false), .lit (.bool true), .lit (.bool false)], .agg [.lit (.bool false), .lit (.bool false), .lit (.bool false), .lit (.bool false), .lit (.bool false)], .agg [.lit (.bool false), .lit (.bool false), .lit (.bool false), .lit (.bool false), .lit (.bool true)], .agg [.lit (.bool false), .lit (.bool false), .lit (.bool false), .lit (.bool false), .lit (.bool false)]]

/-- 'icehouselaw12.MsgsWrites': WHATEVER THE INPUT: true; the input reads as it did. -/
def msgsWritesSpec : ChangeSpec := { name := "msgsWrites", fn := fun _ => fun
  | [d] => { results := [.lit (.bool true)], args := [d] }
  | _ => none }
def msgsWritesRow : OpenClaim := { program := "ythaoiamgkpkcbaadoor", sum := "3c9a5f4c8f7a8cd47f6daa28db3c2311eea5c1af1fea392ad0382d2003e1a7e5", func := "icehouse/icehouselaw12.MsgsWrites", spec := "msgsWrites", unfollowed := true, recurses := true, named := ["icehouse/msgs.kinds"], apart := false, laid := [("icehouse/msgs.kinds", laid_icehouse_msgs_kinds)] }
def MsgsWritesSaid : Prop := msgsWritesRow.holds Tryd.pinned (OpenSpec.ofChange msgsWritesSpec)

/-- ITS FALSE NEIGHBOUR: 'it returns false'. Refute it at one input. -/
def msgsWritesWrong : ChangeSpec := { name := "msgsWrites", fn := fun _ => fun
  | [d] => { results := [.lit (.bool false)], args := [d] }
  | _ => none }
def MsgsWritesWrongFalsely : Prop := msgsWritesRow.holds Tryd.pinned (OpenSpec.ofChange msgsWritesWrong)

/-- 'icehouselaw12.MsgsReads': WHATEVER THE INPUT: true; the input reads as it did. -/
def msgsReadsSpec : ChangeSpec := { name := "msgsReads", fn := fun _ => fun
  | [d] => { results := [.lit (.bool true)], args := [d] }
  | _ => none }
def msgsReadsRow : OpenClaim := { program := "ythaoiamgkpkcbaadoor", sum := "3c9a5f4c8f7a8cd47f6daa28db3c2311eea5c1af1fea392ad0382d2003e1a7e5", func := "icehouse/icehouselaw12.MsgsReads", spec := "msgsReads", unfollowed := true, recurses := true, named := ["icehouse/msgs.kinds"], apart := false, laid := [("icehouse/msgs.kinds", laid_icehouse_msgs_kinds)] }
def MsgsReadsSaid : Prop := msgsReadsRow.holds Tryd.pinned (OpenSpec.ofChange msgsReadsSpec)

/-- ITS FALSE NEIGHBOUR: 'it returns false'. Refute it at one input. -/
def msgsReadsWrong : ChangeSpec := { name := "msgsReads", fn := fun _ => fun
  | [d] => { results := [.lit (.bool false)], args := [d] }
  | _ => none }
def MsgsReadsWrongFalsely : Prop := msgsReadsRow.holds Tryd.pinned (OpenSpec.ofChange msgsReadsWrong)

/-- 'icehouselaw12.MsgsBack': WHATEVER THE INPUT: true; the input reads as it did. -/
def msgsBackSpec : ChangeSpec := { name := "msgsBack", fn := fun _ => fun
  | [d1, d2, d3, d4] => { results := [.lit (.bool true)], args := [d1, d2, d3, d4] }
  | _ => none }
def msgsBackRow : OpenClaim := { program := "ythaoiamgkpkcbaadoor", sum := "3c9a5f4c8f7a8cd47f6daa28db3c2311eea5c1af1fea392ad0382d2003e1a7e5", func := "icehouse/icehouselaw12.MsgsBack", spec := "msgsBack", unfollowed := true, recurses := true, named := ["icehouse/msgs.kinds"], apart := false, laid := [("icehouse/msgs.kinds", laid_icehouse_msgs_kinds)] }
def MsgsBackSaid : Prop := msgsBackRow.holds Tryd.pinned (OpenSpec.ofChange msgsBackSpec)

/-- ITS FALSE NEIGHBOUR: 'it returns false'. Refute it at one input. -/
def msgsBackWrong : ChangeSpec := { name := "msgsBack", fn := fun _ => fun
  | [d1, d2, d3, d4] => { results := [.lit (.bool false)], args := [d1, d2, d3, d4] }
  | _ => none }
def MsgsBackWrongFalsely : Prop := msgsBackRow.holds Tryd.pinned (OpenSpec.ofChange msgsBackWrong)

/-- 'icehouselaw12.MsgsKinds': WHATEVER THE INPUT: true; the input reads as it did. -/
def msgsKindsSpec : ChangeSpec := { name := "msgsKinds", fn := fun _ => fun
  | [d1, d2] => { results := [.lit (.bool true)], args := [d1, d2] }
  | _ => none }
def msgsKindsRow : OpenClaim := { program := "ythaoiamgkpkcbaadoor", sum := "3c9a5f4c8f7a8cd47f6daa28db3c2311eea5c1af1fea392ad0382d2003e1a7e5", func := "icehouse/icehouselaw12.MsgsKinds", spec := "msgsKinds", unfollowed := true, recurses := true, named := ["icehouse/msgs.kinds"], apart := false, laid := [("icehouse/msgs.kinds", laid_icehouse_msgs_kinds)] }
def MsgsKindsSaid : Prop := msgsKindsRow.holds Tryd.pinned (OpenSpec.ofChange msgsKindsSpec)

/-- ITS FALSE NEIGHBOUR: 'it returns false'. Refute it at one input. -/
def msgsKindsWrong : ChangeSpec := { name := "msgsKinds", fn := fun _ => fun
  | [d1, d2] => { results := [.lit (.bool false)], args := [d1, d2] }
  | _ => none }
def MsgsKindsWrongFalsely : Prop := msgsKindsRow.holds Tryd.pinned (OpenSpec.ofChange msgsKindsWrong)

/-- 'icehouselaw12.MsgsHeads': WHATEVER THE INPUT: true; the input reads as it did. -/
def msgsHeadsSpec : ChangeSpec := { name := "msgsHeads", fn := fun _ => fun
  | [d1, d2] => { results := [.lit (.bool true)], args := [d1, d2] }
  | _ => none }
def msgsHeadsRow : OpenClaim := { program := "ythaoiamgkpkcbaadoor", sum := "3c9a5f4c8f7a8cd47f6daa28db3c2311eea5c1af1fea392ad0382d2003e1a7e5", func := "icehouse/icehouselaw12.MsgsHeads", spec := "msgsHeads", unfollowed := true, recurses := true, named := ["icehouse/msgs.kinds"], apart := false, laid := [("icehouse/msgs.kinds", laid_icehouse_msgs_kinds)] }
def MsgsHeadsSaid : Prop := msgsHeadsRow.holds Tryd.pinned (OpenSpec.ofChange msgsHeadsSpec)

/-- ITS FALSE NEIGHBOUR: 'it returns false'. Refute it at one input. -/
def msgsHeadsWrong : ChangeSpec := { name := "msgsHeads", fn := fun _ => fun
  | [d1, d2] => { results := [.lit (.bool false)], args := [d1, d2] }
  | _ => none }
def MsgsHeadsWrongFalsely : Prop := msgsHeadsRow.holds Tryd.pinned (OpenSpec.ofChange msgsHeadsWrong)

/-- 'icehouselaw12.MsgsTwice': WHATEVER THE INPUT: true; the input reads as it did. -/
def msgsTwiceSpec : ChangeSpec := { name := "msgsTwice", fn := fun _ => fun
  | [d1, d2, d3] => { results := [.lit (.bool true)], args := [d1, d2, d3] }
  | _ => none }
def msgsTwiceRow : OpenClaim := { program := "ythaoiamgkpkcbaadoor", sum := "3c9a5f4c8f7a8cd47f6daa28db3c2311eea5c1af1fea392ad0382d2003e1a7e5", func := "icehouse/icehouselaw12.MsgsTwice", spec := "msgsTwice", unfollowed := true, recurses := true, named := ["icehouse/msgs.kinds"], apart := false, laid := [("icehouse/msgs.kinds", laid_icehouse_msgs_kinds)] }
def MsgsTwiceSaid : Prop := msgsTwiceRow.holds Tryd.pinned (OpenSpec.ofChange msgsTwiceSpec)

/-- ITS FALSE NEIGHBOUR: 'it returns false'. Refute it at one input. -/
def msgsTwiceWrong : ChangeSpec := { name := "msgsTwice", fn := fun _ => fun
  | [d1, d2, d3] => { results := [.lit (.bool false)], args := [d1, d2, d3] }
  | _ => none }
def MsgsTwiceWrongFalsely : Prop := msgsTwiceRow.holds Tryd.pinned (OpenSpec.ofChange msgsTwiceWrong)

/-- 'icehouselaw12.MsgsSame': WHATEVER THE INPUT: true; the input reads as it did. -/
def msgsSameSpec : ChangeSpec := { name := "msgsSame", fn := fun _ => fun
  | [d1, d2, d3] => { results := [.lit (.bool true)], args := [d1, d2, d3] }
  | _ => none }
def msgsSameRow : OpenClaim := { program := "ythaoiamgkpkcbaadoor", sum := "3c9a5f4c8f7a8cd47f6daa28db3c2311eea5c1af1fea392ad0382d2003e1a7e5", func := "icehouse/icehouselaw12.MsgsSame", spec := "msgsSame", unfollowed := true, recurses := true, named := ["icehouse/msgs.kinds"], apart := false, laid := [("icehouse/msgs.kinds", laid_icehouse_msgs_kinds)] }
def MsgsSameSaid : Prop := msgsSameRow.holds Tryd.pinned (OpenSpec.ofChange msgsSameSpec)

/-- ITS FALSE NEIGHBOUR: 'it returns false'. Refute it at one input. -/
def msgsSameWrong : ChangeSpec := { name := "msgsSame", fn := fun _ => fun
  | [d1, d2, d3] => { results := [.lit (.bool false)], args := [d1, d2, d3] }
  | _ => none }
def MsgsSameWrongFalsely : Prop := msgsSameRow.holds Tryd.pinned (OpenSpec.ofChange msgsSameWrong)

/- THE SECOND FORM. 'bulk': how many values and letters a reading holds, each counted each time it is reached (what is shared counts as often as it is met; a slice's spare places count too). A statement '..UptoSaid' is the law's where the arguments, and the package variables that the reading takes, are together of bulk at most 1048576: NARROWER than '..Said'. Prove '..Said' where nothing that the law and all that it calls make is longer than what came in: it says more and counts as full. Else prove '..UptoSaid'. A law counts once. -/
mutual
def uptoBulk {H : Type} : DataW H → Nat
  | .lit (.string bytes) => bytes.length + 1
  | .lit _ => 1
  | .nil => 1
  | .ptr d => uptoBulk d + 1
  | .slice elems spare => uptoBulkAll elems + uptoBulkAll spare + 1
  | .agg parts => uptoBulkAll parts + 1
  | .iface _ d => uptoBulk d + 1
  | .map entries => uptoBulkEntries entries + 1
  | .held _ => 1
def uptoBulkAll {H : Type} : List (DataW H) → Nat
  | [] => 0
  | d :: r => uptoBulk d + uptoBulkAll r
def uptoBulkEntries {H : Type} : List (Lit × DataW H) → Nat
  | [] => 0
  | x :: r => uptoBulkEntry x + uptoBulkEntries r
def uptoBulkEntry {H : Type} : Lit × DataW H → Nat
  | (.string bytes, d) => bytes.length + uptoBulk d + 1
  | (_, d) => uptoBulk d + 1
 end
def uptoSmall : (H : Type) → List (DataW H) → Bool := fun _ ds => decide (uptoBulkAll ds ≤ 1048576)
def OpenSpec.upto (s : _root_.Go.ChangeSpec) : _root_.Go.OpenSpec := { _root_.Go.OpenSpec.ofChange s with cond := some uptoSmall }

/-- 'icehouselaw12.MsgsWrites', WHERE WHAT IT READS IS OF BULK AT MOST 1048576: true; the input reads as it did. -/
def msgsWritesUptoRow : OpenClaim := { program := "ythaoiamgkpkcbaadoor", sum := "3c9a5f4c8f7a8cd47f6daa28db3c2311eea5c1af1fea392ad0382d2003e1a7e5", func := "icehouse/icehouselaw12.MsgsWrites", spec := "msgsWrites", unfollowed := true, recurses := true, named := ["icehouse/msgs.kinds"], apart := false, laid := [("icehouse/msgs.kinds", laid_icehouse_msgs_kinds)], narrowed := true }
def MsgsWritesUptoSaid : Prop := msgsWritesUptoRow.holds Tryd.pinned (OpenSpec.upto msgsWritesSpec)

/-- 'icehouselaw12.MsgsReads', WHERE WHAT IT READS IS OF BULK AT MOST 1048576: true; the input reads as it did. -/
def msgsReadsUptoRow : OpenClaim := { program := "ythaoiamgkpkcbaadoor", sum := "3c9a5f4c8f7a8cd47f6daa28db3c2311eea5c1af1fea392ad0382d2003e1a7e5", func := "icehouse/icehouselaw12.MsgsReads", spec := "msgsReads", unfollowed := true, recurses := true, named := ["icehouse/msgs.kinds"], apart := false, laid := [("icehouse/msgs.kinds", laid_icehouse_msgs_kinds)], narrowed := true }
def MsgsReadsUptoSaid : Prop := msgsReadsUptoRow.holds Tryd.pinned (OpenSpec.upto msgsReadsSpec)

/-- 'icehouselaw12.MsgsBack', WHERE WHAT IT READS IS OF BULK AT MOST 1048576: true; the input reads as it did. -/
def msgsBackUptoRow : OpenClaim := { program := "ythaoiamgkpkcbaadoor", sum := "3c9a5f4c8f7a8cd47f6daa28db3c2311eea5c1af1fea392ad0382d2003e1a7e5", func := "icehouse/icehouselaw12.MsgsBack", spec := "msgsBack", unfollowed := true, recurses := true, named := ["icehouse/msgs.kinds"], apart := false, laid := [("icehouse/msgs.kinds", laid_icehouse_msgs_kinds)], narrowed := true }
def MsgsBackUptoSaid : Prop := msgsBackUptoRow.holds Tryd.pinned (OpenSpec.upto msgsBackSpec)

/-- 'icehouselaw12.MsgsKinds', WHERE WHAT IT READS IS OF BULK AT MOST 1048576: true; the input reads as it did. -/
def msgsKindsUptoRow : OpenClaim := { program := "ythaoiamgkpkcbaadoor", sum := "3c9a5f4c8f7a8cd47f6daa28db3c2311eea5c1af1fea392ad0382d2003e1a7e5", func := "icehouse/icehouselaw12.MsgsKinds", spec := "msgsKinds", unfollowed := true, recurses := true, named := ["icehouse/msgs.kinds"], apart := false, laid := [("icehouse/msgs.kinds", laid_icehouse_msgs_kinds)], narrowed := true }
def MsgsKindsUptoSaid : Prop := msgsKindsUptoRow.holds Tryd.pinned (OpenSpec.upto msgsKindsSpec)

/-- 'icehouselaw12.MsgsHeads', WHERE WHAT IT READS IS OF BULK AT MOST 1048576: true; the input reads as it did. -/
def msgsHeadsUptoRow : OpenClaim := { program := "ythaoiamgkpkcbaadoor", sum := "3c9a5f4c8f7a8cd47f6daa28db3c2311eea5c1af1fea392ad0382d2003e1a7e5", func := "icehouse/icehouselaw12.MsgsHeads", spec := "msgsHeads", unfollowed := true, recurses := true, named := ["icehouse/msgs.kinds"], apart := false, laid := [("icehouse/msgs.kinds", laid_icehouse_msgs_kinds)], narrowed := true }
def MsgsHeadsUptoSaid : Prop := msgsHeadsUptoRow.holds Tryd.pinned (OpenSpec.upto msgsHeadsSpec)

/-- 'icehouselaw12.MsgsTwice', WHERE WHAT IT READS IS OF BULK AT MOST 1048576: true; the input reads as it did. -/
def msgsTwiceUptoRow : OpenClaim := { program := "ythaoiamgkpkcbaadoor", sum := "3c9a5f4c8f7a8cd47f6daa28db3c2311eea5c1af1fea392ad0382d2003e1a7e5", func := "icehouse/icehouselaw12.MsgsTwice", spec := "msgsTwice", unfollowed := true, recurses := true, named := ["icehouse/msgs.kinds"], apart := false, laid := [("icehouse/msgs.kinds", laid_icehouse_msgs_kinds)], narrowed := true }
def MsgsTwiceUptoSaid : Prop := msgsTwiceUptoRow.holds Tryd.pinned (OpenSpec.upto msgsTwiceSpec)

/-- 'icehouselaw12.MsgsSame', WHERE WHAT IT READS IS OF BULK AT MOST 1048576: true; the input reads as it did. -/
def msgsSameUptoRow : OpenClaim := { program := "ythaoiamgkpkcbaadoor", sum := "3c9a5f4c8f7a8cd47f6daa28db3c2311eea5c1af1fea392ad0382d2003e1a7e5", func := "icehouse/icehouselaw12.MsgsSame", spec := "msgsSame", unfollowed := true, recurses := true, named := ["icehouse/msgs.kinds"], apart := false, laid := [("icehouse/msgs.kinds", laid_icehouse_msgs_kinds)], narrowed := true }
def MsgsSameUptoSaid : Prop := msgsSameUptoRow.holds Tryd.pinned (OpenSpec.upto msgsSameSpec)

end Rows
end Go.Proofs.YthaoiamgkpkcbaaDoor
