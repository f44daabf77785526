/-
  DERIVED. GIVEN WITH THE SEED: THE CARDS: each row of YthaoiamgkpkcbaaDoorRows.lean that lists a variable, with what it lists TIED to the program's text (the seventh form; the later family's looks); each row that meets fmt, with fmt's text TOLD by the authors' own Lean function (tested against real Go, not proved from fmt's source: count such statements apart). THE CARD IS WHAT COUNTS. Prove the row's statement (the work); the ties are given (YthaoiamgkpkcbaaDoorTie.lean); close each card by the builder's one call (the guide's Derived/Test/ToyasCard.lean, 'card_holds'). Laid BY PROGRAM, IN A SANDBOX (cutbox-door.mjs). By AI agents, Wed Nov 11 2026. No macro, syntax, notation, axiom, sorry.
-/
import Derived.Test.YthaoiamgkpkcbaaDoorRows
import GoSem.ClaimSeven
namespace Go.Proofs.YthaoiamgkpkcbaaDoor
namespace Rows

/-- THE TIED CARD OF 'icehouselaw12.MsgsWrites'. -/
def msgsWritesCard : Claim7 := { stood := { row := msgsWritesRow, standIns := [], harness := (true, "2d6ae1731ce91e2eb794e220e0a15458808e8c869b97cc5e7bd78b853c790114"), looks := false }, kinds := [], alts := [], laidByText := true, laidKinds := [.data], laidTests := true, laidLooks := .later }
def MsgsWritesCardSaid : Prop := Claim7.holds Tryd.pinned (.plain (OpenSpec.ofChange msgsWritesSpec)) msgsWritesCard

/-- THE TIED CARD OF 'icehouselaw12.MsgsReads'. -/
def msgsReadsCard : Claim7 := { stood := { row := msgsReadsRow, standIns := [], harness := (true, "2d6ae1731ce91e2eb794e220e0a15458808e8c869b97cc5e7bd78b853c790114"), looks := false }, kinds := [], alts := [], laidByText := true, laidKinds := [.data], laidTests := true, laidLooks := .later }
def MsgsReadsCardSaid : Prop := Claim7.holds Tryd.pinned (.plain (OpenSpec.ofChange msgsReadsSpec)) msgsReadsCard

/-- THE TIED CARD OF 'icehouselaw12.MsgsBack'. -/
def msgsBackCard : Claim7 := { stood := { row := msgsBackRow, standIns := [], harness := (true, "2d6ae1731ce91e2eb794e220e0a15458808e8c869b97cc5e7bd78b853c790114"), looks := false }, kinds := [], alts := [], laidByText := true, laidKinds := [.data], laidTests := true, laidLooks := .later }
def MsgsBackCardSaid : Prop := Claim7.holds Tryd.pinned (.plain (OpenSpec.ofChange msgsBackSpec)) msgsBackCard

/-- THE TIED CARD OF 'icehouselaw12.MsgsKinds'. -/
def msgsKindsCard : Claim7 := { stood := { row := msgsKindsRow, standIns := [], harness := (true, "2d6ae1731ce91e2eb794e220e0a15458808e8c869b97cc5e7bd78b853c790114"), looks := false }, kinds := [], alts := [], laidByText := true, laidKinds := [.data], laidTests := true, laidLooks := .later }
def MsgsKindsCardSaid : Prop := Claim7.holds Tryd.pinned (.plain (OpenSpec.ofChange msgsKindsSpec)) msgsKindsCard

/-- THE TIED CARD OF 'icehouselaw12.MsgsHeads'. -/
def msgsHeadsCard : Claim7 := { stood := { row := msgsHeadsRow, standIns := [], harness := (true, "2d6ae1731ce91e2eb794e220e0a15458808e8c869b97cc5e7bd78b853c790114"), looks := false }, kinds := [], alts := [], laidByText := true, laidKinds := [.data], laidTests := true, laidLooks := .later }
def MsgsHeadsCardSaid : Prop := Claim7.holds Tryd.pinned (.plain (OpenSpec.ofChange msgsHeadsSpec)) msgsHeadsCard

/-- THE TIED CARD OF 'icehouselaw12.MsgsTwice'. -/
def msgsTwiceCard : Claim7 := { stood := { row := msgsTwiceRow, standIns := [], harness := (true, "2d6ae1731ce91e2eb794e220e0a15458808e8c869b97cc5e7bd78b853c790114"), looks := false }, kinds := [], alts := [], laidByText := true, laidKinds := [.data], laidTests := true, laidLooks := .later }
def MsgsTwiceCardSaid : Prop := Claim7.holds Tryd.pinned (.plain (OpenSpec.ofChange msgsTwiceSpec)) msgsTwiceCard

/-- THE TIED CARD OF 'icehouselaw12.MsgsSame'. -/
def msgsSameCard : Claim7 := { stood := { row := msgsSameRow, standIns := [], harness := (true, "2d6ae1731ce91e2eb794e220e0a15458808e8c869b97cc5e7bd78b853c790114"), looks := false }, kinds := [], alts := [], laidByText := true, laidKinds := [.data], laidTests := true, laidLooks := .later }
def MsgsSameCardSaid : Prop := Claim7.holds Tryd.pinned (.plain (OpenSpec.ofChange msgsSameSpec)) msgsSameCard

/-- THE SECOND FORM's CARD OF 'icehouselaw12.MsgsWrites'. -/
def msgsWritesUptoCard : Claim7 := { stood := { row := msgsWritesUptoRow, standIns := [], harness := (true, "2d6ae1731ce91e2eb794e220e0a15458808e8c869b97cc5e7bd78b853c790114"), looks := false }, kinds := [], alts := [], laidByText := true, laidKinds := [.data], laidTests := true, laidLooks := .later }
def MsgsWritesUptoCardSaid : Prop := Claim7.holds Tryd.pinned (.plain (OpenSpec.upto msgsWritesSpec)) msgsWritesUptoCard

/-- THE SECOND FORM's CARD OF 'icehouselaw12.MsgsReads'. -/
def msgsReadsUptoCard : Claim7 := { stood := { row := msgsReadsUptoRow, standIns := [], harness := (true, "2d6ae1731ce91e2eb794e220e0a15458808e8c869b97cc5e7bd78b853c790114"), looks := false }, kinds := [], alts := [], laidByText := true, laidKinds := [.data], laidTests := true, laidLooks := .later }
def MsgsReadsUptoCardSaid : Prop := Claim7.holds Tryd.pinned (.plain (OpenSpec.upto msgsReadsSpec)) msgsReadsUptoCard

/-- THE SECOND FORM's CARD OF 'icehouselaw12.MsgsBack'. -/
def msgsBackUptoCard : Claim7 := { stood := { row := msgsBackUptoRow, standIns := [], harness := (true, "2d6ae1731ce91e2eb794e220e0a15458808e8c869b97cc5e7bd78b853c790114"), looks := false }, kinds := [], alts := [], laidByText := true, laidKinds := [.data], laidTests := true, laidLooks := .later }
def MsgsBackUptoCardSaid : Prop := Claim7.holds Tryd.pinned (.plain (OpenSpec.upto msgsBackSpec)) msgsBackUptoCard

/-- THE SECOND FORM's CARD OF 'icehouselaw12.MsgsKinds'. -/
def msgsKindsUptoCard : Claim7 := { stood := { row := msgsKindsUptoRow, standIns := [], harness := (true, "2d6ae1731ce91e2eb794e220e0a15458808e8c869b97cc5e7bd78b853c790114"), looks := false }, kinds := [], alts := [], laidByText := true, laidKinds := [.data], laidTests := true, laidLooks := .later }
def MsgsKindsUptoCardSaid : Prop := Claim7.holds Tryd.pinned (.plain (OpenSpec.upto msgsKindsSpec)) msgsKindsUptoCard

/-- THE SECOND FORM's CARD OF 'icehouselaw12.MsgsHeads'. -/
def msgsHeadsUptoCard : Claim7 := { stood := { row := msgsHeadsUptoRow, standIns := [], harness := (true, "2d6ae1731ce91e2eb794e220e0a15458808e8c869b97cc5e7bd78b853c790114"), looks := false }, kinds := [], alts := [], laidByText := true, laidKinds := [.data], laidTests := true, laidLooks := .later }
def MsgsHeadsUptoCardSaid : Prop := Claim7.holds Tryd.pinned (.plain (OpenSpec.upto msgsHeadsSpec)) msgsHeadsUptoCard

/-- THE SECOND FORM's CARD OF 'icehouselaw12.MsgsTwice'. -/
def msgsTwiceUptoCard : Claim7 := { stood := { row := msgsTwiceUptoRow, standIns := [], harness := (true, "2d6ae1731ce91e2eb794e220e0a15458808e8c869b97cc5e7bd78b853c790114"), looks := false }, kinds := [], alts := [], laidByText := true, laidKinds := [.data], laidTests := true, laidLooks := .later }
def MsgsTwiceUptoCardSaid : Prop := Claim7.holds Tryd.pinned (.plain (OpenSpec.upto msgsTwiceSpec)) msgsTwiceUptoCard

/-- THE SECOND FORM's CARD OF 'icehouselaw12.MsgsSame'. -/
def msgsSameUptoCard : Claim7 := { stood := { row := msgsSameUptoRow, standIns := [], harness := (true, "2d6ae1731ce91e2eb794e220e0a15458808e8c869b97cc5e7bd78b853c790114"), looks := false }, kinds := [], alts := [], laidByText := true, laidKinds := [.data], laidTests := true, laidLooks := .later }
def MsgsSameUptoCardSaid : Prop := Claim7.holds Tryd.pinned (.plain (OpenSpec.upto msgsSameSpec)) msgsSameUptoCard
end Rows
end Go.Proofs.YthaoiamgkpkcbaaDoor
