/-
  DERIVED. GIVEN WITH THE SEED: THE CARDS: each row of YthgenmkengbmmaaGreatDoorRows.lean that lists a variable, with what it lists TIED to the program's text (the seventh form; the later family's looks); each row that meets fmt, with fmt's text TOLD by the authors' own Lean function (tested against real Go, not proved from fmt's source: count such statements apart). THE CARD IS WHAT COUNTS. Prove the row's statement (the work); the ties are given (YthgenmkengbmmaaGreatDoorTie.lean); close each card by the builder's one call (the guide's Derived/Test/ToyasCard.lean, 'card_holds'). Laid BY PROGRAM, IN A SANDBOX (cutbox-door.mjs). By AI agents, Wed Nov 11 2026. No macro, syntax, notation, axiom, sorry.
-/
import Derived.Test.YthgenmkengbmmaaGreatDoorRows
import GoSem.ClaimSeven
namespace Go.Proofs.YthgenmkengbmmaaGreatDoor
namespace Rows

/-- THE TIED CARD OF 'watchtowerlaw11.FileBack'. -/
def fileBackCard : Claim7 := { stood := { row := fileBackRow, standIns := [], harness := (true, "13a4eafcb9b74cb7c03109a7fd7efebd02eced52cb2e2b7707f08c7d3c26f4ac"), looks := true }, kinds := [], alts := [], laidByText := true, laidKinds := [.data, .data, .data, .data, .data, .data, .pinned], laidTests := true, laidLooks := .later }
def FileBackCardSaid : Prop := Claim7.holds Tryz.pinned (.plain (OpenSpec.ofChange fileBackSpec)) fileBackCard

/-- THE TIED CARD OF 'watchtowerlaw11.FileOnce'. -/
def fileOnceCard : Claim7 := { stood := { row := fileOnceRow, standIns := [], harness := (true, "13a4eafcb9b74cb7c03109a7fd7efebd02eced52cb2e2b7707f08c7d3c26f4ac"), looks := true }, kinds := [], alts := [], laidByText := true, laidKinds := [.data, .data, .data, .data, .data, .data, .pinned], laidTests := true, laidLooks := .later }
def FileOnceCardSaid : Prop := Claim7.holds Tryz.pinned (.plain (OpenSpec.ofChange fileOnceSpec)) fileOnceCard

/-- THE TIED CARD OF 'watchtowerlaw11.FileJoin'. -/
def fileJoinCard : Claim7 := { stood := { row := fileJoinRow, standIns := [], harness := (true, "13a4eafcb9b74cb7c03109a7fd7efebd02eced52cb2e2b7707f08c7d3c26f4ac"), looks := true }, kinds := [], alts := [], laidByText := true, laidKinds := [.data, .data, .data, .data, .data, .data, .pinned], laidTests := true, laidLooks := .later }
def FileJoinCardSaid : Prop := Claim7.holds Tryz.pinned (.plain (OpenSpec.ofChange fileJoinSpec)) fileJoinCard

/-- THE TIED CARD OF 'watchtowerlaw11.FileRules'. -/
def fileRulesCard : Claim7 := { stood := { row := fileRulesRow, standIns := [], harness := (true, "13a4eafcb9b74cb7c03109a7fd7efebd02eced52cb2e2b7707f08c7d3c26f4ac"), looks := true }, kinds := [], alts := [], laidByText := true, laidKinds := [.data, .data, .data, .data, .data, .data, .pinned], laidTests := true, laidLooks := .later }
def FileRulesCardSaid : Prop := Claim7.holds Tryz.pinned (.plain (OpenSpec.ofChange fileRulesSpec)) fileRulesCard

/-- THE TIED CARD OF 'watchtowerlaw11.FileApart'. -/
def fileApartCard : Claim7 := { stood := { row := fileApartRow, standIns := [], harness := (true, "13a4eafcb9b74cb7c03109a7fd7efebd02eced52cb2e2b7707f08c7d3c26f4ac"), looks := true }, kinds := [], alts := [], laidByText := true, laidKinds := [.data, .data, .data, .data, .data, .data, .pinned], laidTests := true, laidLooks := .later }
def FileApartCardSaid : Prop := Claim7.holds Tryz.pinned (.plain (OpenSpec.ofChange fileApartSpec)) fileApartCard

/-- THE TIED CARD OF 'watchtowerlaw12.CheckIs'. -/
def checkIsCard : Claim7 := { stood := { row := checkIsRow, standIns := [], harness := (true, "13a4eafcb9b74cb7c03109a7fd7efebd02eced52cb2e2b7707f08c7d3c26f4ac"), looks := true }, kinds := [], alts := [], laidByText := true, laidKinds := [.data, .data, .data, .data, .data, .data, .pinned], laidTests := true, laidLooks := .later }
def CheckIsCardSaid : Prop := Claim7.holds Tryz.pinned (.plain (OpenSpec.ofChange checkIsSpec)) checkIsCard

/-- THE TIED CARD OF 'watchtowerlaw12.CheckSame'. -/
def checkSameCard : Claim7 := { stood := { row := checkSameRow, standIns := [], harness := (true, "13a4eafcb9b74cb7c03109a7fd7efebd02eced52cb2e2b7707f08c7d3c26f4ac"), looks := true }, kinds := [], alts := [], laidByText := true, laidKinds := [.data, .data, .data, .data, .data, .data, .pinned], laidTests := true, laidLooks := .later }
def CheckSameCardSaid : Prop := Claim7.holds Tryz.pinned (.plain (OpenSpec.ofChange checkSameSpec)) checkSameCard

/-- THE TIED CARD OF 'watchtowerlaw12.CheckTurn'. -/
def checkTurnCard : Claim7 := { stood := { row := checkTurnRow, standIns := [], harness := (true, "13a4eafcb9b74cb7c03109a7fd7efebd02eced52cb2e2b7707f08c7d3c26f4ac"), looks := true }, kinds := [], alts := [], laidByText := true, laidKinds := [.data, .data, .data, .data, .data, .data, .pinned], laidTests := true, laidLooks := .later }
def CheckTurnCardSaid : Prop := Claim7.holds Tryz.pinned (.plain (OpenSpec.ofChange checkTurnSpec)) checkTurnCard

/-- THE TIED CARD OF 'watchtowerlaw12.CheckNames'. -/
def checkNamesCard : Claim7 := { stood := { row := checkNamesRow, standIns := [], harness := (true, "13a4eafcb9b74cb7c03109a7fd7efebd02eced52cb2e2b7707f08c7d3c26f4ac"), looks := true }, kinds := [], alts := [], laidByText := true, laidKinds := [.data, .data, .data, .data, .data, .data, .pinned], laidTests := true, laidLooks := .later }
def CheckNamesCardSaid : Prop := Claim7.holds Tryz.pinned (.plain (OpenSpec.ofChange checkNamesSpec)) checkNamesCard

/-- THE TIED CARD OF 'watchtowerlaw12.CheckThree'. -/
def checkThreeCard : Claim7 := { stood := { row := checkThreeRow, standIns := [], harness := (true, "13a4eafcb9b74cb7c03109a7fd7efebd02eced52cb2e2b7707f08c7d3c26f4ac"), looks := true }, kinds := [], alts := [], laidByText := true, laidKinds := [.data, .data, .data, .data, .data, .data, .pinned], laidTests := true, laidLooks := .later }
def CheckThreeCardSaid : Prop := Claim7.holds Tryz.pinned (.plain (OpenSpec.ofChange checkThreeSpec)) checkThreeCard

/-- THE SECOND FORM's CARD OF 'watchtowerlaw11.FileBack'. -/
def fileBackUptoCard : Claim7 := { stood := { row := fileBackUptoRow, standIns := [], harness := (true, "13a4eafcb9b74cb7c03109a7fd7efebd02eced52cb2e2b7707f08c7d3c26f4ac"), looks := true }, kinds := [], alts := [], laidByText := true, laidKinds := [.data, .data, .data, .data, .data, .data, .pinned], laidTests := true, laidLooks := .later }
def FileBackUptoCardSaid : Prop := Claim7.holds Tryz.pinned (.plain (OpenSpec.upto fileBackSpec)) fileBackUptoCard

/-- THE SECOND FORM's CARD OF 'watchtowerlaw11.FileOnce'. -/
def fileOnceUptoCard : Claim7 := { stood := { row := fileOnceUptoRow, standIns := [], harness := (true, "13a4eafcb9b74cb7c03109a7fd7efebd02eced52cb2e2b7707f08c7d3c26f4ac"), looks := true }, kinds := [], alts := [], laidByText := true, laidKinds := [.data, .data, .data, .data, .data, .data, .pinned], laidTests := true, laidLooks := .later }
def FileOnceUptoCardSaid : Prop := Claim7.holds Tryz.pinned (.plain (OpenSpec.upto fileOnceSpec)) fileOnceUptoCard

/-- THE SECOND FORM's CARD OF 'watchtowerlaw11.FileJoin'. -/
def fileJoinUptoCard : Claim7 := { stood := { row := fileJoinUptoRow, standIns := [], harness := (true, "13a4eafcb9b74cb7c03109a7fd7efebd02eced52cb2e2b7707f08c7d3c26f4ac"), looks := true }, kinds := [], alts := [], laidByText := true, laidKinds := [.data, .data, .data, .data, .data, .data, .pinned], laidTests := true, laidLooks := .later }
def FileJoinUptoCardSaid : Prop := Claim7.holds Tryz.pinned (.plain (OpenSpec.upto fileJoinSpec)) fileJoinUptoCard

/-- THE SECOND FORM's CARD OF 'watchtowerlaw11.FileRules'. -/
def fileRulesUptoCard : Claim7 := { stood := { row := fileRulesUptoRow, standIns := [], harness := (true, "13a4eafcb9b74cb7c03109a7fd7efebd02eced52cb2e2b7707f08c7d3c26f4ac"), looks := true }, kinds := [], alts := [], laidByText := true, laidKinds := [.data, .data, .data, .data, .data, .data, .pinned], laidTests := true, laidLooks := .later }
def FileRulesUptoCardSaid : Prop := Claim7.holds Tryz.pinned (.plain (OpenSpec.upto fileRulesSpec)) fileRulesUptoCard

/-- THE SECOND FORM's CARD OF 'watchtowerlaw11.FileApart'. -/
def fileApartUptoCard : Claim7 := { stood := { row := fileApartUptoRow, standIns := [], harness := (true, "13a4eafcb9b74cb7c03109a7fd7efebd02eced52cb2e2b7707f08c7d3c26f4ac"), looks := true }, kinds := [], alts := [], laidByText := true, laidKinds := [.data, .data, .data, .data, .data, .data, .pinned], laidTests := true, laidLooks := .later }
def FileApartUptoCardSaid : Prop := Claim7.holds Tryz.pinned (.plain (OpenSpec.upto fileApartSpec)) fileApartUptoCard

/-- THE SECOND FORM's CARD OF 'watchtowerlaw12.CheckIs'. -/
def checkIsUptoCard : Claim7 := { stood := { row := checkIsUptoRow, standIns := [], harness := (true, "13a4eafcb9b74cb7c03109a7fd7efebd02eced52cb2e2b7707f08c7d3c26f4ac"), looks := true }, kinds := [], alts := [], laidByText := true, laidKinds := [.data, .data, .data, .data, .data, .data, .pinned], laidTests := true, laidLooks := .later }
def CheckIsUptoCardSaid : Prop := Claim7.holds Tryz.pinned (.plain (OpenSpec.upto checkIsSpec)) checkIsUptoCard

/-- THE SECOND FORM's CARD OF 'watchtowerlaw12.CheckSame'. -/
def checkSameUptoCard : Claim7 := { stood := { row := checkSameUptoRow, standIns := [], harness := (true, "13a4eafcb9b74cb7c03109a7fd7efebd02eced52cb2e2b7707f08c7d3c26f4ac"), looks := true }, kinds := [], alts := [], laidByText := true, laidKinds := [.data, .data, .data, .data, .data, .data, .pinned], laidTests := true, laidLooks := .later }
def CheckSameUptoCardSaid : Prop := Claim7.holds Tryz.pinned (.plain (OpenSpec.upto checkSameSpec)) checkSameUptoCard

/-- THE SECOND FORM's CARD OF 'watchtowerlaw12.CheckTurn'. -/
def checkTurnUptoCard : Claim7 := { stood := { row := checkTurnUptoRow, standIns := [], harness := (true, "13a4eafcb9b74cb7c03109a7fd7efebd02eced52cb2e2b7707f08c7d3c26f4ac"), looks := true }, kinds := [], alts := [], laidByText := true, laidKinds := [.data, .data, .data, .data, .data, .data, .pinned], laidTests := true, laidLooks := .later }
def CheckTurnUptoCardSaid : Prop := Claim7.holds Tryz.pinned (.plain (OpenSpec.upto checkTurnSpec)) checkTurnUptoCard

/-- THE SECOND FORM's CARD OF 'watchtowerlaw12.CheckNames'. -/
def checkNamesUptoCard : Claim7 := { stood := { row := checkNamesUptoRow, standIns := [], harness := (true, "13a4eafcb9b74cb7c03109a7fd7efebd02eced52cb2e2b7707f08c7d3c26f4ac"), looks := true }, kinds := [], alts := [], laidByText := true, laidKinds := [.data, .data, .data, .data, .data, .data, .pinned], laidTests := true, laidLooks := .later }
def CheckNamesUptoCardSaid : Prop := Claim7.holds Tryz.pinned (.plain (OpenSpec.upto checkNamesSpec)) checkNamesUptoCard

/-- THE SECOND FORM's CARD OF 'watchtowerlaw12.CheckThree'. -/
def checkThreeUptoCard : Claim7 := { stood := { row := checkThreeUptoRow, standIns := [], harness := (true, "13a4eafcb9b74cb7c03109a7fd7efebd02eced52cb2e2b7707f08c7d3c26f4ac"), looks := true }, kinds := [], alts := [], laidByText := true, laidKinds := [.data, .data, .data, .data, .data, .data, .pinned], laidTests := true, laidLooks := .later }
def CheckThreeUptoCardSaid : Prop := Claim7.holds Tryz.pinned (.plain (OpenSpec.upto checkThreeSpec)) checkThreeUptoCard
end Rows
end Go.Proofs.YthgenmkengbmmaaGreatDoor
