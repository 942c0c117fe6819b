/-
  DERIVED. GIVEN WITH THE SEED: THE CARDS: each row of YtnlbgjlbbdngaaaDoorRows.lean that lists a variable, with what it lists TIED to the program's text (the seventh form; the later family's looks); each row that meets fmt, with fmt's text TOLD by the authors' own Lean function (tested against real Go, not proved from fmt's source: count such statements apart). THE CARD IS WHAT COUNTS. Prove the row's statement (the work); the ties are given (YtnlbgjlbbdngaaaDoorTie.lean); close each card by the builder's one call (the guide's Derived/Test/ToyasCard.lean, 'card_holds'). Laid BY PROGRAM, IN A SANDBOX (cutbox-door.mjs). By AI agents, Wed Nov 11 2026. No macro, syntax, notation, axiom, sorry.
-/
import Derived.Test.YtnlbgjlbbdngaaaDoorRows
import GoSem.ClaimSeven
namespace Go.Proofs.YtnlbgjlbbdngaaaDoor
namespace Rows

/-- THE TIED CARD OF 'watchtowerlaw17.TableEach'. -/
def tableEachCard : Claim7 := { stood := { row := tableEachRow, standIns := [], harness := (true, "d063f83164695978833d29949be56a204859d578a9fa0097c8dfaf5ff0216d52"), looks := false }, kinds := [], alts := [], laidByText := true, laidKinds := [.data, .data, .data], laidTests := true, laidLooks := .later }
def TableEachCardSaid : Prop := Claim7.holds Tryd.pinned (.plain (OpenSpec.ofChange tableEachSpec)) tableEachCard

/-- THE TIED CARD OF 'watchtowerlaw17.TableKeeps'. -/
def tableKeepsCard : Claim7 := { stood := { row := tableKeepsRow, standIns := [], harness := (true, "d063f83164695978833d29949be56a204859d578a9fa0097c8dfaf5ff0216d52"), looks := false }, kinds := [], alts := [], laidByText := true, laidKinds := [.data, .data, .data], laidTests := true, laidLooks := .later }
def TableKeepsCardSaid : Prop := Claim7.holds Tryd.pinned (.plain (OpenSpec.ofChange tableKeepsSpec)) tableKeepsCard

/-- THE TIED CARD OF 'watchtowerlaw17.TableTurned'. -/
def tableTurnedCard : Claim7 := { stood := { row := tableTurnedRow, standIns := [], harness := (true, "d063f83164695978833d29949be56a204859d578a9fa0097c8dfaf5ff0216d52"), looks := false }, kinds := [], alts := [], laidByText := true, laidKinds := [.data, .data, .data], laidTests := true, laidLooks := .later }
def TableTurnedCardSaid : Prop := Claim7.holds Tryd.pinned (.plain (OpenSpec.ofChange tableTurnedSpec)) tableTurnedCard

/-- THE TIED CARD OF 'watchtowerlaw17.TableTwice'. -/
def tableTwiceCard : Claim7 := { stood := { row := tableTwiceRow, standIns := [], harness := (true, "d063f83164695978833d29949be56a204859d578a9fa0097c8dfaf5ff0216d52"), looks := false }, kinds := [], alts := [], laidByText := true, laidKinds := [.data, .data, .data], laidTests := true, laidLooks := .later }
def TableTwiceCardSaid : Prop := Claim7.holds Tryd.pinned (.plain (OpenSpec.ofChange tableTwiceSpec)) tableTwiceCard

/-- THE SECOND FORM's CARD OF 'watchtowerlaw17.TableEach'. -/
def tableEachUptoCard : Claim7 := { stood := { row := tableEachUptoRow, standIns := [], harness := (true, "d063f83164695978833d29949be56a204859d578a9fa0097c8dfaf5ff0216d52"), looks := false }, kinds := [], alts := [], laidByText := true, laidKinds := [.data, .data, .data], laidTests := true, laidLooks := .later }
def TableEachUptoCardSaid : Prop := Claim7.holds Tryd.pinned (.plain (OpenSpec.upto tableEachSpec)) tableEachUptoCard

/-- THE SECOND FORM's CARD OF 'watchtowerlaw17.TableKeeps'. -/
def tableKeepsUptoCard : Claim7 := { stood := { row := tableKeepsUptoRow, standIns := [], harness := (true, "d063f83164695978833d29949be56a204859d578a9fa0097c8dfaf5ff0216d52"), looks := false }, kinds := [], alts := [], laidByText := true, laidKinds := [.data, .data, .data], laidTests := true, laidLooks := .later }
def TableKeepsUptoCardSaid : Prop := Claim7.holds Tryd.pinned (.plain (OpenSpec.upto tableKeepsSpec)) tableKeepsUptoCard

/-- THE SECOND FORM's CARD OF 'watchtowerlaw17.TableTurned'. -/
def tableTurnedUptoCard : Claim7 := { stood := { row := tableTurnedUptoRow, standIns := [], harness := (true, "d063f83164695978833d29949be56a204859d578a9fa0097c8dfaf5ff0216d52"), looks := false }, kinds := [], alts := [], laidByText := true, laidKinds := [.data, .data, .data], laidTests := true, laidLooks := .later }
def TableTurnedUptoCardSaid : Prop := Claim7.holds Tryd.pinned (.plain (OpenSpec.upto tableTurnedSpec)) tableTurnedUptoCard

/-- THE SECOND FORM's CARD OF 'watchtowerlaw17.TableTwice'. -/
def tableTwiceUptoCard : Claim7 := { stood := { row := tableTwiceUptoRow, standIns := [], harness := (true, "d063f83164695978833d29949be56a204859d578a9fa0097c8dfaf5ff0216d52"), looks := false }, kinds := [], alts := [], laidByText := true, laidKinds := [.data, .data, .data], laidTests := true, laidLooks := .later }
def TableTwiceUptoCardSaid : Prop := Claim7.holds Tryd.pinned (.plain (OpenSpec.upto tableTwiceSpec)) tableTwiceUptoCard
end Rows
end Go.Proofs.YtnlbgjlbbdngaaaDoor
