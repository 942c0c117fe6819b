/-
  DERIVED. GIVEN WITH THE SEED: THE CARDS: each row of YtchlojabjmlodaaGreatDoorRows.lean that lists a variable, with what it lists TIED to the program's text (the seventh form; the later family's looks); each row that meets fmt, with fmt's text TOLD by the authors' own Lean function (tested against real Go, not proved from fmt's source: count such statements apart). THE CARD IS WHAT COUNTS. Prove the row's statement (the work); the ties are given (YtchlojabjmlodaaGreatDoorTie.lean); close each card by the builder's one call (the guide's Derived/Test/ToyasCard.lean, 'card_holds'). Laid BY PROGRAM, IN A SANDBOX (cutbox-door.mjs). By AI agents, Wed Nov 11 2026. No macro, syntax, notation, axiom, sorry.
-/
import Derived.Test.YtchlojabjmlodaaGreatDoorRows
import GoSem.ClaimSeven
namespace Go.Proofs.YtchlojabjmlodaaGreatDoor
namespace Rows

/-- THE TIED CARD OF 'watchtowerlaw23.NotifyOnce'. -/
def notifyOnceCard : Claim7 := { stood := { row := notifyOnceRow, standIns := [], harness := (true, "a5ad1a5800460e7c3589f051d9bf6fb8cb149c30bb3bb454466f5842837f7f33"), looks := false }, kinds := [], alts := [], laidByText := true, laidKinds := [.data, .data, .data], laidTests := true, laidLooks := .later }
def NotifyOnceCardSaid : Prop := Claim7.holds Tryz.pinned (.plain (OpenSpec.ofChange notifyOnceSpec)) notifyOnceCard

/-- THE TIED CARD OF 'watchtowerlaw23.NotifyTells'. -/
def notifyTellsCard : Claim7 := { stood := { row := notifyTellsRow, standIns := [], harness := (true, "a5ad1a5800460e7c3589f051d9bf6fb8cb149c30bb3bb454466f5842837f7f33"), looks := false }, kinds := [], alts := [], laidByText := true, laidKinds := [.data, .data, .data], laidTests := true, laidLooks := .later }
def NotifyTellsCardSaid : Prop := Claim7.holds Tryz.pinned (.plain (OpenSpec.ofChange notifyTellsSpec)) notifyTellsCard

/-- THE TIED CARD OF 'watchtowerlaw23.NotifyOrder'. -/
def notifyOrderCard : Claim7 := { stood := { row := notifyOrderRow, standIns := [], harness := (true, "a5ad1a5800460e7c3589f051d9bf6fb8cb149c30bb3bb454466f5842837f7f33"), looks := false }, kinds := [], alts := [], laidByText := true, laidKinds := [.data, .data, .data], laidTests := true, laidLooks := .later }
def NotifyOrderCardSaid : Prop := Claim7.holds Tryz.pinned (.plain (OpenSpec.ofChange notifyOrderSpec)) notifyOrderCard

/-- THE SECOND FORM's CARD OF 'watchtowerlaw23.NotifyOnce'. -/
def notifyOnceUptoCard : Claim7 := { stood := { row := notifyOnceUptoRow, standIns := [], harness := (true, "a5ad1a5800460e7c3589f051d9bf6fb8cb149c30bb3bb454466f5842837f7f33"), looks := false }, kinds := [], alts := [], laidByText := true, laidKinds := [.data, .data, .data], laidTests := true, laidLooks := .later }
def NotifyOnceUptoCardSaid : Prop := Claim7.holds Tryz.pinned (.plain (OpenSpec.upto notifyOnceSpec)) notifyOnceUptoCard

/-- THE SECOND FORM's CARD OF 'watchtowerlaw23.NotifyTells'. -/
def notifyTellsUptoCard : Claim7 := { stood := { row := notifyTellsUptoRow, standIns := [], harness := (true, "a5ad1a5800460e7c3589f051d9bf6fb8cb149c30bb3bb454466f5842837f7f33"), looks := false }, kinds := [], alts := [], laidByText := true, laidKinds := [.data, .data, .data], laidTests := true, laidLooks := .later }
def NotifyTellsUptoCardSaid : Prop := Claim7.holds Tryz.pinned (.plain (OpenSpec.upto notifyTellsSpec)) notifyTellsUptoCard

/-- THE SECOND FORM's CARD OF 'watchtowerlaw23.NotifyOrder'. -/
def notifyOrderUptoCard : Claim7 := { stood := { row := notifyOrderUptoRow, standIns := [], harness := (true, "a5ad1a5800460e7c3589f051d9bf6fb8cb149c30bb3bb454466f5842837f7f33"), looks := false }, kinds := [], alts := [], laidByText := true, laidKinds := [.data, .data, .data], laidTests := true, laidLooks := .later }
def NotifyOrderUptoCardSaid : Prop := Claim7.holds Tryz.pinned (.plain (OpenSpec.upto notifyOrderSpec)) notifyOrderUptoCard
end Rows
end Go.Proofs.YtchlojabjmlodaaGreatDoor
