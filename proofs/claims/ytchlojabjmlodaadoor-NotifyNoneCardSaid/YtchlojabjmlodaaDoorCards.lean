/-
  DERIVED. GIVEN WITH THE SEED: THE CARDS: each row of YtchlojabjmlodaaDoorRows.lean that lists a variable, with what it lists TIED to the program's text (the seventh form; the later family's looks); each row that meets fmt, with fmt's text TOLD by the authors' own Lean function (tested against real Go, not proved from fmt's source: count such statements apart). THE CARD IS WHAT COUNTS. Prove the row's statement (the work); the ties are given (YtchlojabjmlodaaDoorTie.lean); close each card by the builder's one call (the guide's Derived/Test/ToyasCard.lean, 'card_holds'). Laid BY PROGRAM, IN A SANDBOX (cutbox-door.mjs). By AI agents, Wed Nov 11 2026. No macro, syntax, notation, axiom, sorry.
-/
import Derived.Test.YtchlojabjmlodaaDoorRows
import GoSem.ClaimSeven
namespace Go.Proofs.YtchlojabjmlodaaDoor
namespace Rows

/-- THE TIED CARD OF 'watchtowerlaw23.NotifyNone'. -/
def notifyNoneCard : Claim7 := { stood := { row := notifyNoneRow, standIns := [], harness := (true, "78ca118824efb6055bab80a76a94c8c87ccc0008de4a95c275f537db04efb584"), looks := false }, kinds := [], alts := [], laidByText := true, laidKinds := [.data, .data, .data], laidTests := true, laidLooks := .later }
def NotifyNoneCardSaid : Prop := Claim7.holds Tryd.pinned (.plain (OpenSpec.ofChange notifyNoneSpec)) notifyNoneCard

/-- THE SECOND FORM's CARD OF 'watchtowerlaw23.NotifyNone'. -/
def notifyNoneUptoCard : Claim7 := { stood := { row := notifyNoneUptoRow, standIns := [], harness := (true, "78ca118824efb6055bab80a76a94c8c87ccc0008de4a95c275f537db04efb584"), looks := false }, kinds := [], alts := [], laidByText := true, laidKinds := [.data, .data, .data], laidTests := true, laidLooks := .later }
def NotifyNoneUptoCardSaid : Prop := Claim7.holds Tryd.pinned (.plain (OpenSpec.upto notifyNoneSpec)) notifyNoneUptoCard
end Rows
end Go.Proofs.YtchlojabjmlodaaDoor
