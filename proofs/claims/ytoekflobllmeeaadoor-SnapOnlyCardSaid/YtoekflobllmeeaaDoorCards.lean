/-
  DERIVED. GIVEN WITH THE SEED: THE CARDS: each row of YtoekflobllmeeaaDoorRows.lean that lists a variable, with what it lists TIED to the program's text (the seventh form; the later family's looks); each row that meets fmt, with fmt's text TOLD by the authors' own Lean function (tested against real Go, not proved from fmt's source: count such statements apart). THE CARD IS WHAT COUNTS. Prove the row's statement (the work); the ties are given (YtoekflobllmeeaaDoorTie.lean); close each card by the builder's one call (the guide's Derived/Test/ToyasCard.lean, 'card_holds'). Laid BY PROGRAM, IN A SANDBOX (cutbox-door.mjs). By AI agents, Wed Nov 11 2026. No macro, syntax, notation, axiom, sorry.
-/
import Derived.Test.YtoekflobllmeeaaDoorRows
import GoSem.ClaimSeven
namespace Go.Proofs.YtoekflobllmeeaaDoor
namespace Rows

/-- THE TIED CARD OF 'watchtowerlaw20.SnapOnly'. -/
def snapOnlyCard : Claim7 := { stood := { row := snapOnlyRow, standIns := [], harness := (true, "a5ae097340a22f034fc47a2d6c1ca726bfd47be38147e244c794331b40b379e7"), looks := false }, kinds := [], alts := [], laidByText := true, laidKinds := [.data, .data, .data], laidTests := true, laidLooks := .later }
def SnapOnlyCardSaid : Prop := Claim7.holds Tryd.pinned (.plain (OpenSpec.ofChange snapOnlySpec)) snapOnlyCard

/-- THE SECOND FORM's CARD OF 'watchtowerlaw20.SnapOnly'. -/
def snapOnlyUptoCard : Claim7 := { stood := { row := snapOnlyUptoRow, standIns := [], harness := (true, "a5ae097340a22f034fc47a2d6c1ca726bfd47be38147e244c794331b40b379e7"), looks := false }, kinds := [], alts := [], laidByText := true, laidKinds := [.data, .data, .data], laidTests := true, laidLooks := .later }
def SnapOnlyUptoCardSaid : Prop := Claim7.holds Tryd.pinned (.plain (OpenSpec.upto snapOnlySpec)) snapOnlyUptoCard
end Rows
end Go.Proofs.YtoekflobllmeeaaDoor
