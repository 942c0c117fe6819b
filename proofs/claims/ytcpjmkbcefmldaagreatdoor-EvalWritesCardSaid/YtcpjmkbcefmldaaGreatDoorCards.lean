/-
  DERIVED. GIVEN WITH THE SEED: THE CARDS: each row of YtcpjmkbcefmldaaGreatDoorRows.lean that lists a variable, with what it lists TIED to the program's text (the seventh form; the later family's looks); each row that meets fmt, with fmt's text TOLD by the authors' own Lean function (tested against real Go, not proved from fmt's source: count such statements apart). THE CARD IS WHAT COUNTS. Prove the row's statement (the work); the ties are given (YtcpjmkbcefmldaaGreatDoorTie.lean); close each card by the builder's one call (the guide's Derived/Test/ToyasCard.lean, 'card_holds'). Laid BY PROGRAM, IN A SANDBOX (cutbox-door.mjs). By AI agents, Wed Nov 11 2026. No macro, syntax, notation, axiom, sorry.
-/
import Derived.Test.YtcpjmkbcefmldaaGreatDoorRows
import GoSem.ClaimSeven
namespace Go.Proofs.YtcpjmkbcefmldaaGreatDoor
namespace Rows

/-- THE TIED CARD OF 'watchtowerlaw19.EvalHolds'. -/
def evalHoldsCard : Claim7 := { stood := { row := evalHoldsRow, standIns := [], harness := (true, "c3258e8e96a386cced8f448faa50cf07cae054e4931149ba49866593b6cf54a0"), looks := false }, kinds := [], alts := [], laidByText := true, laidKinds := [.data, .data, .data, .data], laidTests := true, laidLooks := .later }
def EvalHoldsCardSaid : Prop := Claim7.holds Tryz.pinned (.plain (OpenSpec.ofChange evalHoldsSpec)) evalHoldsCard

/-- THE TIED CARD OF 'watchtowerlaw19.EvalRules'. -/
def evalRulesCard : Claim7 := { stood := { row := evalRulesRow, standIns := [], harness := (true, "c3258e8e96a386cced8f448faa50cf07cae054e4931149ba49866593b6cf54a0"), looks := false }, kinds := [], alts := [], laidByText := true, laidKinds := [.data, .data, .data, .data], laidTests := true, laidLooks := .later }
def EvalRulesCardSaid : Prop := Claim7.holds Tryz.pinned (.plain (OpenSpec.ofChange evalRulesSpec)) evalRulesCard

/-- THE TIED CARD OF 'watchtowerlaw19.EvalMore'. -/
def evalMoreCard : Claim7 := { stood := { row := evalMoreRow, standIns := [], harness := (true, "c3258e8e96a386cced8f448faa50cf07cae054e4931149ba49866593b6cf54a0"), looks := false }, kinds := [], alts := [], laidByText := true, laidKinds := [.data, .data, .data, .data], laidTests := true, laidLooks := .later }
def EvalMoreCardSaid : Prop := Claim7.holds Tryz.pinned (.plain (OpenSpec.ofChange evalMoreSpec)) evalMoreCard

/-- THE TIED CARD OF 'watchtowerlaw19.EvalEmpty'. -/
def evalEmptyCard : Claim7 := { stood := { row := evalEmptyRow, standIns := [], harness := (true, "c3258e8e96a386cced8f448faa50cf07cae054e4931149ba49866593b6cf54a0"), looks := false }, kinds := [], alts := [], laidByText := true, laidKinds := [.data, .data, .data, .data], laidTests := true, laidLooks := .later }
def EvalEmptyCardSaid : Prop := Claim7.holds Tryz.pinned (.plain (OpenSpec.ofChange evalEmptySpec)) evalEmptyCard

/-- THE TIED CARD OF 'watchtowerlaw19.EvalWrites'. -/
def evalWritesCard : Claim7 := { stood := { row := evalWritesRow, standIns := [], harness := (true, "c3258e8e96a386cced8f448faa50cf07cae054e4931149ba49866593b6cf54a0"), looks := false }, kinds := [], alts := [], laidByText := true, laidKinds := [.data, .data, .data, .data], laidTests := true, laidLooks := .later }
def EvalWritesCardSaid : Prop := Claim7.holds Tryz.pinned (.plain (OpenSpec.ofChange evalWritesSpec)) evalWritesCard

/-- THE SECOND FORM's CARD OF 'watchtowerlaw19.EvalHolds'. -/
def evalHoldsUptoCard : Claim7 := { stood := { row := evalHoldsUptoRow, standIns := [], harness := (true, "c3258e8e96a386cced8f448faa50cf07cae054e4931149ba49866593b6cf54a0"), looks := false }, kinds := [], alts := [], laidByText := true, laidKinds := [.data, .data, .data, .data], laidTests := true, laidLooks := .later }
def EvalHoldsUptoCardSaid : Prop := Claim7.holds Tryz.pinned (.plain (OpenSpec.upto evalHoldsSpec)) evalHoldsUptoCard

/-- THE SECOND FORM's CARD OF 'watchtowerlaw19.EvalRules'. -/
def evalRulesUptoCard : Claim7 := { stood := { row := evalRulesUptoRow, standIns := [], harness := (true, "c3258e8e96a386cced8f448faa50cf07cae054e4931149ba49866593b6cf54a0"), looks := false }, kinds := [], alts := [], laidByText := true, laidKinds := [.data, .data, .data, .data], laidTests := true, laidLooks := .later }
def EvalRulesUptoCardSaid : Prop := Claim7.holds Tryz.pinned (.plain (OpenSpec.upto evalRulesSpec)) evalRulesUptoCard

/-- THE SECOND FORM's CARD OF 'watchtowerlaw19.EvalMore'. -/
def evalMoreUptoCard : Claim7 := { stood := { row := evalMoreUptoRow, standIns := [], harness := (true, "c3258e8e96a386cced8f448faa50cf07cae054e4931149ba49866593b6cf54a0"), looks := false }, kinds := [], alts := [], laidByText := true, laidKinds := [.data, .data, .data, .data], laidTests := true, laidLooks := .later }
def EvalMoreUptoCardSaid : Prop := Claim7.holds Tryz.pinned (.plain (OpenSpec.upto evalMoreSpec)) evalMoreUptoCard

/-- THE SECOND FORM's CARD OF 'watchtowerlaw19.EvalEmpty'. -/
def evalEmptyUptoCard : Claim7 := { stood := { row := evalEmptyUptoRow, standIns := [], harness := (true, "c3258e8e96a386cced8f448faa50cf07cae054e4931149ba49866593b6cf54a0"), looks := false }, kinds := [], alts := [], laidByText := true, laidKinds := [.data, .data, .data, .data], laidTests := true, laidLooks := .later }
def EvalEmptyUptoCardSaid : Prop := Claim7.holds Tryz.pinned (.plain (OpenSpec.upto evalEmptySpec)) evalEmptyUptoCard

/-- THE SECOND FORM's CARD OF 'watchtowerlaw19.EvalWrites'. -/
def evalWritesUptoCard : Claim7 := { stood := { row := evalWritesUptoRow, standIns := [], harness := (true, "c3258e8e96a386cced8f448faa50cf07cae054e4931149ba49866593b6cf54a0"), looks := false }, kinds := [], alts := [], laidByText := true, laidKinds := [.data, .data, .data, .data], laidTests := true, laidLooks := .later }
def EvalWritesUptoCardSaid : Prop := Claim7.holds Tryz.pinned (.plain (OpenSpec.upto evalWritesSpec)) evalWritesUptoCard
end Rows
end Go.Proofs.YtcpjmkbcefmldaaGreatDoor
