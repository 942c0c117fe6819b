/-
  DERIVED. GIVEN WITH THE SEED: THE CARDS: each row of YtgkmbhllcekagaaGreatDoorRows.lean that lists a variable, with what it lists TIED to the program's text (the seventh form; the later family's looks); each row that meets fmt, with fmt's text TOLD by the authors' own Lean function (tested against real Go, not proved from fmt's source: count such statements apart). THE CARD IS WHAT COUNTS. Prove the row's statement (the work); the ties are given (YtgkmbhllcekagaaGreatDoorTie.lean); close each card by the builder's one call (the guide's Derived/Test/ToyasCard.lean, 'card_holds'). Laid BY PROGRAM, IN A SANDBOX (cutbox-door.mjs). By AI agents, Wed Nov 11 2026. No macro, syntax, notation, axiom, sorry.
-/
import Derived.Test.YtgkmbhllcekagaaGreatDoorRows
import GoSem.ClaimSeven
namespace Go.Proofs.YtgkmbhllcekagaaGreatDoor
namespace Rows

/-- THE TIED CARD OF 'watchtowerlaw10.RuleIs'. -/
def ruleIsCard : Claim7 := { stood := { row := ruleIsRow, standIns := [], harness := (true, "fce27ffaff582aef694104430dfdcbd43399fed8609b8952a14a40aac30aafbd"), looks := false }, kinds := [], alts := [], laidByText := true, laidKinds := [.data, .data, .data, .data, .data, .data, .pinned], laidTests := true, laidLooks := .later }
def RuleIsCardSaid : Prop := Claim7.holds Tryz.pinned (.plain (OpenSpec.ofChange ruleIsSpec)) ruleIsCard

/-- THE TIED CARD OF 'watchtowerlaw10.RuleBack'. -/
def ruleBackCard : Claim7 := { stood := { row := ruleBackRow, standIns := [], harness := (true, "fce27ffaff582aef694104430dfdcbd43399fed8609b8952a14a40aac30aafbd"), looks := false }, kinds := [], alts := [], laidByText := true, laidKinds := [.data, .data, .data, .data, .data, .data, .pinned], laidTests := true, laidLooks := .later }
def RuleBackCardSaid : Prop := Claim7.holds Tryz.pinned (.plain (OpenSpec.ofChange ruleBackSpec)) ruleBackCard

/-- THE TIED CARD OF 'watchtowerlaw10.RuleParsed'. -/
def ruleParsedCard : Claim7 := { stood := { row := ruleParsedRow, standIns := [], harness := (true, "fce27ffaff582aef694104430dfdcbd43399fed8609b8952a14a40aac30aafbd"), looks := false }, kinds := [], alts := [], laidByText := true, laidKinds := [.data, .data, .data, .data, .data, .data, .pinned], laidTests := true, laidLooks := .later }
def RuleParsedCardSaid : Prop := Claim7.holds Tryz.pinned (.plain (OpenSpec.ofChange ruleParsedSpec)) ruleParsedCard

/-- THE TIED CARD OF 'watchtowerlaw10.RuleNames'. -/
def ruleNamesCard : Claim7 := { stood := { row := ruleNamesRow, standIns := [], harness := (true, "fce27ffaff582aef694104430dfdcbd43399fed8609b8952a14a40aac30aafbd"), looks := false }, kinds := [], alts := [], laidByText := true, laidKinds := [.data, .data, .data, .data, .data, .data, .pinned], laidTests := true, laidLooks := .later }
def RuleNamesCardSaid : Prop := Claim7.holds Tryz.pinned (.plain (OpenSpec.ofChange ruleNamesSpec)) ruleNamesCard

/-- THE TIED CARD OF 'watchtowerlaw10.RuleApart'. -/
def ruleApartCard : Claim7 := { stood := { row := ruleApartRow, standIns := [], harness := (true, "fce27ffaff582aef694104430dfdcbd43399fed8609b8952a14a40aac30aafbd"), looks := false }, kinds := [], alts := [], laidByText := true, laidKinds := [.data, .data, .data, .data, .data, .data, .pinned], laidTests := true, laidLooks := .later }
def RuleApartCardSaid : Prop := Claim7.holds Tryz.pinned (.plain (OpenSpec.ofChange ruleApartSpec)) ruleApartCard

/-- THE SECOND FORM's CARD OF 'watchtowerlaw10.RuleIs'. -/
def ruleIsUptoCard : Claim7 := { stood := { row := ruleIsUptoRow, standIns := [], harness := (true, "fce27ffaff582aef694104430dfdcbd43399fed8609b8952a14a40aac30aafbd"), looks := false }, kinds := [], alts := [], laidByText := true, laidKinds := [.data, .data, .data, .data, .data, .data, .pinned], laidTests := true, laidLooks := .later }
def RuleIsUptoCardSaid : Prop := Claim7.holds Tryz.pinned (.plain (OpenSpec.upto ruleIsSpec)) ruleIsUptoCard

/-- THE SECOND FORM's CARD OF 'watchtowerlaw10.RuleBack'. -/
def ruleBackUptoCard : Claim7 := { stood := { row := ruleBackUptoRow, standIns := [], harness := (true, "fce27ffaff582aef694104430dfdcbd43399fed8609b8952a14a40aac30aafbd"), looks := false }, kinds := [], alts := [], laidByText := true, laidKinds := [.data, .data, .data, .data, .data, .data, .pinned], laidTests := true, laidLooks := .later }
def RuleBackUptoCardSaid : Prop := Claim7.holds Tryz.pinned (.plain (OpenSpec.upto ruleBackSpec)) ruleBackUptoCard

/-- THE SECOND FORM's CARD OF 'watchtowerlaw10.RuleParsed'. -/
def ruleParsedUptoCard : Claim7 := { stood := { row := ruleParsedUptoRow, standIns := [], harness := (true, "fce27ffaff582aef694104430dfdcbd43399fed8609b8952a14a40aac30aafbd"), looks := false }, kinds := [], alts := [], laidByText := true, laidKinds := [.data, .data, .data, .data, .data, .data, .pinned], laidTests := true, laidLooks := .later }
def RuleParsedUptoCardSaid : Prop := Claim7.holds Tryz.pinned (.plain (OpenSpec.upto ruleParsedSpec)) ruleParsedUptoCard

/-- THE SECOND FORM's CARD OF 'watchtowerlaw10.RuleNames'. -/
def ruleNamesUptoCard : Claim7 := { stood := { row := ruleNamesUptoRow, standIns := [], harness := (true, "fce27ffaff582aef694104430dfdcbd43399fed8609b8952a14a40aac30aafbd"), looks := false }, kinds := [], alts := [], laidByText := true, laidKinds := [.data, .data, .data, .data, .data, .data, .pinned], laidTests := true, laidLooks := .later }
def RuleNamesUptoCardSaid : Prop := Claim7.holds Tryz.pinned (.plain (OpenSpec.upto ruleNamesSpec)) ruleNamesUptoCard

/-- THE SECOND FORM's CARD OF 'watchtowerlaw10.RuleApart'. -/
def ruleApartUptoCard : Claim7 := { stood := { row := ruleApartUptoRow, standIns := [], harness := (true, "fce27ffaff582aef694104430dfdcbd43399fed8609b8952a14a40aac30aafbd"), looks := false }, kinds := [], alts := [], laidByText := true, laidKinds := [.data, .data, .data, .data, .data, .data, .pinned], laidTests := true, laidLooks := .later }
def RuleApartUptoCardSaid : Prop := Claim7.holds Tryz.pinned (.plain (OpenSpec.upto ruleApartSpec)) ruleApartUptoCard
end Rows
end Go.Proofs.YtgkmbhllcekagaaGreatDoor
