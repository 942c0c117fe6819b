/-
  DERIVED. GIVEN WITH THE SEED: THE CARDS: each row of YtoekflobllmeeaaGreatDoorRows.lean that lists a variable, with what it lists TIED to the program's text (the seventh form; the later family's looks); each row that meets fmt, with fmt's text TOLD by the authors' own Lean function (tested against real Go, not proved from fmt's source: count such statements apart). THE CARD IS WHAT COUNTS. Prove the row's statement (the work); the ties are given (YtoekflobllmeeaaGreatDoorTie.lean); close each card by the builder's one call (the guide's Derived/Test/ToyasCard.lean, 'card_holds'). Laid BY PROGRAM, IN A SANDBOX (cutbox-door.mjs). By AI agents, Wed Nov 11 2026. No macro, syntax, notation, axiom, sorry.
-/
import Derived.Test.YtoekflobllmeeaaGreatDoorRows
import GoSem.ClaimSeven
namespace Go.Proofs.YtoekflobllmeeaaGreatDoor
namespace Rows

/-- THE TIED CARD OF 'watchtowerlaw20.SnapIs'. -/
def snapIsCard : Claim7 := { stood := { row := snapIsRow, standIns := [], harness := (true, "c8a48643b86d1f5a7dc6be65dfe687ddbe2e8d2dc53455bffa6437c66adeb369"), looks := false }, kinds := [], alts := [], laidByText := true, laidKinds := [.data, .data, .data], laidTests := true, laidLooks := .later }
def SnapIsCardSaid : Prop := Claim7.holds Tryz.pinned (.plain (OpenSpec.ofChange snapIsSpec)) snapIsCard

/-- THE TIED CARD OF 'watchtowerlaw20.SnapBack'. -/
def snapBackCard : Claim7 := { stood := { row := snapBackRow, standIns := [], harness := (true, "c8a48643b86d1f5a7dc6be65dfe687ddbe2e8d2dc53455bffa6437c66adeb369"), looks := false }, kinds := [], alts := [], laidByText := true, laidKinds := [.data, .data, .data], laidTests := true, laidLooks := .later }
def SnapBackCardSaid : Prop := Claim7.holds Tryz.pinned (.plain (OpenSpec.ofChange snapBackSpec)) snapBackCard

/-- THE TIED CARD OF 'watchtowerlaw20.SnapFinds'. -/
def snapFindsCard : Claim7 := { stood := { row := snapFindsRow, standIns := [], harness := (true, "c8a48643b86d1f5a7dc6be65dfe687ddbe2e8d2dc53455bffa6437c66adeb369"), looks := false }, kinds := [], alts := [], laidByText := true, laidKinds := [.data, .data, .data], laidTests := true, laidLooks := .later }
def SnapFindsCardSaid : Prop := Claim7.holds Tryz.pinned (.plain (OpenSpec.ofChange snapFindsSpec)) snapFindsCard

/-- THE TIED CARD OF 'watchtowerlaw20.SnapApart'. -/
def snapApartCard : Claim7 := { stood := { row := snapApartRow, standIns := [], harness := (true, "c8a48643b86d1f5a7dc6be65dfe687ddbe2e8d2dc53455bffa6437c66adeb369"), looks := false }, kinds := [], alts := [], laidByText := true, laidKinds := [.data, .data, .data], laidTests := true, laidLooks := .later }
def SnapApartCardSaid : Prop := Claim7.holds Tryz.pinned (.plain (OpenSpec.ofChange snapApartSpec)) snapApartCard

/-- THE SECOND FORM's CARD OF 'watchtowerlaw20.SnapIs'. -/
def snapIsUptoCard : Claim7 := { stood := { row := snapIsUptoRow, standIns := [], harness := (true, "c8a48643b86d1f5a7dc6be65dfe687ddbe2e8d2dc53455bffa6437c66adeb369"), looks := false }, kinds := [], alts := [], laidByText := true, laidKinds := [.data, .data, .data], laidTests := true, laidLooks := .later }
def SnapIsUptoCardSaid : Prop := Claim7.holds Tryz.pinned (.plain (OpenSpec.upto snapIsSpec)) snapIsUptoCard

/-- THE SECOND FORM's CARD OF 'watchtowerlaw20.SnapBack'. -/
def snapBackUptoCard : Claim7 := { stood := { row := snapBackUptoRow, standIns := [], harness := (true, "c8a48643b86d1f5a7dc6be65dfe687ddbe2e8d2dc53455bffa6437c66adeb369"), looks := false }, kinds := [], alts := [], laidByText := true, laidKinds := [.data, .data, .data], laidTests := true, laidLooks := .later }
def SnapBackUptoCardSaid : Prop := Claim7.holds Tryz.pinned (.plain (OpenSpec.upto snapBackSpec)) snapBackUptoCard

/-- THE SECOND FORM's CARD OF 'watchtowerlaw20.SnapFinds'. -/
def snapFindsUptoCard : Claim7 := { stood := { row := snapFindsUptoRow, standIns := [], harness := (true, "c8a48643b86d1f5a7dc6be65dfe687ddbe2e8d2dc53455bffa6437c66adeb369"), looks := false }, kinds := [], alts := [], laidByText := true, laidKinds := [.data, .data, .data], laidTests := true, laidLooks := .later }
def SnapFindsUptoCardSaid : Prop := Claim7.holds Tryz.pinned (.plain (OpenSpec.upto snapFindsSpec)) snapFindsUptoCard

/-- THE SECOND FORM's CARD OF 'watchtowerlaw20.SnapApart'. -/
def snapApartUptoCard : Claim7 := { stood := { row := snapApartUptoRow, standIns := [], harness := (true, "c8a48643b86d1f5a7dc6be65dfe687ddbe2e8d2dc53455bffa6437c66adeb369"), looks := false }, kinds := [], alts := [], laidByText := true, laidKinds := [.data, .data, .data], laidTests := true, laidLooks := .later }
def SnapApartUptoCardSaid : Prop := Claim7.holds Tryz.pinned (.plain (OpenSpec.upto snapApartSpec)) snapApartUptoCard
end Rows
end Go.Proofs.YtoekflobllmeeaaGreatDoor
