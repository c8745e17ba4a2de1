/-
  DERIVED. GIVEN WITH THE SEED: THE CARDS: each row of YtlmgkipmfgijiaaGreatDoorRows.lean that lists a variable, with what it lists TIED to the program's text (the seventh form; the later family's looks); each row that meets fmt, with fmt's text TOLD by the authors' own Lean function (tested against real Go, not proved from fmt's source: count such statements apart). THE CARD IS WHAT COUNTS. Prove the row's statement (the work); the ties are given (YtlmgkipmfgijiaaGreatDoorTie.lean); close each card by the builder's one call (the guide's Derived/Test/ToyasCard.lean, 'card_holds'). Laid BY PROGRAM, IN A SANDBOX (cutbox-door.mjs). By AI agents, Wed Nov 11 2026. No macro, syntax, notation, axiom, sorry.
-/
import Derived.Test.YtlmgkipmfgijiaaGreatDoorRows
import GoSem.ClaimSeven
namespace Go.Proofs.YtlmgkipmfgijiaaGreatDoor
namespace Rows

/-- THE TIED CARD OF 'ontimelaw29.BoundsCounter'. -/
def boundsCounterCard : Claim7 := { stood := { row := boundsCounterRow, standIns := [], harness := (true, "18e705f162bceaa43781ed7deca70d1d7faeceb5fa0da73440935e85b2bbb869"), looks := false }, kinds := [], alts := [], laidByText := true, laidKinds := [.data], laidTests := true, laidLooks := .later }
def BoundsCounterCardSaid : Prop := Claim7.holds Tryz.pinned (.plain (OpenSpec.ofChange boundsCounterSpec)) boundsCounterCard

/-- THE TIED CARD OF 'ontimelaw29.BoundsRaw'. -/
def boundsRawCard : Claim7 := { stood := { row := boundsRawRow, standIns := [], harness := (true, "18e705f162bceaa43781ed7deca70d1d7faeceb5fa0da73440935e85b2bbb869"), looks := false }, kinds := [], alts := [], laidByText := true, laidKinds := [.data], laidTests := true, laidLooks := .later }
def BoundsRawCardSaid : Prop := Claim7.holds Tryz.pinned (.plain (OpenSpec.ofChange boundsRawSpec)) boundsRawCard

/-- THE TIED CARD OF 'ontimelaw29.BoundsFind'. -/
def boundsFindCard : Claim7 := { stood := { row := boundsFindRow, standIns := [], harness := (true, "18e705f162bceaa43781ed7deca70d1d7faeceb5fa0da73440935e85b2bbb869"), looks := false }, kinds := [], alts := [], laidByText := true, laidKinds := [.data], laidTests := true, laidLooks := .later }
def BoundsFindCardSaid : Prop := Claim7.holds Tryz.pinned (.plain (OpenSpec.ofChange boundsFindSpec)) boundsFindCard

/-- THE TIED CARD OF 'ontimelaw29.BoundsTighter'. -/
def boundsTighterCard : Claim7 := { stood := { row := boundsTighterRow, standIns := [], harness := (true, "18e705f162bceaa43781ed7deca70d1d7faeceb5fa0da73440935e85b2bbb869"), looks := false }, kinds := [], alts := [], laidByText := true, laidKinds := [.data], laidTests := true, laidLooks := .later }
def BoundsTighterCardSaid : Prop := Claim7.holds Tryz.pinned (.plain (OpenSpec.ofChange boundsTighterSpec)) boundsTighterCard

/-- THE TIED CARD OF 'ontimelaw29.BoundsMoved'. -/
def boundsMovedCard : Claim7 := { stood := { row := boundsMovedRow, standIns := [], harness := (true, "18e705f162bceaa43781ed7deca70d1d7faeceb5fa0da73440935e85b2bbb869"), looks := false }, kinds := [], alts := [], laidByText := true, laidKinds := [.data], laidTests := true, laidLooks := .later }
def BoundsMovedCardSaid : Prop := Claim7.holds Tryz.pinned (.plain (OpenSpec.ofChange boundsMovedSpec)) boundsMovedCard

/-- THE TIED CARD OF 'ontimelaw29.BoundsForm'. -/
def boundsFormCard : Claim7 := { stood := { row := boundsFormRow, standIns := [], harness := (true, "18e705f162bceaa43781ed7deca70d1d7faeceb5fa0da73440935e85b2bbb869"), looks := false }, kinds := [], alts := [], laidByText := true, laidKinds := [.data], laidTests := true, laidLooks := .later }
def BoundsFormCardSaid : Prop := Claim7.holds Tryz.pinned (.plain (OpenSpec.ofChange boundsFormSpec)) boundsFormCard

/-- THE TIED CARD OF 'ontimelaw29.BoundsHold'. -/
def boundsHoldCard : Claim7 := { stood := { row := boundsHoldRow, standIns := [], harness := (true, "18e705f162bceaa43781ed7deca70d1d7faeceb5fa0da73440935e85b2bbb869"), looks := false }, kinds := [], alts := [], laidByText := true, laidKinds := [.data, .data], laidTests := true, laidLooks := .later }
def BoundsHoldCardSaid : Prop := Claim7.holds Tryz.pinned (.plain (OpenSpec.ofChange boundsHoldSpec)) boundsHoldCard

/-- THE SECOND FORM's CARD OF 'ontimelaw29.BoundsCounter'. -/
def boundsCounterUptoCard : Claim7 := { stood := { row := boundsCounterUptoRow, standIns := [], harness := (true, "18e705f162bceaa43781ed7deca70d1d7faeceb5fa0da73440935e85b2bbb869"), looks := false }, kinds := [], alts := [], laidByText := true, laidKinds := [.data], laidTests := true, laidLooks := .later }
def BoundsCounterUptoCardSaid : Prop := Claim7.holds Tryz.pinned (.plain (OpenSpec.upto boundsCounterSpec)) boundsCounterUptoCard

/-- THE SECOND FORM's CARD OF 'ontimelaw29.BoundsRaw'. -/
def boundsRawUptoCard : Claim7 := { stood := { row := boundsRawUptoRow, standIns := [], harness := (true, "18e705f162bceaa43781ed7deca70d1d7faeceb5fa0da73440935e85b2bbb869"), looks := false }, kinds := [], alts := [], laidByText := true, laidKinds := [.data], laidTests := true, laidLooks := .later }
def BoundsRawUptoCardSaid : Prop := Claim7.holds Tryz.pinned (.plain (OpenSpec.upto boundsRawSpec)) boundsRawUptoCard

/-- THE SECOND FORM's CARD OF 'ontimelaw29.BoundsFind'. -/
def boundsFindUptoCard : Claim7 := { stood := { row := boundsFindUptoRow, standIns := [], harness := (true, "18e705f162bceaa43781ed7deca70d1d7faeceb5fa0da73440935e85b2bbb869"), looks := false }, kinds := [], alts := [], laidByText := true, laidKinds := [.data], laidTests := true, laidLooks := .later }
def BoundsFindUptoCardSaid : Prop := Claim7.holds Tryz.pinned (.plain (OpenSpec.upto boundsFindSpec)) boundsFindUptoCard

/-- THE SECOND FORM's CARD OF 'ontimelaw29.BoundsTighter'. -/
def boundsTighterUptoCard : Claim7 := { stood := { row := boundsTighterUptoRow, standIns := [], harness := (true, "18e705f162bceaa43781ed7deca70d1d7faeceb5fa0da73440935e85b2bbb869"), looks := false }, kinds := [], alts := [], laidByText := true, laidKinds := [.data], laidTests := true, laidLooks := .later }
def BoundsTighterUptoCardSaid : Prop := Claim7.holds Tryz.pinned (.plain (OpenSpec.upto boundsTighterSpec)) boundsTighterUptoCard

/-- THE SECOND FORM's CARD OF 'ontimelaw29.BoundsMoved'. -/
def boundsMovedUptoCard : Claim7 := { stood := { row := boundsMovedUptoRow, standIns := [], harness := (true, "18e705f162bceaa43781ed7deca70d1d7faeceb5fa0da73440935e85b2bbb869"), looks := false }, kinds := [], alts := [], laidByText := true, laidKinds := [.data], laidTests := true, laidLooks := .later }
def BoundsMovedUptoCardSaid : Prop := Claim7.holds Tryz.pinned (.plain (OpenSpec.upto boundsMovedSpec)) boundsMovedUptoCard

/-- THE SECOND FORM's CARD OF 'ontimelaw29.BoundsForm'. -/
def boundsFormUptoCard : Claim7 := { stood := { row := boundsFormUptoRow, standIns := [], harness := (true, "18e705f162bceaa43781ed7deca70d1d7faeceb5fa0da73440935e85b2bbb869"), looks := false }, kinds := [], alts := [], laidByText := true, laidKinds := [.data], laidTests := true, laidLooks := .later }
def BoundsFormUptoCardSaid : Prop := Claim7.holds Tryz.pinned (.plain (OpenSpec.upto boundsFormSpec)) boundsFormUptoCard

/-- THE SECOND FORM's CARD OF 'ontimelaw29.BoundsHold'. -/
def boundsHoldUptoCard : Claim7 := { stood := { row := boundsHoldUptoRow, standIns := [], harness := (true, "18e705f162bceaa43781ed7deca70d1d7faeceb5fa0da73440935e85b2bbb869"), looks := false }, kinds := [], alts := [], laidByText := true, laidKinds := [.data, .data], laidTests := true, laidLooks := .later }
def BoundsHoldUptoCardSaid : Prop := Claim7.holds Tryz.pinned (.plain (OpenSpec.upto boundsHoldSpec)) boundsHoldUptoCard
end Rows
end Go.Proofs.YtlmgkipmfgijiaaGreatDoor
