/-
  DERIVED. GIVEN WITH THE SEED: THE CARDS: each row of YtebklpnkcicpjaaDoorRows.lean that lists a variable, with what it lists TIED to the program's text (the seventh form; the later family's looks); each row that meets fmt, with fmt's text TOLD by the authors' own Lean function (tested against real Go, not proved from fmt's source: count such statements apart). THE CARD IS WHAT COUNTS. Prove the row's statement (the work); the ties are given (YtebklpnkcicpjaaDoorTie.lean); close each card by the builder's one call (the guide's Derived/Test/ToyasCard.lean, 'card_holds'). Laid BY PROGRAM, IN A SANDBOX (cutbox-door.mjs). By AI agents, Wed Nov 11 2026. No macro, syntax, notation, axiom, sorry.
-/
import Derived.Test.YtebklpnkcicpjaaDoorRows
import GoSem.ClaimSeven
namespace Go.Proofs.YtebklpnkcicpjaaDoor
namespace Rows

/-- THE TIED CARD OF 'ontimelaw28.ValueOutcomes'. -/
def valueOutcomesCard : Claim7 := { stood := { row := valueOutcomesRow, standIns := [], harness := (true, "2d70e7b0bf68d0e8eb6968d554c55a448663dab88c0b10abba380bf83fce6869"), looks := false }, kinds := [], alts := [], laidByText := true, laidKinds := [.data], laidTests := true, laidLooks := .later }
def ValueOutcomesCardSaid : Prop := Claim7.holds Tryd.pinned (.plain (OpenSpec.ofChange valueOutcomesSpec)) valueOutcomesCard

/-- THE TIED CARD OF 'ontimelaw28.ValueBefore'. -/
def valueBeforeCard : Claim7 := { stood := { row := valueBeforeRow, standIns := [], harness := (true, "2d70e7b0bf68d0e8eb6968d554c55a448663dab88c0b10abba380bf83fce6869"), looks := false }, kinds := [], alts := [], laidByText := true, laidKinds := [.data], laidTests := true, laidLooks := .later }
def ValueBeforeCardSaid : Prop := Claim7.holds Tryd.pinned (.plain (OpenSpec.ofChange valueBeforeSpec)) valueBeforeCard

/-- THE TIED CARD OF 'ontimelaw28.ValueFixed'. -/
def valueFixedCard : Claim7 := { stood := { row := valueFixedRow, standIns := [], harness := (true, "2d70e7b0bf68d0e8eb6968d554c55a448663dab88c0b10abba380bf83fce6869"), looks := false }, kinds := [], alts := [], laidByText := true, laidKinds := [.data], laidTests := true, laidLooks := .later }
def ValueFixedCardSaid : Prop := Claim7.holds Tryd.pinned (.plain (OpenSpec.ofChange valueFixedSpec)) valueFixedCard

/-- THE TIED CARD OF 'ontimelaw28.ValueMonotone'. -/
def valueMonotoneCard : Claim7 := { stood := { row := valueMonotoneRow, standIns := [], harness := (true, "2d70e7b0bf68d0e8eb6968d554c55a448663dab88c0b10abba380bf83fce6869"), looks := false }, kinds := [], alts := [], laidByText := true, laidKinds := [.data], laidTests := true, laidLooks := .later }
def ValueMonotoneCardSaid : Prop := Claim7.holds Tryd.pinned (.plain (OpenSpec.ofChange valueMonotoneSpec)) valueMonotoneCard

/-- THE TIED CARD OF 'ontimelaw28.ValueSteps'. -/
def valueStepsCard : Claim7 := { stood := { row := valueStepsRow, standIns := [], harness := (true, "2d70e7b0bf68d0e8eb6968d554c55a448663dab88c0b10abba380bf83fce6869"), looks := false }, kinds := [], alts := [], laidByText := true, laidKinds := [.data, .data], laidTests := true, laidLooks := .later }
def ValueStepsCardSaid : Prop := Claim7.holds Tryd.pinned (.plain (OpenSpec.ofChange valueStepsSpec)) valueStepsCard

/-- THE TIED CARD OF 'ontimelaw28.ValueSound'. -/
def valueSoundCard : Claim7 := { stood := { row := valueSoundRow, standIns := [], harness := (true, "2d70e7b0bf68d0e8eb6968d554c55a448663dab88c0b10abba380bf83fce6869"), looks := false }, kinds := [], alts := [], laidByText := true, laidKinds := [.data, .data], laidTests := true, laidLooks := .later }
def ValueSoundCardSaid : Prop := Claim7.holds Tryd.pinned (.plain (OpenSpec.ofChange valueSoundSpec)) valueSoundCard

/-- THE SECOND FORM's CARD OF 'ontimelaw28.ValueOutcomes'. -/
def valueOutcomesUptoCard : Claim7 := { stood := { row := valueOutcomesUptoRow, standIns := [], harness := (true, "2d70e7b0bf68d0e8eb6968d554c55a448663dab88c0b10abba380bf83fce6869"), looks := false }, kinds := [], alts := [], laidByText := true, laidKinds := [.data], laidTests := true, laidLooks := .later }
def ValueOutcomesUptoCardSaid : Prop := Claim7.holds Tryd.pinned (.plain (OpenSpec.upto valueOutcomesSpec)) valueOutcomesUptoCard

/-- THE SECOND FORM's CARD OF 'ontimelaw28.ValueBefore'. -/
def valueBeforeUptoCard : Claim7 := { stood := { row := valueBeforeUptoRow, standIns := [], harness := (true, "2d70e7b0bf68d0e8eb6968d554c55a448663dab88c0b10abba380bf83fce6869"), looks := false }, kinds := [], alts := [], laidByText := true, laidKinds := [.data], laidTests := true, laidLooks := .later }
def ValueBeforeUptoCardSaid : Prop := Claim7.holds Tryd.pinned (.plain (OpenSpec.upto valueBeforeSpec)) valueBeforeUptoCard

/-- THE SECOND FORM's CARD OF 'ontimelaw28.ValueFixed'. -/
def valueFixedUptoCard : Claim7 := { stood := { row := valueFixedUptoRow, standIns := [], harness := (true, "2d70e7b0bf68d0e8eb6968d554c55a448663dab88c0b10abba380bf83fce6869"), looks := false }, kinds := [], alts := [], laidByText := true, laidKinds := [.data], laidTests := true, laidLooks := .later }
def ValueFixedUptoCardSaid : Prop := Claim7.holds Tryd.pinned (.plain (OpenSpec.upto valueFixedSpec)) valueFixedUptoCard

/-- THE SECOND FORM's CARD OF 'ontimelaw28.ValueMonotone'. -/
def valueMonotoneUptoCard : Claim7 := { stood := { row := valueMonotoneUptoRow, standIns := [], harness := (true, "2d70e7b0bf68d0e8eb6968d554c55a448663dab88c0b10abba380bf83fce6869"), looks := false }, kinds := [], alts := [], laidByText := true, laidKinds := [.data], laidTests := true, laidLooks := .later }
def ValueMonotoneUptoCardSaid : Prop := Claim7.holds Tryd.pinned (.plain (OpenSpec.upto valueMonotoneSpec)) valueMonotoneUptoCard

/-- THE SECOND FORM's CARD OF 'ontimelaw28.ValueSteps'. -/
def valueStepsUptoCard : Claim7 := { stood := { row := valueStepsUptoRow, standIns := [], harness := (true, "2d70e7b0bf68d0e8eb6968d554c55a448663dab88c0b10abba380bf83fce6869"), looks := false }, kinds := [], alts := [], laidByText := true, laidKinds := [.data, .data], laidTests := true, laidLooks := .later }
def ValueStepsUptoCardSaid : Prop := Claim7.holds Tryd.pinned (.plain (OpenSpec.upto valueStepsSpec)) valueStepsUptoCard

/-- THE SECOND FORM's CARD OF 'ontimelaw28.ValueSound'. -/
def valueSoundUptoCard : Claim7 := { stood := { row := valueSoundUptoRow, standIns := [], harness := (true, "2d70e7b0bf68d0e8eb6968d554c55a448663dab88c0b10abba380bf83fce6869"), looks := false }, kinds := [], alts := [], laidByText := true, laidKinds := [.data, .data], laidTests := true, laidLooks := .later }
def ValueSoundUptoCardSaid : Prop := Claim7.holds Tryd.pinned (.plain (OpenSpec.upto valueSoundSpec)) valueSoundUptoCard
end Rows
end Go.Proofs.YtebklpnkcicpjaaDoor
