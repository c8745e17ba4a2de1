/-
  DERIVED. GIVEN WITH THE SEED: THE CARDS: each row of YtebklpnkcicpjaaGreatDoorRows.lean that lists a variable, with what it lists TIED to the program's text (the seventh form; the later family's looks); each row that meets fmt, with fmt's text TOLD by the authors' own Lean function (tested against real Go, not proved from fmt's source: count such statements apart). THE CARD IS WHAT COUNTS. Prove the row's statement (the work); the ties are given (YtebklpnkcicpjaaGreatDoorTie.lean); close each card by the builder's one call (the guide's Derived/Test/ToyasCard.lean, 'card_holds'). Laid BY PROGRAM, IN A SANDBOX (cutbox-door.mjs). By AI agents, Wed Nov 11 2026. No macro, syntax, notation, axiom, sorry.
-/
import Derived.Test.YtebklpnkcicpjaaGreatDoorRows
import GoSem.ClaimSeven
namespace Go.Proofs.YtebklpnkcicpjaaGreatDoor
namespace Rows

/-- THE TIED CARD OF 'ontimelaw28.ValueAnalyzes'. -/
def valueAnalyzesCard : Claim7 := { stood := { row := valueAnalyzesRow, standIns := [], harness := (true, "7ef10711567898784d4d3f63b989398b9db1133c1be6c4067fee0c9594f9a8fa"), looks := false }, kinds := [], alts := [], laidByText := true, laidKinds := [.data], laidTests := true, laidLooks := .later }
def ValueAnalyzesCardSaid : Prop := Claim7.holds Tryz.pinned (.plain (OpenSpec.ofChange valueAnalyzesSpec)) valueAnalyzesCard

/-- THE TIED CARD OF 'ontimelaw28.ValueEffects'. -/
def valueEffectsCard : Claim7 := { stood := { row := valueEffectsRow, standIns := [], harness := (true, "7ef10711567898784d4d3f63b989398b9db1133c1be6c4067fee0c9594f9a8fa"), looks := false }, kinds := [], alts := [], laidByText := true, laidKinds := [.data], laidTests := true, laidLooks := .later }
def ValueEffectsCardSaid : Prop := Claim7.holds Tryz.pinned (.plain (OpenSpec.ofChange valueEffectsSpec)) valueEffectsCard

/-- THE SECOND FORM's CARD OF 'ontimelaw28.ValueAnalyzes'. -/
def valueAnalyzesUptoCard : Claim7 := { stood := { row := valueAnalyzesUptoRow, standIns := [], harness := (true, "7ef10711567898784d4d3f63b989398b9db1133c1be6c4067fee0c9594f9a8fa"), looks := false }, kinds := [], alts := [], laidByText := true, laidKinds := [.data], laidTests := true, laidLooks := .later }
def ValueAnalyzesUptoCardSaid : Prop := Claim7.holds Tryz.pinned (.plain (OpenSpec.upto valueAnalyzesSpec)) valueAnalyzesUptoCard

/-- THE SECOND FORM's CARD OF 'ontimelaw28.ValueEffects'. -/
def valueEffectsUptoCard : Claim7 := { stood := { row := valueEffectsUptoRow, standIns := [], harness := (true, "7ef10711567898784d4d3f63b989398b9db1133c1be6c4067fee0c9594f9a8fa"), looks := false }, kinds := [], alts := [], laidByText := true, laidKinds := [.data], laidTests := true, laidLooks := .later }
def ValueEffectsUptoCardSaid : Prop := Claim7.holds Tryz.pinned (.plain (OpenSpec.upto valueEffectsSpec)) valueEffectsUptoCard
end Rows
end Go.Proofs.YtebklpnkcicpjaaGreatDoor
