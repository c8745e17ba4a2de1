/-
  DERIVED. GIVEN WITH THE SEED: THE CARDS: each row of YtfceodpdipniaaaDoorRows.lean that lists a variable, with what it lists TIED to the program's text (the seventh form; the later family's looks); each row that meets fmt, with fmt's text TOLD by the authors' own Lean function (tested against real Go, not proved from fmt's source: count such statements apart). THE CARD IS WHAT COUNTS. Prove the row's statement (the work); the ties are given (YtfceodpdipniaaaDoorTie.lean); close each card by the builder's one call (the guide's Derived/Test/ToyasCard.lean, 'card_holds'). Laid BY PROGRAM, IN A SANDBOX (cutbox-door.mjs). By AI agents, Wed Nov 11 2026. No macro, syntax, notation, axiom, sorry.
-/
import Derived.Test.YtfceodpdipniaaaDoorRows
import GoSem.ClaimSeven
namespace Go.Proofs.YtfceodpdipniaaaDoor
namespace Rows

/-- THE TIED CARD OF 'ontimelaw24.CfgBuilds'. -/
def cfgBuildsCard : Claim7 := { stood := { row := cfgBuildsRow, standIns := [], harness := (true, "d8ad8d9058df3f2d1075a94f90b9fc955f4b1bd36fb63668ff2a870dd852cd82"), looks := false }, kinds := [], alts := [], laidByText := true, laidKinds := [.data], laidTests := true, laidLooks := .later }
def CfgBuildsCardSaid : Prop := Claim7.holds Tryd.pinned (.plain (OpenSpec.ofChange cfgBuildsSpec)) cfgBuildsCard

/-- THE TIED CARD OF 'ontimelaw24.CfgValid'. -/
def cfgValidCard : Claim7 := { stood := { row := cfgValidRow, standIns := [], harness := (true, "d8ad8d9058df3f2d1075a94f90b9fc955f4b1bd36fb63668ff2a870dd852cd82"), looks := false }, kinds := [], alts := [], laidByText := true, laidKinds := [.data], laidTests := true, laidLooks := .later }
def CfgValidCardSaid : Prop := Claim7.holds Tryd.pinned (.plain (OpenSpec.ofChange cfgValidSpec)) cfgValidCard

/-- THE TIED CARD OF 'ontimelaw24.CfgSound'. -/
def cfgSoundCard : Claim7 := { stood := { row := cfgSoundRow, standIns := [], harness := (true, "d8ad8d9058df3f2d1075a94f90b9fc955f4b1bd36fb63668ff2a870dd852cd82"), looks := false }, kinds := [], alts := [], laidByText := true, laidKinds := [.data], laidTests := true, laidLooks := .later }
def CfgSoundCardSaid : Prop := Claim7.holds Tryd.pinned (.plain (OpenSpec.ofChange cfgSoundSpec)) cfgSoundCard

/-- THE TIED CARD OF 'ontimelaw24.CfgAlone'. -/
def cfgAloneCard : Claim7 := { stood := { row := cfgAloneRow, standIns := [], harness := (true, "d8ad8d9058df3f2d1075a94f90b9fc955f4b1bd36fb63668ff2a870dd852cd82"), looks := false }, kinds := [], alts := [], laidByText := true, laidKinds := [.data], laidTests := true, laidLooks := .later }
def CfgAloneCardSaid : Prop := Claim7.holds Tryd.pinned (.plain (OpenSpec.ofChange cfgAloneSpec)) cfgAloneCard

/-- THE TIED CARD OF 'ontimelaw24.CfgPlain'. -/
def cfgPlainCard : Claim7 := { stood := { row := cfgPlainRow, standIns := [], harness := (true, "d8ad8d9058df3f2d1075a94f90b9fc955f4b1bd36fb63668ff2a870dd852cd82"), looks := false }, kinds := [], alts := [], laidByText := true, laidKinds := [.data], laidTests := true, laidLooks := .later }
def CfgPlainCardSaid : Prop := Claim7.holds Tryd.pinned (.plain (OpenSpec.ofChange cfgPlainSpec)) cfgPlainCard

/-- THE TIED CARD OF 'ontimelaw24.CfgQueries'. -/
def cfgQueriesCard : Claim7 := { stood := { row := cfgQueriesRow, standIns := [], harness := (true, "d8ad8d9058df3f2d1075a94f90b9fc955f4b1bd36fb63668ff2a870dd852cd82"), looks := false }, kinds := [], alts := [], laidByText := true, laidKinds := [.data], laidTests := true, laidLooks := .later }
def CfgQueriesCardSaid : Prop := Claim7.holds Tryd.pinned (.plain (OpenSpec.ofChange cfgQueriesSpec)) cfgQueriesCard

/-- THE TIED CARD OF 'ontimelaw24.CfgRuns'. -/
def cfgRunsCard : Claim7 := { stood := { row := cfgRunsRow, standIns := [], harness := (true, "d8ad8d9058df3f2d1075a94f90b9fc955f4b1bd36fb63668ff2a870dd852cd82"), looks := false }, kinds := [], alts := [], laidByText := true, laidKinds := [.data, .data], laidTests := true, laidLooks := .later }
def CfgRunsCardSaid : Prop := Claim7.holds Tryd.pinned (.plain (OpenSpec.ofChange cfgRunsSpec)) cfgRunsCard

/-- THE SECOND FORM's CARD OF 'ontimelaw24.CfgBuilds'. -/
def cfgBuildsUptoCard : Claim7 := { stood := { row := cfgBuildsUptoRow, standIns := [], harness := (true, "d8ad8d9058df3f2d1075a94f90b9fc955f4b1bd36fb63668ff2a870dd852cd82"), looks := false }, kinds := [], alts := [], laidByText := true, laidKinds := [.data], laidTests := true, laidLooks := .later }
def CfgBuildsUptoCardSaid : Prop := Claim7.holds Tryd.pinned (.plain (OpenSpec.upto cfgBuildsSpec)) cfgBuildsUptoCard

/-- THE SECOND FORM's CARD OF 'ontimelaw24.CfgValid'. -/
def cfgValidUptoCard : Claim7 := { stood := { row := cfgValidUptoRow, standIns := [], harness := (true, "d8ad8d9058df3f2d1075a94f90b9fc955f4b1bd36fb63668ff2a870dd852cd82"), looks := false }, kinds := [], alts := [], laidByText := true, laidKinds := [.data], laidTests := true, laidLooks := .later }
def CfgValidUptoCardSaid : Prop := Claim7.holds Tryd.pinned (.plain (OpenSpec.upto cfgValidSpec)) cfgValidUptoCard

/-- THE SECOND FORM's CARD OF 'ontimelaw24.CfgSound'. -/
def cfgSoundUptoCard : Claim7 := { stood := { row := cfgSoundUptoRow, standIns := [], harness := (true, "d8ad8d9058df3f2d1075a94f90b9fc955f4b1bd36fb63668ff2a870dd852cd82"), looks := false }, kinds := [], alts := [], laidByText := true, laidKinds := [.data], laidTests := true, laidLooks := .later }
def CfgSoundUptoCardSaid : Prop := Claim7.holds Tryd.pinned (.plain (OpenSpec.upto cfgSoundSpec)) cfgSoundUptoCard

/-- THE SECOND FORM's CARD OF 'ontimelaw24.CfgAlone'. -/
def cfgAloneUptoCard : Claim7 := { stood := { row := cfgAloneUptoRow, standIns := [], harness := (true, "d8ad8d9058df3f2d1075a94f90b9fc955f4b1bd36fb63668ff2a870dd852cd82"), looks := false }, kinds := [], alts := [], laidByText := true, laidKinds := [.data], laidTests := true, laidLooks := .later }
def CfgAloneUptoCardSaid : Prop := Claim7.holds Tryd.pinned (.plain (OpenSpec.upto cfgAloneSpec)) cfgAloneUptoCard

/-- THE SECOND FORM's CARD OF 'ontimelaw24.CfgPlain'. -/
def cfgPlainUptoCard : Claim7 := { stood := { row := cfgPlainUptoRow, standIns := [], harness := (true, "d8ad8d9058df3f2d1075a94f90b9fc955f4b1bd36fb63668ff2a870dd852cd82"), looks := false }, kinds := [], alts := [], laidByText := true, laidKinds := [.data], laidTests := true, laidLooks := .later }
def CfgPlainUptoCardSaid : Prop := Claim7.holds Tryd.pinned (.plain (OpenSpec.upto cfgPlainSpec)) cfgPlainUptoCard

/-- THE SECOND FORM's CARD OF 'ontimelaw24.CfgQueries'. -/
def cfgQueriesUptoCard : Claim7 := { stood := { row := cfgQueriesUptoRow, standIns := [], harness := (true, "d8ad8d9058df3f2d1075a94f90b9fc955f4b1bd36fb63668ff2a870dd852cd82"), looks := false }, kinds := [], alts := [], laidByText := true, laidKinds := [.data], laidTests := true, laidLooks := .later }
def CfgQueriesUptoCardSaid : Prop := Claim7.holds Tryd.pinned (.plain (OpenSpec.upto cfgQueriesSpec)) cfgQueriesUptoCard

/-- THE SECOND FORM's CARD OF 'ontimelaw24.CfgRuns'. -/
def cfgRunsUptoCard : Claim7 := { stood := { row := cfgRunsUptoRow, standIns := [], harness := (true, "d8ad8d9058df3f2d1075a94f90b9fc955f4b1bd36fb63668ff2a870dd852cd82"), looks := false }, kinds := [], alts := [], laidByText := true, laidKinds := [.data, .data], laidTests := true, laidLooks := .later }
def CfgRunsUptoCardSaid : Prop := Claim7.holds Tryd.pinned (.plain (OpenSpec.upto cfgRunsSpec)) cfgRunsUptoCard
end Rows
end Go.Proofs.YtfceodpdipniaaaDoor
