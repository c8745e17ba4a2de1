/-
  NARROWER THAN 'FOR EVERY INPUT', by the rows' own cells (each row's printed sentence says how): CfgBuilds: laid · CfgValid: laid · CfgSound: laid · CfgAlone: laid · CfgPlain: laid · CfgQueries: laid · CfgRuns: laid.
  DERIVED. THE GIVEN ROWS OF THIS SEAT. 7 by the template 'for every input the law returns true; each argument reads behind the call as it read before'; 0 by the template 'total and deterministic' (their statements: YtfceodpdipniaaaDoorTotals.lean).
  GIVEN WITH THE SEED: the statements are not yours to turn. If you find one false, say at which input.
  Laid BY PROGRAM, IN A SANDBOX (cutbox-rows.mjs): the forced cells as the released guide's own fill.sh prints them over the translation 2a423de41293d19c… (all of the seat's roots in one cut). By AI agents, Wed Nov 11 2026. No macro, syntax, notation, axiom, sorry.
-/
import Derived.Test.YtfceodpdipniaaaDoorChecked
import GoSem.Claim
import GoSem.ClaimJoined
import GoSem.ClaimMapViews
import Derived.JoinedTies
import Derived.KernelRfl
namespace Go.Proofs.YtfceodpdipniaaaDoor
/- THE CELL 'sum', in the pinned program and in every row, IS THE sha256 OF THE DUMP (.gsa) THAT YtfceodpdipniaaaDoorProg.lean LOADS. Nothing in Lean hashes anything: it is a label: what it is worth is what the hold of that sum in a sandbox is worth. -/
noncomputable def Tryd.pinned : Pinned := { name := "ytfceodpdipniaaadoor", sum := "2a423de41293d19c97dfb346a1d0354a3ccc7b3ae7cb200602250df39819d1c9", checked := Tryd.checked }
namespace Rows
def none {H : Type} : Left H := { results := [], args := [] }

/- WHAT THE LISTED PACKAGE-LEVEL VARIABLES READ AS WHEN THE CALL BEGINS. Each datum BY PROGRAM (the guide's laid-datum.mjs) off the statement by which the dump's own 'gosem.cut.vars' lays the variable. In a bare row this is a premise. The card (YtfceodpdipniaaaDoorCards.lean) ties it to the program's text. -/
def laid_ontime_isa_formats {H : Type} : DataW H := .agg [.agg [.lit (.string [110, 111, 112]), .lit (.string []), .lit (.string []), .lit (.bool false), .lit (.int .i64 0), .lit (.int .i64 0)], .agg [.lit (.string [104, 97, 108, 116]), .lit (.string []), .lit (.string []), .lit (.bool false), .lit (.int .i64 0), .lit (.int .i64 0)], .agg [.lit (.string [97, 100, 100]), .lit (.string [65, 66, 67]), .lit (.string [66, 67]), .lit (.bool true), .lit (.int .i64 0), .lit (.int .i64 0)], .agg [.lit (.string [115, 117, 98]), .lit (.string [65, 66, 67]), .lit (.string [66, 67]), .lit (.bool true), .lit (.int .i64 0), .lit (.int .i64 0)], .agg [.lit (.string [109, 117, 108]), .lit (.string [65, 66, 67]), .lit (.string [66, 67]), .lit (.bool true), .lit (.int .i64 0), .lit (.int .i64 0)], .agg [.lit (.string [100, 105, 118]), .lit (.string [65, 66, 67]), .lit (.string [66, 67]), .lit (.bool true), .lit (.int .i64 0), .lit (.int .i64 0)], .agg [.lit (.string [109, 111, 100]), .lit (.string [65, 66, 67]), .lit (.string [66, 67]), .lit (.bool true), .lit (.int .i64 0), .lit (.int .i64 0)], .agg [.lit (.string [97, 110, 100]), .lit (.string [65, 66, 67]), .lit (.string [66, 67]), .lit (.bool true), .lit (.int .i64 0), .lit (.int .i64 0)], .agg [.lit (.string [111, 114]), .lit (.string [65, 66, 67]), .lit (.string [66, 67]), .lit (.bool true), .lit (.int .i64 0), .lit (.int .i64 0)], .agg [.lit (.string [120, 111, 114]), .lit (.string [65, 66, 67]), .lit (.string [66, 67]), .lit (.bool true), .lit (.int .i64 0), .lit (.int .i64 0)], .agg [.lit (.string [115, 104, 108]), .lit (.string [65, 66, 67]), .lit (.string [66, 67]), .lit (.bool true), .lit (.int .i64 0), .lit (.int .i64 0)], .agg [.lit (.string [115, 104, 114]), .lit (.string [65, 66, 67]), .lit (.string [66, 67]), .lit (.bool true), .lit (.int .i64 0), .lit (.int .i64 0)], .agg [.lit (.string [101, 113]), .lit (.string [65, 66, 67]), .lit (.string [66, 67]), .lit (.bool true), .lit (.int .i64 0), .lit (.int .i64 0)], .agg [.lit (.string [108, 116]), .lit (.string [65, 66, 67]), .lit (.string [66, 67]), .lit (.bool true), .lit (.int .i64 0), .lit (.int .i64 0)], .agg [.lit (.string [108, 105]), .lit (.string [65, 73]), .lit (.string []), .lit (.bool true), .lit (.int .i64 (-131072)), .lit (.int .i64 131071)], .agg [.lit (.string [97, 100, 100, 105]), .lit (.string [65, 66, 73]), .lit (.string [66]), .lit (.bool true), .lit (.int .i64 (-131072)), .lit (.int .i64 131071)], .agg [.lit (.string [115, 104, 108, 105]), .lit (.string [65, 66, 73]), .lit (.string [66]), .lit (.bool true), .lit (.int .i64 0), .lit (.int .i64 31)], .agg [.lit (.string [111, 114, 105]), .lit (.string [65, 66, 73]), .lit (.string [66]), .lit (.bool true), .lit (.int .i64 0), .lit (.int .i64 16383)], .agg [.lit (.string [108, 100]), .lit (.string [65, 66, 73]), .lit (.string [66]), .lit (.bool true), .lit (.int .i64 (-131072)), .lit (.int .i64 131071)], .agg [.lit (.string [115, 116]), .lit (.string [65, 66, 73]), .lit (.string [65, 66]), .lit (.bool false), .lit (.int .i64 (-131072)), .lit (.int .i64 131071)], .agg [.lit (.string [108, 100, 115]), .lit (.string [65, 66, 73]), .lit (.string [66]), .lit (.bool true), .lit (.int .i64 (-131072)), .lit (.int .i64 131071)], .agg [.lit (.string [115, 116, 115]), .lit (.string [65, 66, 73]), .lit (.string [65, 66]), .lit (.bool false), .lit (.int .i64 (-131072)), .lit (.int .i64 131071)], .agg [.lit (.string [98, 101, 113, 122]), .lit (.string [65, 73]), .lit (.string [65]), .lit (.bool false), .lit (.int .i64 (-131072)), .lit (.int .i64 131071)], .agg [.lit (.string [98, 110, 101, 122]), .lit (.string [65, 73]), .lit (.string [65]), .lit (.bool false), .lit (.int .i64 (-131072)), .lit (.int .i64 131071)], .agg [.lit (.string [106, 109, 112]), .lit (.string [73]), .lit (.string []), .lit (.bool false), .lit (.int .i64 (-131072)), .lit (.int .i64 131071)], .agg [.lit (.string [98, 111, 117, 110, 100]), .lit (.string [65, 73]), .lit (.string [65]), .lit (.bool false), .lit (.int .i64 1), .lit (.int .i64 131071)], .agg [.lit (.string [105, 110]), .lit (.string [65, 73]), .lit (.string []), .lit (.bool true), .lit (.int .i64 0), .lit (.int .i64 7)], .agg [.lit (.string [111, 117, 116]), .lit (.string [65, 73]), .lit (.string [65]), .lit (.bool false), .lit (.int .i64 0), .lit (.int .i64 7)], .agg [.lit (.string [108, 111, 99, 107]), .lit (.string [73]), .lit (.string []), .lit (.bool false), .lit (.int .i64 0), .lit (.int .i64 3)], .agg [.lit (.string [117, 110, 108, 111, 99, 107]), .lit (.string [73]), .lit (.string []), .lit (.bool false), .lit (.int .i64 0), .lit (.int .i64 3)]]
def laid_ontime_core_operators {H : Type} : DataW H := .agg [.lit (.int .u8 0), .lit (.int .u8 0), .lit (.int .u8 6), .lit (.int .u8 7), .lit (.int .u8 8), .lit (.int .u8 9), .lit (.int .u8 10), .lit (.int .u8 11), .lit (.int .u8 12), .lit (.int .u8 13), .lit (.int .u8 14), .lit (.int .u8 15), .lit (.int .u8 16), .lit (.int .u8 18), .lit (.int .u8 0), .lit (.int .u8 0), .lit (.int .u8 0), .lit (.int .u8 0), .lit (.int .u8 0), .lit (.int .u8 0), .lit (.int .u8 0), .lit (.int .u8 0), .lit (.int .u8 0), .lit (.int .u8 0), .lit (.int .u8 0), .lit (.int .u8 0), .lit (.int .u8 0), .lit (.int .u8 0), .lit (.int .u8 0), .lit (.int .u8 0)]

/-- 'ontimelaw24.CfgBuilds': WHATEVER THE INPUT: true; the input reads as it did. -/
def cfgBuildsSpec : ChangeSpec := { name := "cfgBuilds", fn := fun _ => fun
  | [d1, d2] => { results := [.lit (.bool true)], args := [d1, d2] }
  | _ => none }
def cfgBuildsRow : OpenClaim := { program := "ytfceodpdipniaaadoor", sum := "2a423de41293d19c97dfb346a1d0354a3ccc7b3ae7cb200602250df39819d1c9", func := "ontime/ontimelaw24.CfgBuilds", spec := "cfgBuilds", inPlace := ["internal/bytealg.IndexByteString"], unfollowed := true, recurses := true, named := ["ontime/isa.formats"], apart := false, laid := [("ontime/isa.formats", laid_ontime_isa_formats)] }
def CfgBuildsSaid : Prop := cfgBuildsRow.holds Tryd.pinned (OpenSpec.ofChange cfgBuildsSpec)

/-- ITS FALSE NEIGHBOUR: 'it returns false'. Refute it at one input. -/
def cfgBuildsWrong : ChangeSpec := { name := "cfgBuilds", fn := fun _ => fun
  | [d1, d2] => { results := [.lit (.bool false)], args := [d1, d2] }
  | _ => none }
def CfgBuildsWrongFalsely : Prop := cfgBuildsRow.holds Tryd.pinned (OpenSpec.ofChange cfgBuildsWrong)

/-- 'ontimelaw24.CfgValid': WHATEVER THE INPUT: true; the input reads as it did. -/
def cfgValidSpec : ChangeSpec := { name := "cfgValid", fn := fun _ => fun
  | [d] => { results := [.lit (.bool true)], args := [d] }
  | _ => none }
def cfgValidRow : OpenClaim := { program := "ytfceodpdipniaaadoor", sum := "2a423de41293d19c97dfb346a1d0354a3ccc7b3ae7cb200602250df39819d1c9", func := "ontime/ontimelaw24.CfgValid", spec := "cfgValid", inPlace := ["internal/bytealg.IndexByteString"], unfollowed := true, recurses := true, named := ["ontime/isa.formats"], apart := false, laid := [("ontime/isa.formats", laid_ontime_isa_formats)] }
def CfgValidSaid : Prop := cfgValidRow.holds Tryd.pinned (OpenSpec.ofChange cfgValidSpec)

/-- ITS FALSE NEIGHBOUR: 'it returns false'. Refute it at one input. -/
def cfgValidWrong : ChangeSpec := { name := "cfgValid", fn := fun _ => fun
  | [d] => { results := [.lit (.bool false)], args := [d] }
  | _ => none }
def CfgValidWrongFalsely : Prop := cfgValidRow.holds Tryd.pinned (OpenSpec.ofChange cfgValidWrong)

/-- 'ontimelaw24.CfgSound': WHATEVER THE INPUT: true; the input reads as it did. -/
def cfgSoundSpec : ChangeSpec := { name := "cfgSound", fn := fun _ => fun
  | [d1, d2] => { results := [.lit (.bool true)], args := [d1, d2] }
  | _ => none }
def cfgSoundRow : OpenClaim := { program := "ytfceodpdipniaaadoor", sum := "2a423de41293d19c97dfb346a1d0354a3ccc7b3ae7cb200602250df39819d1c9", func := "ontime/ontimelaw24.CfgSound", spec := "cfgSound", inPlace := ["internal/bytealg.IndexByteString"], unfollowed := true, recurses := true, named := ["ontime/isa.formats"], apart := false, laid := [("ontime/isa.formats", laid_ontime_isa_formats)] }
def CfgSoundSaid : Prop := cfgSoundRow.holds Tryd.pinned (OpenSpec.ofChange cfgSoundSpec)

/-- ITS FALSE NEIGHBOUR: 'it returns false'. Refute it at one input. -/
def cfgSoundWrong : ChangeSpec := { name := "cfgSound", fn := fun _ => fun
  | [d1, d2] => { results := [.lit (.bool false)], args := [d1, d2] }
  | _ => none }
def CfgSoundWrongFalsely : Prop := cfgSoundRow.holds Tryd.pinned (OpenSpec.ofChange cfgSoundWrong)

/-- 'ontimelaw24.CfgAlone': WHATEVER THE INPUT: true; the input reads as it did. -/
def cfgAloneSpec : ChangeSpec := { name := "cfgAlone", fn := fun _ => fun
  | [d1, d2, d3] => { results := [.lit (.bool true)], args := [d1, d2, d3] }
  | _ => none }
def cfgAloneRow : OpenClaim := { program := "ytfceodpdipniaaadoor", sum := "2a423de41293d19c97dfb346a1d0354a3ccc7b3ae7cb200602250df39819d1c9", func := "ontime/ontimelaw24.CfgAlone", spec := "cfgAlone", inPlace := ["internal/bytealg.IndexByteString"], unfollowed := true, recurses := true, named := ["ontime/isa.formats"], apart := false, laid := [("ontime/isa.formats", laid_ontime_isa_formats)] }
def CfgAloneSaid : Prop := cfgAloneRow.holds Tryd.pinned (OpenSpec.ofChange cfgAloneSpec)

/-- ITS FALSE NEIGHBOUR: 'it returns false'. Refute it at one input. -/
def cfgAloneWrong : ChangeSpec := { name := "cfgAlone", fn := fun _ => fun
  | [d1, d2, d3] => { results := [.lit (.bool false)], args := [d1, d2, d3] }
  | _ => none }
def CfgAloneWrongFalsely : Prop := cfgAloneRow.holds Tryd.pinned (OpenSpec.ofChange cfgAloneWrong)

/-- 'ontimelaw24.CfgPlain': WHATEVER THE INPUT: true; the input reads as it did. -/
def cfgPlainSpec : ChangeSpec := { name := "cfgPlain", fn := fun _ => fun
  | [d1, d2] => { results := [.lit (.bool true)], args := [d1, d2] }
  | _ => none }
def cfgPlainRow : OpenClaim := { program := "ytfceodpdipniaaadoor", sum := "2a423de41293d19c97dfb346a1d0354a3ccc7b3ae7cb200602250df39819d1c9", func := "ontime/ontimelaw24.CfgPlain", spec := "cfgPlain", inPlace := ["internal/bytealg.IndexByteString"], unfollowed := true, recurses := true, named := ["ontime/isa.formats"], apart := false, laid := [("ontime/isa.formats", laid_ontime_isa_formats)] }
def CfgPlainSaid : Prop := cfgPlainRow.holds Tryd.pinned (OpenSpec.ofChange cfgPlainSpec)

/-- ITS FALSE NEIGHBOUR: 'it returns false'. Refute it at one input. -/
def cfgPlainWrong : ChangeSpec := { name := "cfgPlain", fn := fun _ => fun
  | [d1, d2] => { results := [.lit (.bool false)], args := [d1, d2] }
  | _ => none }
def CfgPlainWrongFalsely : Prop := cfgPlainRow.holds Tryd.pinned (OpenSpec.ofChange cfgPlainWrong)

/-- 'ontimelaw24.CfgQueries': WHATEVER THE INPUT: true; the input reads as it did. -/
def cfgQueriesSpec : ChangeSpec := { name := "cfgQueries", fn := fun _ => fun
  | [d1, d2] => { results := [.lit (.bool true)], args := [d1, d2] }
  | _ => none }
def cfgQueriesRow : OpenClaim := { program := "ytfceodpdipniaaadoor", sum := "2a423de41293d19c97dfb346a1d0354a3ccc7b3ae7cb200602250df39819d1c9", func := "ontime/ontimelaw24.CfgQueries", spec := "cfgQueries", inPlace := ["internal/bytealg.IndexByteString"], unfollowed := true, recurses := true, named := ["ontime/isa.formats"], apart := false, laid := [("ontime/isa.formats", laid_ontime_isa_formats)] }
def CfgQueriesSaid : Prop := cfgQueriesRow.holds Tryd.pinned (OpenSpec.ofChange cfgQueriesSpec)

/-- ITS FALSE NEIGHBOUR: 'it returns false'. Refute it at one input. -/
def cfgQueriesWrong : ChangeSpec := { name := "cfgQueries", fn := fun _ => fun
  | [d1, d2] => { results := [.lit (.bool false)], args := [d1, d2] }
  | _ => none }
def CfgQueriesWrongFalsely : Prop := cfgQueriesRow.holds Tryd.pinned (OpenSpec.ofChange cfgQueriesWrong)

/-- 'ontimelaw24.CfgRuns': WHATEVER THE INPUT: true; the input reads as it did. -/
def cfgRunsSpec : ChangeSpec := { name := "cfgRuns", fn := fun _ => fun
  | [d1, d2, d3, d4, d5] => { results := [.lit (.bool true)], args := [d1, d2, d3, d4, d5] }
  | _ => none }
def cfgRunsRow : OpenClaim := { program := "ytfceodpdipniaaadoor", sum := "2a423de41293d19c97dfb346a1d0354a3ccc7b3ae7cb200602250df39819d1c9", func := "ontime/ontimelaw24.CfgRuns", spec := "cfgRuns", inPlace := ["internal/bytealg.IndexByteString"], unfollowed := true, recurses := true, named := ["ontime/isa.formats", "ontime/core.operators"], apart := false, laid := [("ontime/isa.formats", laid_ontime_isa_formats), ("ontime/core.operators", laid_ontime_core_operators)] }
def CfgRunsSaid : Prop := cfgRunsRow.holds Tryd.pinned (OpenSpec.ofChange cfgRunsSpec)

/-- ITS FALSE NEIGHBOUR: 'it returns false'. Refute it at one input. -/
def cfgRunsWrong : ChangeSpec := { name := "cfgRuns", fn := fun _ => fun
  | [d1, d2, d3, d4, d5] => { results := [.lit (.bool false)], args := [d1, d2, d3, d4, d5] }
  | _ => none }
def CfgRunsWrongFalsely : Prop := cfgRunsRow.holds Tryd.pinned (OpenSpec.ofChange cfgRunsWrong)

/- THE SECOND FORM. 'bulk': how many values and letters a reading holds, each counted each time it is reached (what is shared counts as often as it is met; a slice's spare places count too). A statement '..UptoSaid' is the law's where the arguments, and the package variables that the reading takes, are together of bulk at most 1048576: NARROWER than '..Said'. Prove '..Said' where nothing that the law and all that it calls make is longer than what came in: it says more and counts as full. Else prove '..UptoSaid'. A law counts once. -/
mutual
def uptoBulk {H : Type} : DataW H → Nat
  | .lit (.string bytes) => bytes.length + 1
  | .lit _ => 1
  | .nil => 1
  | .ptr d => uptoBulk d + 1
  | .slice elems spare => uptoBulkAll elems + uptoBulkAll spare + 1
  | .agg parts => uptoBulkAll parts + 1
  | .iface _ d => uptoBulk d + 1
  | .map entries => uptoBulkEntries entries + 1
  | .held _ => 1
def uptoBulkAll {H : Type} : List (DataW H) → Nat
  | [] => 0
  | d :: r => uptoBulk d + uptoBulkAll r
def uptoBulkEntries {H : Type} : List (Lit × DataW H) → Nat
  | [] => 0
  | x :: r => uptoBulkEntry x + uptoBulkEntries r
def uptoBulkEntry {H : Type} : Lit × DataW H → Nat
  | (.string bytes, d) => bytes.length + uptoBulk d + 1
  | (_, d) => uptoBulk d + 1
 end
def uptoSmall : (H : Type) → List (DataW H) → Bool := fun _ ds => decide (uptoBulkAll ds ≤ 1048576)
def OpenSpec.upto (s : _root_.Go.ChangeSpec) : _root_.Go.OpenSpec := { _root_.Go.OpenSpec.ofChange s with cond := some uptoSmall }

/-- 'ontimelaw24.CfgBuilds', WHERE WHAT IT READS IS OF BULK AT MOST 1048576: true; the input reads as it did. -/
def cfgBuildsUptoRow : OpenClaim := { program := "ytfceodpdipniaaadoor", sum := "2a423de41293d19c97dfb346a1d0354a3ccc7b3ae7cb200602250df39819d1c9", func := "ontime/ontimelaw24.CfgBuilds", spec := "cfgBuilds", inPlace := ["internal/bytealg.IndexByteString"], unfollowed := true, recurses := true, named := ["ontime/isa.formats"], apart := false, laid := [("ontime/isa.formats", laid_ontime_isa_formats)], narrowed := true }
def CfgBuildsUptoSaid : Prop := cfgBuildsUptoRow.holds Tryd.pinned (OpenSpec.upto cfgBuildsSpec)

/-- 'ontimelaw24.CfgValid', WHERE WHAT IT READS IS OF BULK AT MOST 1048576: true; the input reads as it did. -/
def cfgValidUptoRow : OpenClaim := { program := "ytfceodpdipniaaadoor", sum := "2a423de41293d19c97dfb346a1d0354a3ccc7b3ae7cb200602250df39819d1c9", func := "ontime/ontimelaw24.CfgValid", spec := "cfgValid", inPlace := ["internal/bytealg.IndexByteString"], unfollowed := true, recurses := true, named := ["ontime/isa.formats"], apart := false, laid := [("ontime/isa.formats", laid_ontime_isa_formats)], narrowed := true }
def CfgValidUptoSaid : Prop := cfgValidUptoRow.holds Tryd.pinned (OpenSpec.upto cfgValidSpec)

/-- 'ontimelaw24.CfgSound', WHERE WHAT IT READS IS OF BULK AT MOST 1048576: true; the input reads as it did. -/
def cfgSoundUptoRow : OpenClaim := { program := "ytfceodpdipniaaadoor", sum := "2a423de41293d19c97dfb346a1d0354a3ccc7b3ae7cb200602250df39819d1c9", func := "ontime/ontimelaw24.CfgSound", spec := "cfgSound", inPlace := ["internal/bytealg.IndexByteString"], unfollowed := true, recurses := true, named := ["ontime/isa.formats"], apart := false, laid := [("ontime/isa.formats", laid_ontime_isa_formats)], narrowed := true }
def CfgSoundUptoSaid : Prop := cfgSoundUptoRow.holds Tryd.pinned (OpenSpec.upto cfgSoundSpec)

/-- 'ontimelaw24.CfgAlone', WHERE WHAT IT READS IS OF BULK AT MOST 1048576: true; the input reads as it did. -/
def cfgAloneUptoRow : OpenClaim := { program := "ytfceodpdipniaaadoor", sum := "2a423de41293d19c97dfb346a1d0354a3ccc7b3ae7cb200602250df39819d1c9", func := "ontime/ontimelaw24.CfgAlone", spec := "cfgAlone", inPlace := ["internal/bytealg.IndexByteString"], unfollowed := true, recurses := true, named := ["ontime/isa.formats"], apart := false, laid := [("ontime/isa.formats", laid_ontime_isa_formats)], narrowed := true }
def CfgAloneUptoSaid : Prop := cfgAloneUptoRow.holds Tryd.pinned (OpenSpec.upto cfgAloneSpec)

/-- 'ontimelaw24.CfgPlain', WHERE WHAT IT READS IS OF BULK AT MOST 1048576: true; the input reads as it did. -/
def cfgPlainUptoRow : OpenClaim := { program := "ytfceodpdipniaaadoor", sum := "2a423de41293d19c97dfb346a1d0354a3ccc7b3ae7cb200602250df39819d1c9", func := "ontime/ontimelaw24.CfgPlain", spec := "cfgPlain", inPlace := ["internal/bytealg.IndexByteString"], unfollowed := true, recurses := true, named := ["ontime/isa.formats"], apart := false, laid := [("ontime/isa.formats", laid_ontime_isa_formats)], narrowed := true }
def CfgPlainUptoSaid : Prop := cfgPlainUptoRow.holds Tryd.pinned (OpenSpec.upto cfgPlainSpec)

/-- 'ontimelaw24.CfgQueries', WHERE WHAT IT READS IS OF BULK AT MOST 1048576: true; the input reads as it did. -/
def cfgQueriesUptoRow : OpenClaim := { program := "ytfceodpdipniaaadoor", sum := "2a423de41293d19c97dfb346a1d0354a3ccc7b3ae7cb200602250df39819d1c9", func := "ontime/ontimelaw24.CfgQueries", spec := "cfgQueries", inPlace := ["internal/bytealg.IndexByteString"], unfollowed := true, recurses := true, named := ["ontime/isa.formats"], apart := false, laid := [("ontime/isa.formats", laid_ontime_isa_formats)], narrowed := true }
def CfgQueriesUptoSaid : Prop := cfgQueriesUptoRow.holds Tryd.pinned (OpenSpec.upto cfgQueriesSpec)

/-- 'ontimelaw24.CfgRuns', WHERE WHAT IT READS IS OF BULK AT MOST 1048576: true; the input reads as it did. -/
def cfgRunsUptoRow : OpenClaim := { program := "ytfceodpdipniaaadoor", sum := "2a423de41293d19c97dfb346a1d0354a3ccc7b3ae7cb200602250df39819d1c9", func := "ontime/ontimelaw24.CfgRuns", spec := "cfgRuns", inPlace := ["internal/bytealg.IndexByteString"], unfollowed := true, recurses := true, named := ["ontime/isa.formats", "ontime/core.operators"], apart := false, laid := [("ontime/isa.formats", laid_ontime_isa_formats), ("ontime/core.operators", laid_ontime_core_operators)], narrowed := true }
def CfgRunsUptoSaid : Prop := cfgRunsUptoRow.holds Tryd.pinned (OpenSpec.upto cfgRunsSpec)

end Rows
end Go.Proofs.YtfceodpdipniaaaDoor
