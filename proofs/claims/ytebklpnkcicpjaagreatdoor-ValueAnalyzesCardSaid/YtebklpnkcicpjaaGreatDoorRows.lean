/-
  NARROWER THAN 'FOR EVERY INPUT', by the rows' own cells (each row's printed sentence says how): ValueAnalyzes: laid · ValueEffects: laid.
  DERIVED. THE GIVEN ROWS OF THIS SEAT. 2 by the template 'for every input the law returns true; each argument reads behind the call as it read before'; 0 by the template 'total and deterministic' (their statements: YtebklpnkcicpjaaGreatDoorTotals.lean).
  GIVEN WITH THE SEED: the statements are not yours to turn. If you find one false, say at which input.
  Laid BY PROGRAM, IN A SANDBOX (cutbox-rows.mjs): the forced cells as the released guide's own fill.sh prints them over the translation e31466ab26d5cbc9… (all of the seat's roots in one cut). By AI agents, Wed Nov 11 2026. No macro, syntax, notation, axiom, sorry.
-/
import Derived.Test.YtebklpnkcicpjaaGreatDoorChecked
import GoSem.Claim
import GoSem.ClaimJoined
import GoSem.ClaimMapViews
import Derived.JoinedTies
import Derived.KernelRfl
namespace Go.Proofs.YtebklpnkcicpjaaGreatDoor
/- THE CELL 'sum', in the pinned program and in every row, IS THE sha256 OF THE DUMP (.gsa) THAT YtebklpnkcicpjaaGreatDoorProg.lean LOADS. Nothing in Lean hashes anything: it is a label: what it is worth is what the hold of that sum in a sandbox is worth. -/
noncomputable def Tryz.pinned : Pinned := { name := "ytebklpnkcicpjaagreatdoor", sum := "e31466ab26d5cbc95c1f9d41f710d15c690206c1990624c9d53d6fefa608c73d", checked := Tryz.checked }
namespace Rows
def none {H : Type} : Left H := { results := [], args := [] }

/- WHAT THE LISTED PACKAGE-LEVEL VARIABLES READ AS WHEN THE CALL BEGINS. Each datum BY PROGRAM (the guide's laid-datum.mjs) off the statement by which the dump's own 'gosem.cut.vars' lays the variable. In a bare row this is a premise. The card (YtebklpnkcicpjaaGreatDoorCards.lean) ties it to the program's text. -/
def laid_ontime_isa_formats {H : Type} : DataW H := .agg [.agg [.lit (.string [110, 111, 112]), .lit (.string []), .lit (.string []), .lit (.bool false), .lit (.int .i64 0), .lit (.int .i64 0)], .agg [.lit (.string [104, 97, 108, 116]), .lit (.string []), .lit (.string []), .lit (.bool false), .lit (.int .i64 0), .lit (.int .i64 0)], .agg [.lit (.string [97, 100, 100]), .lit (.string [65, 66, 67]), .lit (.string [66, 67]), .lit (.bool true), .lit (.int .i64 0), .lit (.int .i64 0)], .agg [.lit (.string [115, 117, 98]), .lit (.string [65, 66, 67]), .lit (.string [66, 67]), .lit (.bool true), .lit (.int .i64 0), .lit (.int .i64 0)], .agg [.lit (.string [109, 117, 108]), .lit (.string [65, 66, 67]), .lit (.string [66, 67]), .lit (.bool true), .lit (.int .i64 0), .lit (.int .i64 0)], .agg [.lit (.string [100, 105, 118]), .lit (.string [65, 66, 67]), .lit (.string [66, 67]), .lit (.bool true), .lit (.int .i64 0), .lit (.int .i64 0)], .agg [.lit (.string [109, 111, 100]), .lit (.string [65, 66, 67]), .lit (.string [66, 67]), .lit (.bool true), .lit (.int .i64 0), .lit (.int .i64 0)], .agg [.lit (.string [97, 110, 100]), .lit (.string [65, 66, 67]), .lit (.string [66, 67]), .lit (.bool true), .lit (.int .i64 0), .lit (.int .i64 0)], .agg [.lit (.string [111, 114]), .lit (.string [65, 66, 67]), .lit (.string [66, 67]), .lit (.bool true), .lit (.int .i64 0), .lit (.int .i64 0)], .agg [.lit (.string [120, 111, 114]), .lit (.string [65, 66, 67]), .lit (.string [66, 67]), .lit (.bool true), .lit (.int .i64 0), .lit (.int .i64 0)], .agg [.lit (.string [115, 104, 108]), .lit (.string [65, 66, 67]), .lit (.string [66, 67]), .lit (.bool true), .lit (.int .i64 0), .lit (.int .i64 0)], .agg [.lit (.string [115, 104, 114]), .lit (.string [65, 66, 67]), .lit (.string [66, 67]), .lit (.bool true), .lit (.int .i64 0), .lit (.int .i64 0)], .agg [.lit (.string [101, 113]), .lit (.string [65, 66, 67]), .lit (.string [66, 67]), .lit (.bool true), .lit (.int .i64 0), .lit (.int .i64 0)], .agg [.lit (.string [108, 116]), .lit (.string [65, 66, 67]), .lit (.string [66, 67]), .lit (.bool true), .lit (.int .i64 0), .lit (.int .i64 0)], .agg [.lit (.string [108, 105]), .lit (.string [65, 73]), .lit (.string []), .lit (.bool true), .lit (.int .i64 (-131072)), .lit (.int .i64 131071)], .agg [.lit (.string [97, 100, 100, 105]), .lit (.string [65, 66, 73]), .lit (.string [66]), .lit (.bool true), .lit (.int .i64 (-131072)), .lit (.int .i64 131071)], .agg [.lit (.string [115, 104, 108, 105]), .lit (.string [65, 66, 73]), .lit (.string [66]), .lit (.bool true), .lit (.int .i64 0), .lit (.int .i64 31)], .agg [.lit (.string [111, 114, 105]), .lit (.string [65, 66, 73]), .lit (.string [66]), .lit (.bool true), .lit (.int .i64 0), .lit (.int .i64 16383)], .agg [.lit (.string [108, 100]), .lit (.string [65, 66, 73]), .lit (.string [66]), .lit (.bool true), .lit (.int .i64 (-131072)), .lit (.int .i64 131071)], .agg [.lit (.string [115, 116]), .lit (.string [65, 66, 73]), .lit (.string [65, 66]), .lit (.bool false), .lit (.int .i64 (-131072)), .lit (.int .i64 131071)], .agg [.lit (.string [108, 100, 115]), .lit (.string [65, 66, 73]), .lit (.string [66]), .lit (.bool true), .lit (.int .i64 (-131072)), .lit (.int .i64 131071)], .agg [.lit (.string [115, 116, 115]), .lit (.string [65, 66, 73]), .lit (.string [65, 66]), .lit (.bool false), .lit (.int .i64 (-131072)), .lit (.int .i64 131071)], .agg [.lit (.string [98, 101, 113, 122]), .lit (.string [65, 73]), .lit (.string [65]), .lit (.bool false), .lit (.int .i64 (-131072)), .lit (.int .i64 131071)], .agg [.lit (.string [98, 110, 101, 122]), .lit (.string [65, 73]), .lit (.string [65]), .lit (.bool false), .lit (.int .i64 (-131072)), .lit (.int .i64 131071)], .agg [.lit (.string [106, 109, 112]), .lit (.string [73]), .lit (.string []), .lit (.bool false), .lit (.int .i64 (-131072)), .lit (.int .i64 131071)], .agg [.lit (.string [98, 111, 117, 110, 100]), .lit (.string [65, 73]), .lit (.string [65]), .lit (.bool false), .lit (.int .i64 1), .lit (.int .i64 131071)], .agg [.lit (.string [105, 110]), .lit (.string [65, 73]), .lit (.string []), .lit (.bool true), .lit (.int .i64 0), .lit (.int .i64 7)], .agg [.lit (.string [111, 117, 116]), .lit (.string [65, 73]), .lit (.string [65]), .lit (.bool false), .lit (.int .i64 0), .lit (.int .i64 7)], .agg [.lit (.string [108, 111, 99, 107]), .lit (.string [73]), .lit (.string []), .lit (.bool false), .lit (.int .i64 0), .lit (.int .i64 3)], .agg [.lit (.string [117, 110, 108, 111, 99, 107]), .lit (.string [73]), .lit (.string []), .lit (.bool false), .lit (.int .i64 0), .lit (.int .i64 3)]]

/-- 'ontimelaw28.ValueAnalyzes': WHATEVER THE INPUT: true; the input reads as it did. -/
def valueAnalyzesSpec : ChangeSpec := { name := "valueAnalyzes", fn := fun _ => fun
  | [d1, d2] => { results := [.lit (.bool true)], args := [d1, d2] }
  | _ => none }
def valueAnalyzesRow : OpenClaim := { program := "ytebklpnkcicpjaagreatdoor", sum := "e31466ab26d5cbc95c1f9d41f710d15c690206c1990624c9d53d6fefa608c73d", func := "ontime/ontimelaw28.ValueAnalyzes", spec := "valueAnalyzes", inPlace := ["internal/bytealg.IndexByteString"], unfollowed := true, recurses := true, named := ["ontime/isa.formats"], apart := false, laid := [("ontime/isa.formats", laid_ontime_isa_formats)] }
def ValueAnalyzesSaid : Prop := valueAnalyzesRow.holds Tryz.pinned (OpenSpec.ofChange valueAnalyzesSpec)

/-- ITS FALSE NEIGHBOUR: 'it returns false'. Refute it at one input. -/
def valueAnalyzesWrong : ChangeSpec := { name := "valueAnalyzes", fn := fun _ => fun
  | [d1, d2] => { results := [.lit (.bool false)], args := [d1, d2] }
  | _ => none }
def ValueAnalyzesWrongFalsely : Prop := valueAnalyzesRow.holds Tryz.pinned (OpenSpec.ofChange valueAnalyzesWrong)

/-- 'ontimelaw28.ValueEffects': WHATEVER THE INPUT: true; the input reads as it did. -/
def valueEffectsSpec : ChangeSpec := { name := "valueEffects", fn := fun _ => fun
  | [d1, d2, d3] => { results := [.lit (.bool true)], args := [d1, d2, d3] }
  | _ => none }
def valueEffectsRow : OpenClaim := { program := "ytebklpnkcicpjaagreatdoor", sum := "e31466ab26d5cbc95c1f9d41f710d15c690206c1990624c9d53d6fefa608c73d", func := "ontime/ontimelaw28.ValueEffects", spec := "valueEffects", inPlace := ["internal/bytealg.IndexByteString"], unfollowed := true, recurses := true, named := ["ontime/isa.formats"], apart := false, laid := [("ontime/isa.formats", laid_ontime_isa_formats)] }
def ValueEffectsSaid : Prop := valueEffectsRow.holds Tryz.pinned (OpenSpec.ofChange valueEffectsSpec)

/-- ITS FALSE NEIGHBOUR: 'it returns false'. Refute it at one input. -/
def valueEffectsWrong : ChangeSpec := { name := "valueEffects", fn := fun _ => fun
  | [d1, d2, d3] => { results := [.lit (.bool false)], args := [d1, d2, d3] }
  | _ => none }
def ValueEffectsWrongFalsely : Prop := valueEffectsRow.holds Tryz.pinned (OpenSpec.ofChange valueEffectsWrong)

/- THE SECOND FORM. 'bulk': how many values and letters a reading holds, each counted each time it is reached (what is shared counts as often as it is met; a slice's spare places count too). A statement '..UptoSaid' is the law's where the arguments, and the package variables that the reading takes, are together of bulk at most 1048576: NARROWER than '..Said'. Prove '..Said' where nothing that the law and all that it calls make is longer than what came in: it says more and counts as full. Else prove '..UptoSaid'. A law counts once. -/
mutual
def uptoBulk {H : Type} : DataW H → Nat
  | .lit (.string bytes) => bytes.length + 1
  | .lit _ => 1
  | .nil => 1
  | .ptr d => uptoBulk d + 1
  | .slice elems spare => uptoBulkAll elems + uptoBulkAll spare + 1
  | .agg parts => uptoBulkAll parts + 1
  | .iface _ d => uptoBulk d + 1
  | .map entries => uptoBulkEntries entries + 1
  | .held _ => 1
def uptoBulkAll {H : Type} : List (DataW H) → Nat
  | [] => 0
  | d :: r => uptoBulk d + uptoBulkAll r
def uptoBulkEntries {H : Type} : List (Lit × DataW H) → Nat
  | [] => 0
  | x :: r => uptoBulkEntry x + uptoBulkEntries r
def uptoBulkEntry {H : Type} : Lit × DataW H → Nat
  | (.string bytes, d) => bytes.length + uptoBulk d + 1
  | (_, d) => uptoBulk d + 1
 end
def uptoSmall : (H : Type) → List (DataW H) → Bool := fun _ ds => decide (uptoBulkAll ds ≤ 1048576)
def OpenSpec.upto (s : _root_.Go.ChangeSpec) : _root_.Go.OpenSpec := { _root_.Go.OpenSpec.ofChange s with cond := some uptoSmall }

/-- 'ontimelaw28.ValueAnalyzes', WHERE WHAT IT READS IS OF BULK AT MOST 1048576: true; the input reads as it did. -/
def valueAnalyzesUptoRow : OpenClaim := { program := "ytebklpnkcicpjaagreatdoor", sum := "e31466ab26d5cbc95c1f9d41f710d15c690206c1990624c9d53d6fefa608c73d", func := "ontime/ontimelaw28.ValueAnalyzes", spec := "valueAnalyzes", inPlace := ["internal/bytealg.IndexByteString"], unfollowed := true, recurses := true, named := ["ontime/isa.formats"], apart := false, laid := [("ontime/isa.formats", laid_ontime_isa_formats)], narrowed := true }
def ValueAnalyzesUptoSaid : Prop := valueAnalyzesUptoRow.holds Tryz.pinned (OpenSpec.upto valueAnalyzesSpec)

/-- 'ontimelaw28.ValueEffects', WHERE WHAT IT READS IS OF BULK AT MOST 1048576: true; the input reads as it did. -/
def valueEffectsUptoRow : OpenClaim := { program := "ytebklpnkcicpjaagreatdoor", sum := "e31466ab26d5cbc95c1f9d41f710d15c690206c1990624c9d53d6fefa608c73d", func := "ontime/ontimelaw28.ValueEffects", spec := "valueEffects", inPlace := ["internal/bytealg.IndexByteString"], unfollowed := true, recurses := true, named := ["ontime/isa.formats"], apart := false, laid := [("ontime/isa.formats", laid_ontime_isa_formats)], narrowed := true }
def ValueEffectsUptoSaid : Prop := valueEffectsUptoRow.holds Tryz.pinned (OpenSpec.upto valueEffectsSpec)

end Rows
end Go.Proofs.YtebklpnkcicpjaaGreatDoor
