/-
  NARROWER THAN 'FOR EVERY INPUT', by the rows' own cells (each row's printed sentence says how): BoundsCounter: laid · BoundsRaw: laid · BoundsFind: laid · BoundsTighter: laid · BoundsMoved: laid · BoundsForm: laid · BoundsHold: laid.
  DERIVED. THE GIVEN ROWS OF THIS SEAT. 7 by the template 'for every input the law returns true; each argument reads behind the call as it read before'; 0 by the template 'total and deterministic' (their statements: YtlmgkipmfgijiaaGreatDoorTotals.lean).
  GIVEN WITH THE SEED: the statements are not yours to turn. If you find one false, say at which input.
  Laid BY PROGRAM, IN A SANDBOX (cutbox-rows.mjs): the forced cells as the released guide's own fill.sh prints them over the translation 8783de7eb38d41f1… (all of the seat's roots in one cut). By AI agents, Wed Nov 11 2026. No macro, syntax, notation, axiom, sorry.
-/
import Derived.Test.YtlmgkipmfgijiaaGreatDoorChecked
import GoSem.Claim
import GoSem.ClaimJoined
import GoSem.ClaimMapViews
import Derived.JoinedTies
import Derived.KernelRfl
namespace Go.Proofs.YtlmgkipmfgijiaaGreatDoor
/- THE CELL 'sum', in the pinned program and in every row, IS THE sha256 OF THE DUMP (.gsa) THAT YtlmgkipmfgijiaaGreatDoorProg.lean LOADS. Nothing in Lean hashes anything: it is a label: what it is worth is what the hold of that sum in a sandbox is worth. -/
noncomputable def Tryz.pinned : Pinned := { name := "ytlmgkipmfgijiaagreatdoor", sum := "8783de7eb38d41f12c243291a3e32ff0b73acaa0644ad45105e79f73bf2cc917", checked := Tryz.checked }
namespace Rows
def none {H : Type} : Left H := { results := [], args := [] }

/- WHAT THE LISTED PACKAGE-LEVEL VARIABLES READ AS WHEN THE CALL BEGINS. Each datum BY PROGRAM (the guide's laid-datum.mjs) off the statement by which the dump's own 'gosem.cut.vars' lays the variable. In a bare row this is a premise. The card (YtlmgkipmfgijiaaGreatDoorCards.lean) ties it to the program's text. -/
def laid_ontime_isa_formats {H : Type} : DataW H := .agg [.agg [.lit (.string [110, 111, 112]), .lit (.string []), .lit (.string []), .lit (.bool false), .lit (.int .i64 0), .lit (.int .i64 0)], .agg [.lit (.string [104, 97, 108, 116]), .lit (.string []), .lit (.string []), .lit (.bool false), .lit (.int .i64 0), .lit (.int .i64 0)], .agg [.lit (.string [97, 100, 100]), .lit (.string [65, 66, 67]), .lit (.string [66, 67]), .lit (.bool true), .lit (.int .i64 0), .lit (.int .i64 0)], .agg [.lit (.string [115, 117, 98]), .lit (.string [65, 66, 67]), .lit (.string [66, 67]), .lit (.bool true), .lit (.int .i64 0), .lit (.int .i64 0)], .agg [.lit (.string [109, 117, 108]), .lit (.string [65, 66, 67]), .lit (.string [66, 67]), .lit (.bool true), .lit (.int .i64 0), .lit (.int .i64 0)], .agg [.lit (.string [100, 105, 118]), .lit (.string [65, 66, 67]), .lit (.string [66, 67]), .lit (.bool true), .lit (.int .i64 0), .lit (.int .i64 0)], .agg [.lit (.string [109, 111, 100]), .lit (.string [65, 66, 67]), .lit (.string [66, 67]), .lit (.bool true), .lit (.int .i64 0), .lit (.int .i64 0)], .agg [.lit (.string [97, 110, 100]), .lit (.string [65, 66, 67]), .lit (.string [66, 67]), .lit (.bool true), .lit (.int .i64 0), .lit (.int .i64 0)], .agg [.lit (.string [111, 114]), .lit (.string [65, 66, 67]), .lit (.string [66, 67]), .lit (.bool true), .lit (.int .i64 0), .lit (.int .i64 0)], .agg [.lit (.string [120, 111, 114]), .lit (.string [65, 66, 67]), .lit (.string [66, 67]), .lit (.bool true), .lit (.int .i64 0), .lit (.int .i64 0)], .agg [.lit (.string [115, 104, 108]), .lit (.string [65, 66, 67]), .lit (.string [66, 67]), .lit (.bool true), .lit (.int .i64 0), .lit (.int .i64 0)], .agg [.lit (.string [115, 104, 114]), .lit (.string [65, 66, 67]), .lit (.string [66, 67]), .lit (.bool true), .lit (.int .i64 0), .lit (.int .i64 0)], .agg [.lit (.string [101, 113]), .lit (.string [65, 66, 67]), .lit (.string [66, 67]), .lit (.bool true), .lit (.int .i64 0), .lit (.int .i64 0)], .agg [.lit (.string [108, 116]), .lit (.string [65, 66, 67]), .lit (.string [66, 67]), .lit (.bool true), .lit (.int .i64 0), .lit (.int .i64 0)], .agg [.lit (.string [108, 105]), .lit (.string [65, 73]), .lit (.string []), .lit (.bool true), .lit (.int .i64 (-131072)), .lit (.int .i64 131071)], .agg [.lit (.string [97, 100, 100, 105]), .lit (.string [65, 66, 73]), .lit (.string [66]), .lit (.bool true), .lit (.int .i64 (-131072)), .lit (.int .i64 131071)], .agg [.lit (.string [115, 104, 108, 105]), .lit (.string [65, 66, 73]), .lit (.string [66]), .lit (.bool true), .lit (.int .i64 0), .lit (.int .i64 31)], .agg [.lit (.string [111, 114, 105]), .lit (.string [65, 66, 73]), .lit (.string [66]), .lit (.bool true), .lit (.int .i64 0), .lit (.int .i64 16383)], .agg [.lit (.string [108, 100]), .lit (.string [65, 66, 73]), .lit (.string [66]), .lit (.bool true), .lit (.int .i64 (-131072)), .lit (.int .i64 131071)], .agg [.lit (.string [115, 116]), .lit (.string [65, 66, 73]), .lit (.string [65, 66]), .lit (.bool false), .lit (.int .i64 (-131072)), .lit (.int .i64 131071)], .agg [.lit (.string [108, 100, 115]), .lit (.string [65, 66, 73]), .lit (.string [66]), .lit (.bool true), .lit (.int .i64 (-131072)), .lit (.int .i64 131071)], .agg [.lit (.string [115, 116, 115]), .lit (.string [65, 66, 73]), .lit (.string [65, 66]), .lit (.bool false), .lit (.int .i64 (-131072)), .lit (.int .i64 131071)], .agg [.lit (.string [98, 101, 113, 122]), .lit (.string [65, 73]), .lit (.string [65]), .lit (.bool false), .lit (.int .i64 (-131072)), .lit (.int .i64 131071)], .agg [.lit (.string [98, 110, 101, 122]), .lit (.string [65, 73]), .lit (.string [65]), .lit (.bool false), .lit (.int .i64 (-131072)), .lit (.int .i64 131071)], .agg [.lit (.string [106, 109, 112]), .lit (.string [73]), .lit (.string []), .lit (.bool false), .lit (.int .i64 (-131072)), .lit (.int .i64 131071)], .agg [.lit (.string [98, 111, 117, 110, 100]), .lit (.string [65, 73]), .lit (.string [65]), .lit (.bool false), .lit (.int .i64 1), .lit (.int .i64 131071)], .agg [.lit (.string [105, 110]), .lit (.string [65, 73]), .lit (.string []), .lit (.bool true), .lit (.int .i64 0), .lit (.int .i64 7)], .agg [.lit (.string [111, 117, 116]), .lit (.string [65, 73]), .lit (.string [65]), .lit (.bool false), .lit (.int .i64 0), .lit (.int .i64 7)], .agg [.lit (.string [108, 111, 99, 107]), .lit (.string [73]), .lit (.string []), .lit (.bool false), .lit (.int .i64 0), .lit (.int .i64 3)], .agg [.lit (.string [117, 110, 108, 111, 99, 107]), .lit (.string [73]), .lit (.string []), .lit (.bool false), .lit (.int .i64 0), .lit (.int .i64 3)]]
def laid_ontime_core_operators {H : Type} : DataW H := .agg [.lit (.int .u8 0), .lit (.int .u8 0), .lit (.int .u8 6), .lit (.int .u8 7), .lit (.int .u8 8), .lit (.int .u8 9), .lit (.int .u8 10), .lit (.int .u8 11), .lit (.int .u8 12), .lit (.int .u8 13), .lit (.int .u8 14), .lit (.int .u8 15), .lit (.int .u8 16), .lit (.int .u8 18), .lit (.int .u8 0), .lit (.int .u8 0), .lit (.int .u8 0), .lit (.int .u8 0), .lit (.int .u8 0), .lit (.int .u8 0), .lit (.int .u8 0), .lit (.int .u8 0), .lit (.int .u8 0), .lit (.int .u8 0), .lit (.int .u8 0), .lit (.int .u8 0), .lit (.int .u8 0), .lit (.int .u8 0), .lit (.int .u8 0), .lit (.int .u8 0)]

/-- 'ontimelaw29.BoundsCounter': WHATEVER THE INPUT: true; the input reads as it did. -/
def boundsCounterSpec : ChangeSpec := { name := "boundsCounter", fn := fun _ => fun
  | [d1, d2, d3] => { results := [.lit (.bool true)], args := [d1, d2, d3] }
  | _ => none }
def boundsCounterRow : OpenClaim := { program := "ytlmgkipmfgijiaagreatdoor", sum := "8783de7eb38d41f12c243291a3e32ff0b73acaa0644ad45105e79f73bf2cc917", func := "ontime/ontimelaw29.BoundsCounter", spec := "boundsCounter", inPlace := ["internal/bytealg.IndexByteString"], unfollowed := true, recurses := true, named := ["ontime/isa.formats"], apart := false, laid := [("ontime/isa.formats", laid_ontime_isa_formats)] }
def BoundsCounterSaid : Prop := boundsCounterRow.holds Tryz.pinned (OpenSpec.ofChange boundsCounterSpec)

/-- ITS FALSE NEIGHBOUR: 'it returns false'. Refute it at one input. -/
def boundsCounterWrong : ChangeSpec := { name := "boundsCounter", fn := fun _ => fun
  | [d1, d2, d3] => { results := [.lit (.bool false)], args := [d1, d2, d3] }
  | _ => none }
def BoundsCounterWrongFalsely : Prop := boundsCounterRow.holds Tryz.pinned (OpenSpec.ofChange boundsCounterWrong)

/-- 'ontimelaw29.BoundsRaw': WHATEVER THE INPUT: true; the input reads as it did. -/
def boundsRawSpec : ChangeSpec := { name := "boundsRaw", fn := fun _ => fun
  | [d1, d2, d3, d4] => { results := [.lit (.bool true)], args := [d1, d2, d3, d4] }
  | _ => none }
def boundsRawRow : OpenClaim := { program := "ytlmgkipmfgijiaagreatdoor", sum := "8783de7eb38d41f12c243291a3e32ff0b73acaa0644ad45105e79f73bf2cc917", func := "ontime/ontimelaw29.BoundsRaw", spec := "boundsRaw", inPlace := ["internal/bytealg.IndexByteString"], unfollowed := true, recurses := true, named := ["ontime/isa.formats"], apart := false, laid := [("ontime/isa.formats", laid_ontime_isa_formats)] }
def BoundsRawSaid : Prop := boundsRawRow.holds Tryz.pinned (OpenSpec.ofChange boundsRawSpec)

/-- ITS FALSE NEIGHBOUR: 'it returns false'. Refute it at one input. -/
def boundsRawWrong : ChangeSpec := { name := "boundsRaw", fn := fun _ => fun
  | [d1, d2, d3, d4] => { results := [.lit (.bool false)], args := [d1, d2, d3, d4] }
  | _ => none }
def BoundsRawWrongFalsely : Prop := boundsRawRow.holds Tryz.pinned (OpenSpec.ofChange boundsRawWrong)

/-- 'ontimelaw29.BoundsFind': WHATEVER THE INPUT: true; the input reads as it did. -/
def boundsFindSpec : ChangeSpec := { name := "boundsFind", fn := fun _ => fun
  | [d1, d2] => { results := [.lit (.bool true)], args := [d1, d2] }
  | _ => none }
def boundsFindRow : OpenClaim := { program := "ytlmgkipmfgijiaagreatdoor", sum := "8783de7eb38d41f12c243291a3e32ff0b73acaa0644ad45105e79f73bf2cc917", func := "ontime/ontimelaw29.BoundsFind", spec := "boundsFind", inPlace := ["internal/bytealg.IndexByteString"], unfollowed := true, recurses := true, named := ["ontime/isa.formats"], apart := false, laid := [("ontime/isa.formats", laid_ontime_isa_formats)] }
def BoundsFindSaid : Prop := boundsFindRow.holds Tryz.pinned (OpenSpec.ofChange boundsFindSpec)

/-- ITS FALSE NEIGHBOUR: 'it returns false'. Refute it at one input. -/
def boundsFindWrong : ChangeSpec := { name := "boundsFind", fn := fun _ => fun
  | [d1, d2] => { results := [.lit (.bool false)], args := [d1, d2] }
  | _ => none }
def BoundsFindWrongFalsely : Prop := boundsFindRow.holds Tryz.pinned (OpenSpec.ofChange boundsFindWrong)

/-- 'ontimelaw29.BoundsTighter': WHATEVER THE INPUT: true; the input reads as it did. -/
def boundsTighterSpec : ChangeSpec := { name := "boundsTighter", fn := fun _ => fun
  | [d1, d2, d3] => { results := [.lit (.bool true)], args := [d1, d2, d3] }
  | _ => none }
def boundsTighterRow : OpenClaim := { program := "ytlmgkipmfgijiaagreatdoor", sum := "8783de7eb38d41f12c243291a3e32ff0b73acaa0644ad45105e79f73bf2cc917", func := "ontime/ontimelaw29.BoundsTighter", spec := "boundsTighter", inPlace := ["internal/bytealg.IndexByteString"], unfollowed := true, recurses := true, named := ["ontime/isa.formats"], apart := false, laid := [("ontime/isa.formats", laid_ontime_isa_formats)] }
def BoundsTighterSaid : Prop := boundsTighterRow.holds Tryz.pinned (OpenSpec.ofChange boundsTighterSpec)

/-- ITS FALSE NEIGHBOUR: 'it returns false'. Refute it at one input. -/
def boundsTighterWrong : ChangeSpec := { name := "boundsTighter", fn := fun _ => fun
  | [d1, d2, d3] => { results := [.lit (.bool false)], args := [d1, d2, d3] }
  | _ => none }
def BoundsTighterWrongFalsely : Prop := boundsTighterRow.holds Tryz.pinned (OpenSpec.ofChange boundsTighterWrong)

/-- 'ontimelaw29.BoundsMoved': WHATEVER THE INPUT: true; the input reads as it did. -/
def boundsMovedSpec : ChangeSpec := { name := "boundsMoved", fn := fun _ => fun
  | [d1, d2] => { results := [.lit (.bool true)], args := [d1, d2] }
  | _ => none }
def boundsMovedRow : OpenClaim := { program := "ytlmgkipmfgijiaagreatdoor", sum := "8783de7eb38d41f12c243291a3e32ff0b73acaa0644ad45105e79f73bf2cc917", func := "ontime/ontimelaw29.BoundsMoved", spec := "boundsMoved", inPlace := ["internal/bytealg.IndexByteString"], unfollowed := true, recurses := true, named := ["ontime/isa.formats"], apart := false, laid := [("ontime/isa.formats", laid_ontime_isa_formats)] }
def BoundsMovedSaid : Prop := boundsMovedRow.holds Tryz.pinned (OpenSpec.ofChange boundsMovedSpec)

/-- ITS FALSE NEIGHBOUR: 'it returns false'. Refute it at one input. -/
def boundsMovedWrong : ChangeSpec := { name := "boundsMoved", fn := fun _ => fun
  | [d1, d2] => { results := [.lit (.bool false)], args := [d1, d2] }
  | _ => none }
def BoundsMovedWrongFalsely : Prop := boundsMovedRow.holds Tryz.pinned (OpenSpec.ofChange boundsMovedWrong)

/-- 'ontimelaw29.BoundsForm': WHATEVER THE INPUT: true; the input reads as it did. -/
def boundsFormSpec : ChangeSpec := { name := "boundsForm", fn := fun _ => fun
  | [d1, d2] => { results := [.lit (.bool true)], args := [d1, d2] }
  | _ => none }
def boundsFormRow : OpenClaim := { program := "ytlmgkipmfgijiaagreatdoor", sum := "8783de7eb38d41f12c243291a3e32ff0b73acaa0644ad45105e79f73bf2cc917", func := "ontime/ontimelaw29.BoundsForm", spec := "boundsForm", inPlace := ["internal/bytealg.IndexByteString"], unfollowed := true, recurses := true, named := ["ontime/isa.formats"], apart := false, laid := [("ontime/isa.formats", laid_ontime_isa_formats)] }
def BoundsFormSaid : Prop := boundsFormRow.holds Tryz.pinned (OpenSpec.ofChange boundsFormSpec)

/-- ITS FALSE NEIGHBOUR: 'it returns false'. Refute it at one input. -/
def boundsFormWrong : ChangeSpec := { name := "boundsForm", fn := fun _ => fun
  | [d1, d2] => { results := [.lit (.bool false)], args := [d1, d2] }
  | _ => none }
def BoundsFormWrongFalsely : Prop := boundsFormRow.holds Tryz.pinned (OpenSpec.ofChange boundsFormWrong)

/-- 'ontimelaw29.BoundsHold': WHATEVER THE INPUT: true; the input reads as it did. -/
def boundsHoldSpec : ChangeSpec := { name := "boundsHold", fn := fun _ => fun
  | [d1, d2, d3, d4, d5] => { results := [.lit (.bool true)], args := [d1, d2, d3, d4, d5] }
  | _ => none }
def boundsHoldRow : OpenClaim := { program := "ytlmgkipmfgijiaagreatdoor", sum := "8783de7eb38d41f12c243291a3e32ff0b73acaa0644ad45105e79f73bf2cc917", func := "ontime/ontimelaw29.BoundsHold", spec := "boundsHold", inPlace := ["internal/bytealg.IndexByteString"], unfollowed := true, recurses := true, named := ["ontime/isa.formats", "ontime/core.operators"], apart := false, laid := [("ontime/isa.formats", laid_ontime_isa_formats), ("ontime/core.operators", laid_ontime_core_operators)] }
def BoundsHoldSaid : Prop := boundsHoldRow.holds Tryz.pinned (OpenSpec.ofChange boundsHoldSpec)

/-- ITS FALSE NEIGHBOUR: 'it returns false'. Refute it at one input. -/
def boundsHoldWrong : ChangeSpec := { name := "boundsHold", fn := fun _ => fun
  | [d1, d2, d3, d4, d5] => { results := [.lit (.bool false)], args := [d1, d2, d3, d4, d5] }
  | _ => none }
def BoundsHoldWrongFalsely : Prop := boundsHoldRow.holds Tryz.pinned (OpenSpec.ofChange boundsHoldWrong)

/- THE SECOND FORM. 'bulk': how many values and letters a reading holds, each counted each time it is reached (what is shared counts as often as it is met; a slice's spare places count too). A statement '..UptoSaid' is the law's where the arguments, and the package variables that the reading takes, are together of bulk at most 1048576: NARROWER than '..Said'. Prove '..Said' where nothing that the law and all that it calls make is longer than what came in: it says more and counts as full. Else prove '..UptoSaid'. A law counts once. -/
mutual
def uptoBulk {H : Type} : DataW H → Nat
  | .lit (.string bytes) => bytes.length + 1
  | .lit _ => 1
  | .nil => 1
  | .ptr d => uptoBulk d + 1
  | .slice elems spare => uptoBulkAll elems + uptoBulkAll spare + 1
  | .agg parts => uptoBulkAll parts + 1
  | .iface _ d => uptoBulk d + 1
  | .map entries => uptoBulkEntries entries + 1
  | .held _ => 1
def uptoBulkAll {H : Type} : List (DataW H) → Nat
  | [] => 0
  | d :: r => uptoBulk d + uptoBulkAll r
def uptoBulkEntries {H : Type} : List (Lit × DataW H) → Nat
  | [] => 0
  | x :: r => uptoBulkEntry x + uptoBulkEntries r
def uptoBulkEntry {H : Type} : Lit × DataW H → Nat
  | (.string bytes, d) => bytes.length + uptoBulk d + 1
  | (_, d) => uptoBulk d + 1
 end
def uptoSmall : (H : Type) → List (DataW H) → Bool := fun _ ds => decide (uptoBulkAll ds ≤ 1048576)
def OpenSpec.upto (s : _root_.Go.ChangeSpec) : _root_.Go.OpenSpec := { _root_.Go.OpenSpec.ofChange s with cond := some uptoSmall }

/-- 'ontimelaw29.BoundsCounter', WHERE WHAT IT READS IS OF BULK AT MOST 1048576: true; the input reads as it did. -/
def boundsCounterUptoRow : OpenClaim := { program := "ytlmgkipmfgijiaagreatdoor", sum := "8783de7eb38d41f12c243291a3e32ff0b73acaa0644ad45105e79f73bf2cc917", func := "ontime/ontimelaw29.BoundsCounter", spec := "boundsCounter", inPlace := ["internal/bytealg.IndexByteString"], unfollowed := true, recurses := true, named := ["ontime/isa.formats"], apart := false, laid := [("ontime/isa.formats", laid_ontime_isa_formats)], narrowed := true }
def BoundsCounterUptoSaid : Prop := boundsCounterUptoRow.holds Tryz.pinned (OpenSpec.upto boundsCounterSpec)

/-- 'ontimelaw29.BoundsRaw', WHERE WHAT IT READS IS OF BULK AT MOST 1048576: true; the input reads as it did. -/
def boundsRawUptoRow : OpenClaim := { program := "ytlmgkipmfgijiaagreatdoor", sum := "8783de7eb38d41f12c243291a3e32ff0b73acaa0644ad45105e79f73bf2cc917", func := "ontime/ontimelaw29.BoundsRaw", spec := "boundsRaw", inPlace := ["internal/bytealg.IndexByteString"], unfollowed := true, recurses := true, named := ["ontime/isa.formats"], apart := false, laid := [("ontime/isa.formats", laid_ontime_isa_formats)], narrowed := true }
def BoundsRawUptoSaid : Prop := boundsRawUptoRow.holds Tryz.pinned (OpenSpec.upto boundsRawSpec)

/-- 'ontimelaw29.BoundsFind', WHERE WHAT IT READS IS OF BULK AT MOST 1048576: true; the input reads as it did. -/
def boundsFindUptoRow : OpenClaim := { program := "ytlmgkipmfgijiaagreatdoor", sum := "8783de7eb38d41f12c243291a3e32ff0b73acaa0644ad45105e79f73bf2cc917", func := "ontime/ontimelaw29.BoundsFind", spec := "boundsFind", inPlace := ["internal/bytealg.IndexByteString"], unfollowed := true, recurses := true, named := ["ontime/isa.formats"], apart := false, laid := [("ontime/isa.formats", laid_ontime_isa_formats)], narrowed := true }
def BoundsFindUptoSaid : Prop := boundsFindUptoRow.holds Tryz.pinned (OpenSpec.upto boundsFindSpec)

/-- 'ontimelaw29.BoundsTighter', WHERE WHAT IT READS IS OF BULK AT MOST 1048576: true; the input reads as it did. -/
def boundsTighterUptoRow : OpenClaim := { program := "ytlmgkipmfgijiaagreatdoor", sum := "8783de7eb38d41f12c243291a3e32ff0b73acaa0644ad45105e79f73bf2cc917", func := "ontime/ontimelaw29.BoundsTighter", spec := "boundsTighter", inPlace := ["internal/bytealg.IndexByteString"], unfollowed := true, recurses := true, named := ["ontime/isa.formats"], apart := false, laid := [("ontime/isa.formats", laid_ontime_isa_formats)], narrowed := true }
def BoundsTighterUptoSaid : Prop := boundsTighterUptoRow.holds Tryz.pinned (OpenSpec.upto boundsTighterSpec)

/-- 'ontimelaw29.BoundsMoved', WHERE WHAT IT READS IS OF BULK AT MOST 1048576: true; the input reads as it did. -/
def boundsMovedUptoRow : OpenClaim := { program := "ytlmgkipmfgijiaagreatdoor", sum := "8783de7eb38d41f12c243291a3e32ff0b73acaa0644ad45105e79f73bf2cc917", func := "ontime/ontimelaw29.BoundsMoved", spec := "boundsMoved", inPlace := ["internal/bytealg.IndexByteString"], unfollowed := true, recurses := true, named := ["ontime/isa.formats"], apart := false, laid := [("ontime/isa.formats", laid_ontime_isa_formats)], narrowed := true }
def BoundsMovedUptoSaid : Prop := boundsMovedUptoRow.holds Tryz.pinned (OpenSpec.upto boundsMovedSpec)

/-- 'ontimelaw29.BoundsForm', WHERE WHAT IT READS IS OF BULK AT MOST 1048576: true; the input reads as it did. -/
def boundsFormUptoRow : OpenClaim := { program := "ytlmgkipmfgijiaagreatdoor", sum := "8783de7eb38d41f12c243291a3e32ff0b73acaa0644ad45105e79f73bf2cc917", func := "ontime/ontimelaw29.BoundsForm", spec := "boundsForm", inPlace := ["internal/bytealg.IndexByteString"], unfollowed := true, recurses := true, named := ["ontime/isa.formats"], apart := false, laid := [("ontime/isa.formats", laid_ontime_isa_formats)], narrowed := true }
def BoundsFormUptoSaid : Prop := boundsFormUptoRow.holds Tryz.pinned (OpenSpec.upto boundsFormSpec)

/-- 'ontimelaw29.BoundsHold', WHERE WHAT IT READS IS OF BULK AT MOST 1048576: true; the input reads as it did. -/
def boundsHoldUptoRow : OpenClaim := { program := "ytlmgkipmfgijiaagreatdoor", sum := "8783de7eb38d41f12c243291a3e32ff0b73acaa0644ad45105e79f73bf2cc917", func := "ontime/ontimelaw29.BoundsHold", spec := "boundsHold", inPlace := ["internal/bytealg.IndexByteString"], unfollowed := true, recurses := true, named := ["ontime/isa.formats", "ontime/core.operators"], apart := false, laid := [("ontime/isa.formats", laid_ontime_isa_formats), ("ontime/core.operators", laid_ontime_core_operators)], narrowed := true }
def BoundsHoldUptoSaid : Prop := boundsHoldUptoRow.holds Tryz.pinned (OpenSpec.upto boundsHoldSpec)

end Rows
end Go.Proofs.YtlmgkipmfgijiaaGreatDoor
