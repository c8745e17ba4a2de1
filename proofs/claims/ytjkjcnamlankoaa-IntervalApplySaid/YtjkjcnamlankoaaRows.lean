/-
  No cell of these rows narrows 'for every input' (looked for: loops, veiled, ifaces, maps, wideKeys, modest, calm, conditions, laid).
  DERIVED. THE GIVEN ROWS OF THIS SEAT. 8 by the template 'for every input the law returns true; each argument reads behind the call as it read before'; 0 by the template 'total and deterministic' (their statements: YtjkjcnamlankoaaTotals.lean).
  GIVEN WITH THE SEED: the statements are not yours to turn. If you find one false, say at which input.
  Laid BY PROGRAM, IN A SANDBOX (cutbox-rows.mjs): the forced cells as the released guide's own fill.sh prints them over the translation 839e6e8afb39c56e… (all of the seat's roots in one cut). By AI agents, Wed Nov 11 2026. No macro, syntax, notation, axiom, sorry.
-/
import Derived.Test.YtjkjcnamlankoaaChecked
import GoSem.Claim
import GoSem.ClaimJoined
import GoSem.ClaimMapViews
import Derived.JoinedTies
import Derived.KernelRfl
namespace Go.Proofs.Ytjkjcnamlankoaa
/- THE CELL 'sum', in the pinned program and in every row, IS THE sha256 OF THE DUMP (.gsa) THAT YtjkjcnamlankoaaProg.lean LOADS. Nothing in Lean hashes anything: it is a label: what it is worth is what the hold of that sum in a sandbox is worth. -/
noncomputable def Try.pinned : Pinned := { name := "ytjkjcnamlankoaa", sum := "839e6e8afb39c56e3b288fd2f1e84d3010ec4f9f41268c7fb8b7247e67bfa4ab", checked := Try.checked }
namespace Rows
def none {H : Type} : Left H := { results := [], args := [] }

/-- 'ontimelaw27.IntervalApply': WHATEVER THE INPUT: true; the input reads as it did. -/
def intervalApplySpec : ChangeSpec := { name := "intervalApply", fn := fun _ => fun
  | [d1, d2, d3] => { results := [.lit (.bool true)], args := [d1, d2, d3] }
  | _ => none }
def intervalApplyRow : OpenClaim := { program := "ytjkjcnamlankoaa", sum := "839e6e8afb39c56e3b288fd2f1e84d3010ec4f9f41268c7fb8b7247e67bfa4ab", func := "ontime/ontimelaw27.IntervalApply", spec := "intervalApply", unfollowed := true, recurses := true, apart := false }
def IntervalApplySaid : Prop := intervalApplyRow.holds Try.pinned (OpenSpec.ofChange intervalApplySpec)

/-- ITS FALSE NEIGHBOUR: 'it returns false'. Refute it at one input. -/
def intervalApplyWrong : ChangeSpec := { name := "intervalApply", fn := fun _ => fun
  | [d1, d2, d3] => { results := [.lit (.bool false)], args := [d1, d2, d3] }
  | _ => none }
def IntervalApplyWrongFalsely : Prop := intervalApplyRow.holds Try.pinned (OpenSpec.ofChange intervalApplyWrong)

/-- 'ontimelaw27.IntervalSound': WHATEVER THE INPUT: true; the input reads as it did. -/
def intervalSoundSpec : ChangeSpec := { name := "intervalSound", fn := fun _ => fun
  | [d1, d2, d3, d4, d5] => { results := [.lit (.bool true)], args := [d1, d2, d3, d4, d5] }
  | _ => none }
def intervalSoundRow : OpenClaim := { program := "ytjkjcnamlankoaa", sum := "839e6e8afb39c56e3b288fd2f1e84d3010ec4f9f41268c7fb8b7247e67bfa4ab", func := "ontime/ontimelaw27.IntervalSound", spec := "intervalSound", unfollowed := true, recurses := true, apart := false }
def IntervalSoundSaid : Prop := intervalSoundRow.holds Try.pinned (OpenSpec.ofChange intervalSoundSpec)

/-- ITS FALSE NEIGHBOUR: 'it returns false'. Refute it at one input. -/
def intervalSoundWrong : ChangeSpec := { name := "intervalSound", fn := fun _ => fun
  | [d1, d2, d3, d4, d5] => { results := [.lit (.bool false)], args := [d1, d2, d3, d4, d5] }
  | _ => none }
def IntervalSoundWrongFalsely : Prop := intervalSoundRow.holds Try.pinned (OpenSpec.ofChange intervalSoundWrong)

/-- 'ontimelaw27.IntervalTight': WHATEVER THE INPUT: true; the input reads as it did. -/
def intervalTightSpec : ChangeSpec := { name := "intervalTight", fn := fun _ => fun
  | [d1, d2, d3] => { results := [.lit (.bool true)], args := [d1, d2, d3] }
  | _ => none }
def intervalTightRow : OpenClaim := { program := "ytjkjcnamlankoaa", sum := "839e6e8afb39c56e3b288fd2f1e84d3010ec4f9f41268c7fb8b7247e67bfa4ab", func := "ontime/ontimelaw27.IntervalTight", spec := "intervalTight", unfollowed := true, recurses := true, apart := false }
def IntervalTightSaid : Prop := intervalTightRow.holds Try.pinned (OpenSpec.ofChange intervalTightSpec)

/-- ITS FALSE NEIGHBOUR: 'it returns false'. Refute it at one input. -/
def intervalTightWrong : ChangeSpec := { name := "intervalTight", fn := fun _ => fun
  | [d1, d2, d3] => { results := [.lit (.bool false)], args := [d1, d2, d3] }
  | _ => none }
def IntervalTightWrongFalsely : Prop := intervalTightRow.holds Try.pinned (OpenSpec.ofChange intervalTightWrong)

/-- 'ontimelaw27.IntervalDecides': WHATEVER THE INPUT: true; the input reads as it did. -/
def intervalDecidesSpec : ChangeSpec := { name := "intervalDecides", fn := fun _ => fun
  | [d1, d2] => { results := [.lit (.bool true)], args := [d1, d2] }
  | _ => none }
def intervalDecidesRow : OpenClaim := { program := "ytjkjcnamlankoaa", sum := "839e6e8afb39c56e3b288fd2f1e84d3010ec4f9f41268c7fb8b7247e67bfa4ab", func := "ontime/ontimelaw27.IntervalDecides", spec := "intervalDecides", unfollowed := true, recurses := true, apart := false }
def IntervalDecidesSaid : Prop := intervalDecidesRow.holds Try.pinned (OpenSpec.ofChange intervalDecidesSpec)

/-- ITS FALSE NEIGHBOUR: 'it returns false'. Refute it at one input. -/
def intervalDecidesWrong : ChangeSpec := { name := "intervalDecides", fn := fun _ => fun
  | [d1, d2] => { results := [.lit (.bool false)], args := [d1, d2] }
  | _ => none }
def IntervalDecidesWrongFalsely : Prop := intervalDecidesRow.holds Try.pinned (OpenSpec.ofChange intervalDecidesWrong)

/-- 'ontimelaw27.IntervalSets': WHATEVER THE INPUT: true; the input reads as it did. -/
def intervalSetsSpec : ChangeSpec := { name := "intervalSets", fn := fun _ => fun
  | [d1, d2, d3] => { results := [.lit (.bool true)], args := [d1, d2, d3] }
  | _ => none }
def intervalSetsRow : OpenClaim := { program := "ytjkjcnamlankoaa", sum := "839e6e8afb39c56e3b288fd2f1e84d3010ec4f9f41268c7fb8b7247e67bfa4ab", func := "ontime/ontimelaw27.IntervalSets", spec := "intervalSets", unfollowed := true, recurses := true, apart := false }
def IntervalSetsSaid : Prop := intervalSetsRow.holds Try.pinned (OpenSpec.ofChange intervalSetsSpec)

/-- ITS FALSE NEIGHBOUR: 'it returns false'. Refute it at one input. -/
def intervalSetsWrong : ChangeSpec := { name := "intervalSets", fn := fun _ => fun
  | [d1, d2, d3] => { results := [.lit (.bool false)], args := [d1, d2, d3] }
  | _ => none }
def IntervalSetsWrongFalsely : Prop := intervalSetsRow.holds Try.pinned (OpenSpec.ofChange intervalSetsWrong)

/-- 'ontimelaw27.IntervalMonotone': WHATEVER THE INPUT: true; the input reads as it did. -/
def intervalMonotoneSpec : ChangeSpec := { name := "intervalMonotone", fn := fun _ => fun
  | [d1, d2, d3, d4, d5] => { results := [.lit (.bool true)], args := [d1, d2, d3, d4, d5] }
  | _ => none }
def intervalMonotoneRow : OpenClaim := { program := "ytjkjcnamlankoaa", sum := "839e6e8afb39c56e3b288fd2f1e84d3010ec4f9f41268c7fb8b7247e67bfa4ab", func := "ontime/ontimelaw27.IntervalMonotone", spec := "intervalMonotone", unfollowed := true, recurses := true, apart := false }
def IntervalMonotoneSaid : Prop := intervalMonotoneRow.holds Try.pinned (OpenSpec.ofChange intervalMonotoneSpec)

/-- ITS FALSE NEIGHBOUR: 'it returns false'. Refute it at one input. -/
def intervalMonotoneWrong : ChangeSpec := { name := "intervalMonotone", fn := fun _ => fun
  | [d1, d2, d3, d4, d5] => { results := [.lit (.bool false)], args := [d1, d2, d3, d4, d5] }
  | _ => none }
def IntervalMonotoneWrongFalsely : Prop := intervalMonotoneRow.holds Try.pinned (OpenSpec.ofChange intervalMonotoneWrong)

/-- 'ontimelaw27.IntervalJoins': WHATEVER THE INPUT: true; the input reads as it did. -/
def intervalJoinsSpec : ChangeSpec := { name := "intervalJoins", fn := fun _ => fun
  | [d1, d2, d3, d4] => { results := [.lit (.bool true)], args := [d1, d2, d3, d4] }
  | _ => none }
def intervalJoinsRow : OpenClaim := { program := "ytjkjcnamlankoaa", sum := "839e6e8afb39c56e3b288fd2f1e84d3010ec4f9f41268c7fb8b7247e67bfa4ab", func := "ontime/ontimelaw27.IntervalJoins", spec := "intervalJoins", unfollowed := true, recurses := true, apart := false }
def IntervalJoinsSaid : Prop := intervalJoinsRow.holds Try.pinned (OpenSpec.ofChange intervalJoinsSpec)

/-- ITS FALSE NEIGHBOUR: 'it returns false'. Refute it at one input. -/
def intervalJoinsWrong : ChangeSpec := { name := "intervalJoins", fn := fun _ => fun
  | [d1, d2, d3, d4] => { results := [.lit (.bool false)], args := [d1, d2, d3, d4] }
  | _ => none }
def IntervalJoinsWrongFalsely : Prop := intervalJoinsRow.holds Try.pinned (OpenSpec.ofChange intervalJoinsWrong)

/-- 'ontimelaw27.IntervalWidens': WHATEVER THE INPUT: true; the input reads as it did. -/
def intervalWidensSpec : ChangeSpec := { name := "intervalWidens", fn := fun _ => fun
  | [d1, d2] => { results := [.lit (.bool true)], args := [d1, d2] }
  | _ => none }
def intervalWidensRow : OpenClaim := { program := "ytjkjcnamlankoaa", sum := "839e6e8afb39c56e3b288fd2f1e84d3010ec4f9f41268c7fb8b7247e67bfa4ab", func := "ontime/ontimelaw27.IntervalWidens", spec := "intervalWidens", unfollowed := true, recurses := true, apart := false }
def IntervalWidensSaid : Prop := intervalWidensRow.holds Try.pinned (OpenSpec.ofChange intervalWidensSpec)

/-- ITS FALSE NEIGHBOUR: 'it returns false'. Refute it at one input. -/
def intervalWidensWrong : ChangeSpec := { name := "intervalWidens", fn := fun _ => fun
  | [d1, d2] => { results := [.lit (.bool false)], args := [d1, d2] }
  | _ => none }
def IntervalWidensWrongFalsely : Prop := intervalWidensRow.holds Try.pinned (OpenSpec.ofChange intervalWidensWrong)

/- THE SECOND FORM. 'bulk': how many values and letters a reading holds, each counted each time it is reached (what is shared counts as often as it is met; a slice's spare places count too). A statement '..UptoSaid' is the law's where the arguments, and the package variables that the reading takes, are together of bulk at most 1048576: NARROWER than '..Said'. Prove '..Said' where nothing that the law and all that it calls make is longer than what came in: it says more and counts as full. Else prove '..UptoSaid'. A law counts once. -/
mutual
def uptoBulk {H : Type} : DataW H → Nat
  | .lit (.string bytes) => bytes.length + 1
  | .lit _ => 1
  | .nil => 1
  | .ptr d => uptoBulk d + 1
  | .slice elems spare => uptoBulkAll elems + uptoBulkAll spare + 1
  | .agg parts => uptoBulkAll parts + 1
  | .iface _ d => uptoBulk d + 1
  | .map entries => uptoBulkEntries entries + 1
  | .held _ => 1
def uptoBulkAll {H : Type} : List (DataW H) → Nat
  | [] => 0
  | d :: r => uptoBulk d + uptoBulkAll r
def uptoBulkEntries {H : Type} : List (Lit × DataW H) → Nat
  | [] => 0
  | x :: r => uptoBulkEntry x + uptoBulkEntries r
def uptoBulkEntry {H : Type} : Lit × DataW H → Nat
  | (.string bytes, d) => bytes.length + uptoBulk d + 1
  | (_, d) => uptoBulk d + 1
 end
def uptoSmall : (H : Type) → List (DataW H) → Bool := fun _ ds => decide (uptoBulkAll ds ≤ 1048576)
def OpenSpec.upto (s : _root_.Go.ChangeSpec) : _root_.Go.OpenSpec := { _root_.Go.OpenSpec.ofChange s with cond := some uptoSmall }

/-- 'ontimelaw27.IntervalApply', WHERE WHAT IT READS IS OF BULK AT MOST 1048576: true; the input reads as it did. -/
def intervalApplyUptoRow : OpenClaim := { program := "ytjkjcnamlankoaa", sum := "839e6e8afb39c56e3b288fd2f1e84d3010ec4f9f41268c7fb8b7247e67bfa4ab", func := "ontime/ontimelaw27.IntervalApply", spec := "intervalApply", unfollowed := true, recurses := true, apart := false, narrowed := true }
def IntervalApplyUptoSaid : Prop := intervalApplyUptoRow.holds Try.pinned (OpenSpec.upto intervalApplySpec)

/-- 'ontimelaw27.IntervalSound', WHERE WHAT IT READS IS OF BULK AT MOST 1048576: true; the input reads as it did. -/
def intervalSoundUptoRow : OpenClaim := { program := "ytjkjcnamlankoaa", sum := "839e6e8afb39c56e3b288fd2f1e84d3010ec4f9f41268c7fb8b7247e67bfa4ab", func := "ontime/ontimelaw27.IntervalSound", spec := "intervalSound", unfollowed := true, recurses := true, apart := false, narrowed := true }
def IntervalSoundUptoSaid : Prop := intervalSoundUptoRow.holds Try.pinned (OpenSpec.upto intervalSoundSpec)

/-- 'ontimelaw27.IntervalTight', WHERE WHAT IT READS IS OF BULK AT MOST 1048576: true; the input reads as it did. -/
def intervalTightUptoRow : OpenClaim := { program := "ytjkjcnamlankoaa", sum := "839e6e8afb39c56e3b288fd2f1e84d3010ec4f9f41268c7fb8b7247e67bfa4ab", func := "ontime/ontimelaw27.IntervalTight", spec := "intervalTight", unfollowed := true, recurses := true, apart := false, narrowed := true }
def IntervalTightUptoSaid : Prop := intervalTightUptoRow.holds Try.pinned (OpenSpec.upto intervalTightSpec)

/-- 'ontimelaw27.IntervalDecides', WHERE WHAT IT READS IS OF BULK AT MOST 1048576: true; the input reads as it did. -/
def intervalDecidesUptoRow : OpenClaim := { program := "ytjkjcnamlankoaa", sum := "839e6e8afb39c56e3b288fd2f1e84d3010ec4f9f41268c7fb8b7247e67bfa4ab", func := "ontime/ontimelaw27.IntervalDecides", spec := "intervalDecides", unfollowed := true, recurses := true, apart := false, narrowed := true }
def IntervalDecidesUptoSaid : Prop := intervalDecidesUptoRow.holds Try.pinned (OpenSpec.upto intervalDecidesSpec)

/-- 'ontimelaw27.IntervalSets', WHERE WHAT IT READS IS OF BULK AT MOST 1048576: true; the input reads as it did. -/
def intervalSetsUptoRow : OpenClaim := { program := "ytjkjcnamlankoaa", sum := "839e6e8afb39c56e3b288fd2f1e84d3010ec4f9f41268c7fb8b7247e67bfa4ab", func := "ontime/ontimelaw27.IntervalSets", spec := "intervalSets", unfollowed := true, recurses := true, apart := false, narrowed := true }
def IntervalSetsUptoSaid : Prop := intervalSetsUptoRow.holds Try.pinned (OpenSpec.upto intervalSetsSpec)

/-- 'ontimelaw27.IntervalMonotone', WHERE WHAT IT READS IS OF BULK AT MOST 1048576: true; the input reads as it did. -/
def intervalMonotoneUptoRow : OpenClaim := { program := "ytjkjcnamlankoaa", sum := "839e6e8afb39c56e3b288fd2f1e84d3010ec4f9f41268c7fb8b7247e67bfa4ab", func := "ontime/ontimelaw27.IntervalMonotone", spec := "intervalMonotone", unfollowed := true, recurses := true, apart := false, narrowed := true }
def IntervalMonotoneUptoSaid : Prop := intervalMonotoneUptoRow.holds Try.pinned (OpenSpec.upto intervalMonotoneSpec)

/-- 'ontimelaw27.IntervalJoins', WHERE WHAT IT READS IS OF BULK AT MOST 1048576: true; the input reads as it did. -/
def intervalJoinsUptoRow : OpenClaim := { program := "ytjkjcnamlankoaa", sum := "839e6e8afb39c56e3b288fd2f1e84d3010ec4f9f41268c7fb8b7247e67bfa4ab", func := "ontime/ontimelaw27.IntervalJoins", spec := "intervalJoins", unfollowed := true, recurses := true, apart := false, narrowed := true }
def IntervalJoinsUptoSaid : Prop := intervalJoinsUptoRow.holds Try.pinned (OpenSpec.upto intervalJoinsSpec)

/-- 'ontimelaw27.IntervalWidens', WHERE WHAT IT READS IS OF BULK AT MOST 1048576: true; the input reads as it did. -/
def intervalWidensUptoRow : OpenClaim := { program := "ytjkjcnamlankoaa", sum := "839e6e8afb39c56e3b288fd2f1e84d3010ec4f9f41268c7fb8b7247e67bfa4ab", func := "ontime/ontimelaw27.IntervalWidens", spec := "intervalWidens", unfollowed := true, recurses := true, apart := false, narrowed := true }
def IntervalWidensUptoSaid : Prop := intervalWidensUptoRow.holds Try.pinned (OpenSpec.upto intervalWidensSpec)

end Rows
end Go.Proofs.Ytjkjcnamlankoaa
