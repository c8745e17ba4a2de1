/-
  No cell of these rows narrows 'for every input' (looked for: loops, veiled, ifaces, maps, wideKeys, modest, calm, conditions, laid).
  DERIVED. THE GIVEN ROWS OF THIS SEAT. 8 by the template 'for every input the law returns true; each argument reads behind the call as it read before'; 0 by the template 'total and deterministic' (their statements: YtekdjjfbkcgmhaaTotals.lean).
  GIVEN WITH THE SEED: the statements are not yours to turn. If you find one false, say at which input.
  Laid BY PROGRAM, IN A SANDBOX (cutbox-rows.mjs): the forced cells as the released guide's own fill.sh prints them over the translation 0835affa087ee2a3… (all of the seat's roots in one cut). By AI agents, Wed Nov 11 2026. No macro, syntax, notation, axiom, sorry.
-/
import Derived.Test.YtekdjjfbkcgmhaaChecked
import GoSem.Claim
import GoSem.ClaimJoined
import GoSem.ClaimMapViews
import Derived.JoinedTies
import Derived.KernelRfl
namespace Go.Proofs.Ytekdjjfbkcgmhaa
/- THE CELL 'sum', in the pinned program and in every row, IS THE sha256 OF THE DUMP (.gsa) THAT YtekdjjfbkcgmhaaProg.lean LOADS. Nothing in Lean hashes anything: it is a label: what it is worth is what the hold of that sum in a sandbox is worth. -/
noncomputable def Try.pinned : Pinned := { name := "ytekdjjfbkcgmhaa", sum := "0835affa087ee2a3a162fac7fc58a57e7a591279efe9df75a6d8fa900a2aa2f9", checked := Try.checked }
namespace Rows
def none {H : Type} : Left H := { results := [], args := [] }

/-- 'ontimelaw42.HeapSorts': WHATEVER THE INPUT: true; the input reads as it did. -/
def heapSortsSpec : ChangeSpec := { name := "heapSorts", fn := fun _ => fun
  | [d] => { results := [.lit (.bool true)], args := [d] }
  | _ => none }
def heapSortsRow : OpenClaim := { program := "ytekdjjfbkcgmhaa", sum := "0835affa087ee2a3a162fac7fc58a57e7a591279efe9df75a6d8fa900a2aa2f9", func := "ontime/ontimelaw42.HeapSorts", spec := "heapSorts", unfollowed := true, recurses := true, plainKeys := false, apart := false }
def HeapSortsSaid : Prop := heapSortsRow.holds Try.pinned (OpenSpec.ofChange heapSortsSpec)

/-- ITS FALSE NEIGHBOUR: 'it returns false'. Refute it at one input. -/
def heapSortsWrong : ChangeSpec := { name := "heapSorts", fn := fun _ => fun
  | [d] => { results := [.lit (.bool false)], args := [d] }
  | _ => none }
def HeapSortsWrongFalsely : Prop := heapSortsRow.holds Try.pinned (OpenSpec.ofChange heapSortsWrong)

/-- 'ontimelaw42.HeapOrders': WHATEVER THE INPUT: true; the input reads as it did. -/
def heapOrdersSpec : ChangeSpec := { name := "heapOrders", fn := fun _ => fun
  | [d] => { results := [.lit (.bool true)], args := [d] }
  | _ => none }
def heapOrdersRow : OpenClaim := { program := "ytekdjjfbkcgmhaa", sum := "0835affa087ee2a3a162fac7fc58a57e7a591279efe9df75a6d8fa900a2aa2f9", func := "ontime/ontimelaw42.HeapOrders", spec := "heapOrders", unfollowed := true, recurses := true, plainKeys := false, apart := false }
def HeapOrdersSaid : Prop := heapOrdersRow.holds Try.pinned (OpenSpec.ofChange heapOrdersSpec)

/-- ITS FALSE NEIGHBOUR: 'it returns false'. Refute it at one input. -/
def heapOrdersWrong : ChangeSpec := { name := "heapOrders", fn := fun _ => fun
  | [d] => { results := [.lit (.bool false)], args := [d] }
  | _ => none }
def HeapOrdersWrongFalsely : Prop := heapOrdersRow.holds Try.pinned (OpenSpec.ofChange heapOrdersWrong)

/-- 'ontimelaw42.HeapFew': WHATEVER THE INPUT: true; the input reads as it did. -/
def heapFewSpec : ChangeSpec := { name := "heapFew", fn := fun _ => fun
  | [d] => { results := [.lit (.bool true)], args := [d] }
  | _ => none }
def heapFewRow : OpenClaim := { program := "ytekdjjfbkcgmhaa", sum := "0835affa087ee2a3a162fac7fc58a57e7a591279efe9df75a6d8fa900a2aa2f9", func := "ontime/ontimelaw42.HeapFew", spec := "heapFew", unfollowed := true, recurses := true, plainKeys := false, apart := false }
def HeapFewSaid : Prop := heapFewRow.holds Try.pinned (OpenSpec.ofChange heapFewSpec)

/-- ITS FALSE NEIGHBOUR: 'it returns false'. Refute it at one input. -/
def heapFewWrong : ChangeSpec := { name := "heapFew", fn := fun _ => fun
  | [d] => { results := [.lit (.bool false)], args := [d] }
  | _ => none }
def HeapFewWrongFalsely : Prop := heapFewRow.holds Try.pinned (OpenSpec.ofChange heapFewWrong)

/-- 'ontimelaw42.HeapMixes': WHATEVER THE INPUT: true; the input reads as it did. -/
def heapMixesSpec : ChangeSpec := { name := "heapMixes", fn := fun _ => fun
  | [d1, d2] => { results := [.lit (.bool true)], args := [d1, d2] }
  | _ => none }
def heapMixesRow : OpenClaim := { program := "ytekdjjfbkcgmhaa", sum := "0835affa087ee2a3a162fac7fc58a57e7a591279efe9df75a6d8fa900a2aa2f9", func := "ontime/ontimelaw42.HeapMixes", spec := "heapMixes", unfollowed := true, recurses := true, plainKeys := false, apart := false }
def HeapMixesSaid : Prop := heapMixesRow.holds Try.pinned (OpenSpec.ofChange heapMixesSpec)

/-- ITS FALSE NEIGHBOUR: 'it returns false'. Refute it at one input. -/
def heapMixesWrong : ChangeSpec := { name := "heapMixes", fn := fun _ => fun
  | [d1, d2] => { results := [.lit (.bool false)], args := [d1, d2] }
  | _ => none }
def HeapMixesWrongFalsely : Prop := heapMixesRow.holds Try.pinned (OpenSpec.ofChange heapMixesWrong)

/-- 'ontimelaw42.HeapPeeks': WHATEVER THE INPUT: true; the input reads as it did. -/
def heapPeeksSpec : ChangeSpec := { name := "heapPeeks", fn := fun _ => fun
  | [d] => { results := [.lit (.bool true)], args := [d] }
  | _ => none }
def heapPeeksRow : OpenClaim := { program := "ytekdjjfbkcgmhaa", sum := "0835affa087ee2a3a162fac7fc58a57e7a591279efe9df75a6d8fa900a2aa2f9", func := "ontime/ontimelaw42.HeapPeeks", spec := "heapPeeks", unfollowed := true, recurses := true, plainKeys := false, apart := false }
def HeapPeeksSaid : Prop := heapPeeksRow.holds Try.pinned (OpenSpec.ofChange heapPeeksSpec)

/-- ITS FALSE NEIGHBOUR: 'it returns false'. Refute it at one input. -/
def heapPeeksWrong : ChangeSpec := { name := "heapPeeks", fn := fun _ => fun
  | [d] => { results := [.lit (.bool false)], args := [d] }
  | _ => none }
def HeapPeeksWrongFalsely : Prop := heapPeeksRow.holds Try.pinned (OpenSpec.ofChange heapPeeksWrong)

/-- 'ontimelaw42.HeapRemoves': WHATEVER THE INPUT: true; the input reads as it did. -/
def heapRemovesSpec : ChangeSpec := { name := "heapRemoves", fn := fun _ => fun
  | [d1, d2] => { results := [.lit (.bool true)], args := [d1, d2] }
  | _ => none }
def heapRemovesRow : OpenClaim := { program := "ytekdjjfbkcgmhaa", sum := "0835affa087ee2a3a162fac7fc58a57e7a591279efe9df75a6d8fa900a2aa2f9", func := "ontime/ontimelaw42.HeapRemoves", spec := "heapRemoves", unfollowed := true, recurses := true, plainKeys := false, apart := false }
def HeapRemovesSaid : Prop := heapRemovesRow.holds Try.pinned (OpenSpec.ofChange heapRemovesSpec)

/-- ITS FALSE NEIGHBOUR: 'it returns false'. Refute it at one input. -/
def heapRemovesWrong : ChangeSpec := { name := "heapRemoves", fn := fun _ => fun
  | [d1, d2] => { results := [.lit (.bool false)], args := [d1, d2] }
  | _ => none }
def HeapRemovesWrongFalsely : Prop := heapRemovesRow.holds Try.pinned (OpenSpec.ofChange heapRemovesWrong)

/-- 'ontimelaw42.HeapPlays': WHATEVER THE INPUT: true; the input reads as it did. -/
def heapPlaysSpec : ChangeSpec := { name := "heapPlays", fn := fun _ => fun
  | [d] => { results := [.lit (.bool true)], args := [d] }
  | _ => none }
def heapPlaysRow : OpenClaim := { program := "ytekdjjfbkcgmhaa", sum := "0835affa087ee2a3a162fac7fc58a57e7a591279efe9df75a6d8fa900a2aa2f9", func := "ontime/ontimelaw42.HeapPlays", spec := "heapPlays", unfollowed := true, recurses := true, plainKeys := false, apart := false }
def HeapPlaysSaid : Prop := heapPlaysRow.holds Try.pinned (OpenSpec.ofChange heapPlaysSpec)

/-- ITS FALSE NEIGHBOUR: 'it returns false'. Refute it at one input. -/
def heapPlaysWrong : ChangeSpec := { name := "heapPlays", fn := fun _ => fun
  | [d] => { results := [.lit (.bool false)], args := [d] }
  | _ => none }
def HeapPlaysWrongFalsely : Prop := heapPlaysRow.holds Try.pinned (OpenSpec.ofChange heapPlaysWrong)

/-- 'ontimelaw42.HeapNil': WHATEVER THE INPUT: true; the input reads as it did. -/
def heapNilSpec : ChangeSpec := { name := "heapNil", fn := fun _ => fun
  | [d] => { results := [.lit (.bool true)], args := [d] }
  | _ => none }
def heapNilRow : OpenClaim := { program := "ytekdjjfbkcgmhaa", sum := "0835affa087ee2a3a162fac7fc58a57e7a591279efe9df75a6d8fa900a2aa2f9", func := "ontime/ontimelaw42.HeapNil", spec := "heapNil", unfollowed := true, recurses := true, plainKeys := false, apart := false }
def HeapNilSaid : Prop := heapNilRow.holds Try.pinned (OpenSpec.ofChange heapNilSpec)

/-- ITS FALSE NEIGHBOUR: 'it returns false'. Refute it at one input. -/
def heapNilWrong : ChangeSpec := { name := "heapNil", fn := fun _ => fun
  | [d] => { results := [.lit (.bool false)], args := [d] }
  | _ => none }
def HeapNilWrongFalsely : Prop := heapNilRow.holds Try.pinned (OpenSpec.ofChange heapNilWrong)

/- THE SECOND FORM. 'bulk': how many values and letters a reading holds, each counted each time it is reached (what is shared counts as often as it is met; a slice's spare places count too). A statement '..UptoSaid' is the law's where the arguments, and the package variables that the reading takes, are together of bulk at most 1048576: NARROWER than '..Said'. Prove '..Said' where nothing that the law and all that it calls make is longer than what came in: it says more and counts as full. Else prove '..UptoSaid'. A law counts once. -/
mutual
def uptoBulk {H : Type} : DataW H → Nat
  | .lit (.string bytes) => bytes.length + 1
  | .lit _ => 1
  | .nil => 1
  | .ptr d => uptoBulk d + 1
  | .slice elems spare => uptoBulkAll elems + uptoBulkAll spare + 1
  | .agg parts => uptoBulkAll parts + 1
  | .iface _ d => uptoBulk d + 1
  | .map entries => uptoBulkEntries entries + 1
  | .held _ => 1
def uptoBulkAll {H : Type} : List (DataW H) → Nat
  | [] => 0
  | d :: r => uptoBulk d + uptoBulkAll r
def uptoBulkEntries {H : Type} : List (Lit × DataW H) → Nat
  | [] => 0
  | x :: r => uptoBulkEntry x + uptoBulkEntries r
def uptoBulkEntry {H : Type} : Lit × DataW H → Nat
  | (.string bytes, d) => bytes.length + uptoBulk d + 1
  | (_, d) => uptoBulk d + 1
 end
def uptoSmall : (H : Type) → List (DataW H) → Bool := fun _ ds => decide (uptoBulkAll ds ≤ 1048576)
def OpenSpec.upto (s : _root_.Go.ChangeSpec) : _root_.Go.OpenSpec := { _root_.Go.OpenSpec.ofChange s with cond := some uptoSmall }

/-- 'ontimelaw42.HeapSorts', WHERE WHAT IT READS IS OF BULK AT MOST 1048576: true; the input reads as it did. -/
def heapSortsUptoRow : OpenClaim := { program := "ytekdjjfbkcgmhaa", sum := "0835affa087ee2a3a162fac7fc58a57e7a591279efe9df75a6d8fa900a2aa2f9", func := "ontime/ontimelaw42.HeapSorts", spec := "heapSorts", unfollowed := true, recurses := true, plainKeys := false, apart := false, narrowed := true }
def HeapSortsUptoSaid : Prop := heapSortsUptoRow.holds Try.pinned (OpenSpec.upto heapSortsSpec)

/-- 'ontimelaw42.HeapOrders', WHERE WHAT IT READS IS OF BULK AT MOST 1048576: true; the input reads as it did. -/
def heapOrdersUptoRow : OpenClaim := { program := "ytekdjjfbkcgmhaa", sum := "0835affa087ee2a3a162fac7fc58a57e7a591279efe9df75a6d8fa900a2aa2f9", func := "ontime/ontimelaw42.HeapOrders", spec := "heapOrders", unfollowed := true, recurses := true, plainKeys := false, apart := false, narrowed := true }
def HeapOrdersUptoSaid : Prop := heapOrdersUptoRow.holds Try.pinned (OpenSpec.upto heapOrdersSpec)

/-- 'ontimelaw42.HeapFew', WHERE WHAT IT READS IS OF BULK AT MOST 1048576: true; the input reads as it did. -/
def heapFewUptoRow : OpenClaim := { program := "ytekdjjfbkcgmhaa", sum := "0835affa087ee2a3a162fac7fc58a57e7a591279efe9df75a6d8fa900a2aa2f9", func := "ontime/ontimelaw42.HeapFew", spec := "heapFew", unfollowed := true, recurses := true, plainKeys := false, apart := false, narrowed := true }
def HeapFewUptoSaid : Prop := heapFewUptoRow.holds Try.pinned (OpenSpec.upto heapFewSpec)

/-- 'ontimelaw42.HeapMixes', WHERE WHAT IT READS IS OF BULK AT MOST 1048576: true; the input reads as it did. -/
def heapMixesUptoRow : OpenClaim := { program := "ytekdjjfbkcgmhaa", sum := "0835affa087ee2a3a162fac7fc58a57e7a591279efe9df75a6d8fa900a2aa2f9", func := "ontime/ontimelaw42.HeapMixes", spec := "heapMixes", unfollowed := true, recurses := true, plainKeys := false, apart := false, narrowed := true }
def HeapMixesUptoSaid : Prop := heapMixesUptoRow.holds Try.pinned (OpenSpec.upto heapMixesSpec)

/-- 'ontimelaw42.HeapPeeks', WHERE WHAT IT READS IS OF BULK AT MOST 1048576: true; the input reads as it did. -/
def heapPeeksUptoRow : OpenClaim := { program := "ytekdjjfbkcgmhaa", sum := "0835affa087ee2a3a162fac7fc58a57e7a591279efe9df75a6d8fa900a2aa2f9", func := "ontime/ontimelaw42.HeapPeeks", spec := "heapPeeks", unfollowed := true, recurses := true, plainKeys := false, apart := false, narrowed := true }
def HeapPeeksUptoSaid : Prop := heapPeeksUptoRow.holds Try.pinned (OpenSpec.upto heapPeeksSpec)

/-- 'ontimelaw42.HeapRemoves', WHERE WHAT IT READS IS OF BULK AT MOST 1048576: true; the input reads as it did. -/
def heapRemovesUptoRow : OpenClaim := { program := "ytekdjjfbkcgmhaa", sum := "0835affa087ee2a3a162fac7fc58a57e7a591279efe9df75a6d8fa900a2aa2f9", func := "ontime/ontimelaw42.HeapRemoves", spec := "heapRemoves", unfollowed := true, recurses := true, plainKeys := false, apart := false, narrowed := true }
def HeapRemovesUptoSaid : Prop := heapRemovesUptoRow.holds Try.pinned (OpenSpec.upto heapRemovesSpec)

/-- 'ontimelaw42.HeapPlays', WHERE WHAT IT READS IS OF BULK AT MOST 1048576: true; the input reads as it did. -/
def heapPlaysUptoRow : OpenClaim := { program := "ytekdjjfbkcgmhaa", sum := "0835affa087ee2a3a162fac7fc58a57e7a591279efe9df75a6d8fa900a2aa2f9", func := "ontime/ontimelaw42.HeapPlays", spec := "heapPlays", unfollowed := true, recurses := true, plainKeys := false, apart := false, narrowed := true }
def HeapPlaysUptoSaid : Prop := heapPlaysUptoRow.holds Try.pinned (OpenSpec.upto heapPlaysSpec)

/-- 'ontimelaw42.HeapNil', WHERE WHAT IT READS IS OF BULK AT MOST 1048576: true; the input reads as it did. -/
def heapNilUptoRow : OpenClaim := { program := "ytekdjjfbkcgmhaa", sum := "0835affa087ee2a3a162fac7fc58a57e7a591279efe9df75a6d8fa900a2aa2f9", func := "ontime/ontimelaw42.HeapNil", spec := "heapNil", unfollowed := true, recurses := true, plainKeys := false, apart := false, narrowed := true }
def HeapNilUptoSaid : Prop := heapNilUptoRow.holds Try.pinned (OpenSpec.upto heapNilSpec)

end Rows
end Go.Proofs.Ytekdjjfbkcgmhaa
