/-
  No cell of these rows narrows 'for every input' (looked for: loops, veiled, ifaces, maps, wideKeys, modest, calm, conditions, laid).
  DERIVED. THE GIVEN ROWS OF THIS SEAT. 8 by the template 'for every input the law returns true; each argument reads behind the call as it read before'; 0 by the template 'total and deterministic' (their statements: YtbphlcldbcjncaaTotals.lean).
  GIVEN WITH THE SEED: the statements are not yours to turn. If you find one false, say at which input.
  Laid BY PROGRAM, IN A SANDBOX (cutbox-rows.mjs): the forced cells as the released guide's own fill.sh prints them over the translation cadd2c2f51c96141… (all of the seat's roots in one cut). By AI agents, Wed Nov 11 2026. No macro, syntax, notation, axiom, sorry.
-/
import Derived.Test.YtbphlcldbcjncaaChecked
import GoSem.Claim
import GoSem.ClaimJoined
import GoSem.ClaimMapViews
import Derived.JoinedTies
import Derived.KernelRfl
namespace Go.Proofs.Ytbphlcldbcjncaa
/- THE CELL 'sum', in the pinned program and in every row, IS THE sha256 OF THE DUMP (.gsa) THAT YtbphlcldbcjncaaProg.lean LOADS. Nothing in Lean hashes anything: it is a label: what it is worth is what the hold of that sum in a sandbox is worth. -/
noncomputable def Try.pinned : Pinned := { name := "ytbphlcldbcjncaa", sum := "cadd2c2f51c96141150d781769991ce2f4a71e4656e8ebd6817819a7d1118380", checked := Try.checked }
namespace Rows
def none {H : Type} : Left H := { results := [], args := [] }

/-- 'ontimelaw07.BusPeriodic': WHATEVER THE INPUT: true; the input reads as it did. -/
def busPeriodicSpec : ChangeSpec := { name := "busPeriodic", fn := fun _ => fun
  | [d1, d2, d3, d4] => { results := [.lit (.bool true)], args := [d1, d2, d3, d4] }
  | _ => none }
def busPeriodicRow : OpenClaim := { program := "ytbphlcldbcjncaa", sum := "cadd2c2f51c96141150d781769991ce2f4a71e4656e8ebd6817819a7d1118380", func := "ontime/ontimelaw07.BusPeriodic", spec := "busPeriodic", apart := false }
def BusPeriodicSaid : Prop := busPeriodicRow.holds Try.pinned (OpenSpec.ofChange busPeriodicSpec)

/-- ITS FALSE NEIGHBOUR: 'it returns false'. Refute it at one input. -/
def busPeriodicWrong : ChangeSpec := { name := "busPeriodic", fn := fun _ => fun
  | [d1, d2, d3, d4] => { results := [.lit (.bool false)], args := [d1, d2, d3, d4] }
  | _ => none }
def BusPeriodicWrongFalsely : Prop := busPeriodicRow.holds Try.pinned (OpenSpec.ofChange busPeriodicWrong)

/-- 'ontimelaw07.BusBandwidth': WHATEVER THE INPUT: true; the input reads as it did. -/
def busBandwidthSpec : ChangeSpec := { name := "busBandwidth", fn := fun _ => fun
  | [d1, d2, d3, d4] => { results := [.lit (.bool true)], args := [d1, d2, d3, d4] }
  | _ => none }
def busBandwidthRow : OpenClaim := { program := "ytbphlcldbcjncaa", sum := "cadd2c2f51c96141150d781769991ce2f4a71e4656e8ebd6817819a7d1118380", func := "ontime/ontimelaw07.BusBandwidth", spec := "busBandwidth", apart := false }
def BusBandwidthSaid : Prop := busBandwidthRow.holds Try.pinned (OpenSpec.ofChange busBandwidthSpec)

/-- ITS FALSE NEIGHBOUR: 'it returns false'. Refute it at one input. -/
def busBandwidthWrong : ChangeSpec := { name := "busBandwidth", fn := fun _ => fun
  | [d1, d2, d3, d4] => { results := [.lit (.bool false)], args := [d1, d2, d3, d4] }
  | _ => none }
def BusBandwidthWrongFalsely : Prop := busBandwidthRow.holds Try.pinned (OpenSpec.ofChange busBandwidthWrong)

/-- 'ontimelaw07.BusSplits': WHATEVER THE INPUT: true; the input reads as it did. -/
def busSplitsSpec : ChangeSpec := { name := "busSplits", fn := fun _ => fun
  | [d1, d2, d3, d4, d5] => { results := [.lit (.bool true)], args := [d1, d2, d3, d4, d5] }
  | _ => none }
def busSplitsRow : OpenClaim := { program := "ytbphlcldbcjncaa", sum := "cadd2c2f51c96141150d781769991ce2f4a71e4656e8ebd6817819a7d1118380", func := "ontime/ontimelaw07.BusSplits", spec := "busSplits", apart := false }
def BusSplitsSaid : Prop := busSplitsRow.holds Try.pinned (OpenSpec.ofChange busSplitsSpec)

/-- ITS FALSE NEIGHBOUR: 'it returns false'. Refute it at one input. -/
def busSplitsWrong : ChangeSpec := { name := "busSplits", fn := fun _ => fun
  | [d1, d2, d3, d4, d5] => { results := [.lit (.bool false)], args := [d1, d2, d3, d4, d5] }
  | _ => none }
def BusSplitsWrongFalsely : Prop := busSplitsRow.holds Try.pinned (OpenSpec.ofChange busSplitsWrong)

/-- 'ontimelaw07.BusMaxWait': WHATEVER THE INPUT: true; the input reads as it did. -/
def busMaxWaitSpec : ChangeSpec := { name := "busMaxWait", fn := fun _ => fun
  | [d1, d2] => { results := [.lit (.bool true)], args := [d1, d2] }
  | _ => none }
def busMaxWaitRow : OpenClaim := { program := "ytbphlcldbcjncaa", sum := "cadd2c2f51c96141150d781769991ce2f4a71e4656e8ebd6817819a7d1118380", func := "ontime/ontimelaw07.BusMaxWait", spec := "busMaxWait", apart := false }
def BusMaxWaitSaid : Prop := busMaxWaitRow.holds Try.pinned (OpenSpec.ofChange busMaxWaitSpec)

/-- ITS FALSE NEIGHBOUR: 'it returns false'. Refute it at one input. -/
def busMaxWaitWrong : ChangeSpec := { name := "busMaxWait", fn := fun _ => fun
  | [d1, d2] => { results := [.lit (.bool false)], args := [d1, d2] }
  | _ => none }
def BusMaxWaitWrongFalsely : Prop := busMaxWaitRow.holds Try.pinned (OpenSpec.ofChange busMaxWaitWrong)

/-- 'ontimelaw07.BusMonotone': WHATEVER THE INPUT: true; the input reads as it did. -/
def busMonotoneSpec : ChangeSpec := { name := "busMonotone", fn := fun _ => fun
  | [d1, d2, d3, d4] => { results := [.lit (.bool true)], args := [d1, d2, d3, d4] }
  | _ => none }
def busMonotoneRow : OpenClaim := { program := "ytbphlcldbcjncaa", sum := "cadd2c2f51c96141150d781769991ce2f4a71e4656e8ebd6817819a7d1118380", func := "ontime/ontimelaw07.BusMonotone", spec := "busMonotone", apart := false }
def BusMonotoneSaid : Prop := busMonotoneRow.holds Try.pinned (OpenSpec.ofChange busMonotoneSpec)

/-- ITS FALSE NEIGHBOUR: 'it returns false'. Refute it at one input. -/
def busMonotoneWrong : ChangeSpec := { name := "busMonotone", fn := fun _ => fun
  | [d1, d2, d3, d4] => { results := [.lit (.bool false)], args := [d1, d2, d3, d4] }
  | _ => none }
def BusMonotoneWrongFalsely : Prop := busMonotoneRow.holds Try.pinned (OpenSpec.ofChange busMonotoneWrong)

/-- 'ontimelaw07.BusStart': WHATEVER THE INPUT: true; the input reads as it did. -/
def busStartSpec : ChangeSpec := { name := "busStart", fn := fun _ => fun
  | [d1, d2, d3] => { results := [.lit (.bool true)], args := [d1, d2, d3] }
  | _ => none }
def busStartRow : OpenClaim := { program := "ytbphlcldbcjncaa", sum := "cadd2c2f51c96141150d781769991ce2f4a71e4656e8ebd6817819a7d1118380", func := "ontime/ontimelaw07.BusStart", spec := "busStart", apart := false }
def BusStartSaid : Prop := busStartRow.holds Try.pinned (OpenSpec.ofChange busStartSpec)

/-- ITS FALSE NEIGHBOUR: 'it returns false'. Refute it at one input. -/
def busStartWrong : ChangeSpec := { name := "busStart", fn := fun _ => fun
  | [d1, d2, d3] => { results := [.lit (.bool false)], args := [d1, d2, d3] }
  | _ => none }
def BusStartWrongFalsely : Prop := busStartRow.holds Try.pinned (OpenSpec.ofChange busStartWrong)

/-- 'ontimelaw07.BusRefuses': WHATEVER THE INPUT: true; the input reads as it did. -/
def busRefusesSpec : ChangeSpec := { name := "busRefuses", fn := fun _ => fun
  | [d1, d2, d3] => { results := [.lit (.bool true)], args := [d1, d2, d3] }
  | _ => none }
def busRefusesRow : OpenClaim := { program := "ytbphlcldbcjncaa", sum := "cadd2c2f51c96141150d781769991ce2f4a71e4656e8ebd6817819a7d1118380", func := "ontime/ontimelaw07.BusRefuses", spec := "busRefuses", apart := false }
def BusRefusesSaid : Prop := busRefusesRow.holds Try.pinned (OpenSpec.ofChange busRefusesSpec)

/-- ITS FALSE NEIGHBOUR: 'it returns false'. Refute it at one input. -/
def busRefusesWrong : ChangeSpec := { name := "busRefuses", fn := fun _ => fun
  | [d1, d2, d3] => { results := [.lit (.bool false)], args := [d1, d2, d3] }
  | _ => none }
def BusRefusesWrongFalsely : Prop := busRefusesRow.holds Try.pinned (OpenSpec.ofChange busRefusesWrong)

/-- 'ontimelaw07.BusExclusive': WHATEVER THE INPUT: true; the input reads as it did. -/
def busExclusiveSpec : ChangeSpec := { name := "busExclusive", fn := fun _ => fun
  | [d1, d2, d3, d4, d5] => { results := [.lit (.bool true)], args := [d1, d2, d3, d4, d5] }
  | _ => none }
def busExclusiveRow : OpenClaim := { program := "ytbphlcldbcjncaa", sum := "cadd2c2f51c96141150d781769991ce2f4a71e4656e8ebd6817819a7d1118380", func := "ontime/ontimelaw07.BusExclusive", spec := "busExclusive", apart := false }
def BusExclusiveSaid : Prop := busExclusiveRow.holds Try.pinned (OpenSpec.ofChange busExclusiveSpec)

/-- ITS FALSE NEIGHBOUR: 'it returns false'. Refute it at one input. -/
def busExclusiveWrong : ChangeSpec := { name := "busExclusive", fn := fun _ => fun
  | [d1, d2, d3, d4, d5] => { results := [.lit (.bool false)], args := [d1, d2, d3, d4, d5] }
  | _ => none }
def BusExclusiveWrongFalsely : Prop := busExclusiveRow.holds Try.pinned (OpenSpec.ofChange busExclusiveWrong)

/- THE SECOND FORM. 'bulk': how many values and letters a reading holds, each counted each time it is reached (what is shared counts as often as it is met; a slice's spare places count too). A statement '..UptoSaid' is the law's where the arguments, and the package variables that the reading takes, are together of bulk at most 1048576: NARROWER than '..Said'. Prove '..Said' where nothing that the law and all that it calls make is longer than what came in: it says more and counts as full. Else prove '..UptoSaid'. A law counts once. -/
mutual
def uptoBulk {H : Type} : DataW H → Nat
  | .lit (.string bytes) => bytes.length + 1
  | .lit _ => 1
  | .nil => 1
  | .ptr d => uptoBulk d + 1
  | .slice elems spare => uptoBulkAll elems + uptoBulkAll spare + 1
  | .agg parts => uptoBulkAll parts + 1
  | .iface _ d => uptoBulk d + 1
  | .map entries => uptoBulkEntries entries + 1
  | .held _ => 1
def uptoBulkAll {H : Type} : List (DataW H) → Nat
  | [] => 0
  | d :: r => uptoBulk d + uptoBulkAll r
def uptoBulkEntries {H : Type} : List (Lit × DataW H) → Nat
  | [] => 0
  | x :: r => uptoBulkEntry x + uptoBulkEntries r
def uptoBulkEntry {H : Type} : Lit × DataW H → Nat
  | (.string bytes, d) => bytes.length + uptoBulk d + 1
  | (_, d) => uptoBulk d + 1
 end
def uptoSmall : (H : Type) → List (DataW H) → Bool := fun _ ds => decide (uptoBulkAll ds ≤ 1048576)
def OpenSpec.upto (s : _root_.Go.ChangeSpec) : _root_.Go.OpenSpec := { _root_.Go.OpenSpec.ofChange s with cond := some uptoSmall }

/-- 'ontimelaw07.BusPeriodic', WHERE WHAT IT READS IS OF BULK AT MOST 1048576: true; the input reads as it did. -/
def busPeriodicUptoRow : OpenClaim := { program := "ytbphlcldbcjncaa", sum := "cadd2c2f51c96141150d781769991ce2f4a71e4656e8ebd6817819a7d1118380", func := "ontime/ontimelaw07.BusPeriodic", spec := "busPeriodic", apart := false, narrowed := true }
def BusPeriodicUptoSaid : Prop := busPeriodicUptoRow.holds Try.pinned (OpenSpec.upto busPeriodicSpec)

/-- 'ontimelaw07.BusBandwidth', WHERE WHAT IT READS IS OF BULK AT MOST 1048576: true; the input reads as it did. -/
def busBandwidthUptoRow : OpenClaim := { program := "ytbphlcldbcjncaa", sum := "cadd2c2f51c96141150d781769991ce2f4a71e4656e8ebd6817819a7d1118380", func := "ontime/ontimelaw07.BusBandwidth", spec := "busBandwidth", apart := false, narrowed := true }
def BusBandwidthUptoSaid : Prop := busBandwidthUptoRow.holds Try.pinned (OpenSpec.upto busBandwidthSpec)

/-- 'ontimelaw07.BusSplits', WHERE WHAT IT READS IS OF BULK AT MOST 1048576: true; the input reads as it did. -/
def busSplitsUptoRow : OpenClaim := { program := "ytbphlcldbcjncaa", sum := "cadd2c2f51c96141150d781769991ce2f4a71e4656e8ebd6817819a7d1118380", func := "ontime/ontimelaw07.BusSplits", spec := "busSplits", apart := false, narrowed := true }
def BusSplitsUptoSaid : Prop := busSplitsUptoRow.holds Try.pinned (OpenSpec.upto busSplitsSpec)

/-- 'ontimelaw07.BusMaxWait', WHERE WHAT IT READS IS OF BULK AT MOST 1048576: true; the input reads as it did. -/
def busMaxWaitUptoRow : OpenClaim := { program := "ytbphlcldbcjncaa", sum := "cadd2c2f51c96141150d781769991ce2f4a71e4656e8ebd6817819a7d1118380", func := "ontime/ontimelaw07.BusMaxWait", spec := "busMaxWait", apart := false, narrowed := true }
def BusMaxWaitUptoSaid : Prop := busMaxWaitUptoRow.holds Try.pinned (OpenSpec.upto busMaxWaitSpec)

/-- 'ontimelaw07.BusMonotone', WHERE WHAT IT READS IS OF BULK AT MOST 1048576: true; the input reads as it did. -/
def busMonotoneUptoRow : OpenClaim := { program := "ytbphlcldbcjncaa", sum := "cadd2c2f51c96141150d781769991ce2f4a71e4656e8ebd6817819a7d1118380", func := "ontime/ontimelaw07.BusMonotone", spec := "busMonotone", apart := false, narrowed := true }
def BusMonotoneUptoSaid : Prop := busMonotoneUptoRow.holds Try.pinned (OpenSpec.upto busMonotoneSpec)

/-- 'ontimelaw07.BusStart', WHERE WHAT IT READS IS OF BULK AT MOST 1048576: true; the input reads as it did. -/
def busStartUptoRow : OpenClaim := { program := "ytbphlcldbcjncaa", sum := "cadd2c2f51c96141150d781769991ce2f4a71e4656e8ebd6817819a7d1118380", func := "ontime/ontimelaw07.BusStart", spec := "busStart", apart := false, narrowed := true }
def BusStartUptoSaid : Prop := busStartUptoRow.holds Try.pinned (OpenSpec.upto busStartSpec)

/-- 'ontimelaw07.BusRefuses', WHERE WHAT IT READS IS OF BULK AT MOST 1048576: true; the input reads as it did. -/
def busRefusesUptoRow : OpenClaim := { program := "ytbphlcldbcjncaa", sum := "cadd2c2f51c96141150d781769991ce2f4a71e4656e8ebd6817819a7d1118380", func := "ontime/ontimelaw07.BusRefuses", spec := "busRefuses", apart := false, narrowed := true }
def BusRefusesUptoSaid : Prop := busRefusesUptoRow.holds Try.pinned (OpenSpec.upto busRefusesSpec)

/-- 'ontimelaw07.BusExclusive', WHERE WHAT IT READS IS OF BULK AT MOST 1048576: true; the input reads as it did. -/
def busExclusiveUptoRow : OpenClaim := { program := "ytbphlcldbcjncaa", sum := "cadd2c2f51c96141150d781769991ce2f4a71e4656e8ebd6817819a7d1118380", func := "ontime/ontimelaw07.BusExclusive", spec := "busExclusive", apart := false, narrowed := true }
def BusExclusiveUptoSaid : Prop := busExclusiveUptoRow.holds Try.pinned (OpenSpec.upto busExclusiveSpec)

end Rows
end Go.Proofs.Ytbphlcldbcjncaa
