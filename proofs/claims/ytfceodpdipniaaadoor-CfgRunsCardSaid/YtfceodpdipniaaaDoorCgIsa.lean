/-
  What is proved here: what the small functions of package isa return.
-/
import Derived.Test.YtfceodpdipniaaaDoorQTail2
namespace Go.Proofs.YtfceodpdipniaaaDoor
open Go.RowKit
set_option linter.unusedVariables false
set_option linter.unusedSimpArgs false

def isBr (op : Int) : Bool := decide (op = 22) || decide (op = 23) || decide (op = 24)

set_option maxHeartbeats 400000 in
theorem isBranch_any (op : Int) (w : World) : Calls Tryd.prog 24 #[.int .u8 op] w fun e w' => e = .returned (.bool (isBr op)) ∧ w = w' := by
  go_enter Tryd.func24, Tryd.ntmps24
  go_wp2
  all_goals
    go_ret
    refine ⟨ret_bool ?_, rfl⟩
    unfold isBr
    first | (simp_all; done) | trivial

set_option maxHeartbeats 400000 in
theorem position_any (c : Int) (w : World) : Calls Tryd.prog 53 #[.int .u8 c] w fun e w' => e = .returned (.tuple #[.int .i64 (if c = 65 then 22 else if c = 66 then 18 else if c = 67 then 14 else 0), .int .i64 (if c = 65 then 4 else if c = 66 then 4 else if c = 67 then 4 else 18)]) ∧ w = w' := by
  go_enter Tryd.func53, Tryd.ntmps53
  go_wp2
  all_goals
    go_ret2
    refine ⟨?_, rfl⟩
    first | (simp_all; done) | trivial

def fieldNo (c : Int) : Nat := if c = 65 then 1 else if c = 66 then 2 else if c = 67 then 3 else 4
set_option maxHeartbeats 400000 in
theorem field_any (b : Nat) (c : Int) (w : World) : Calls Tryd.prog 54 #[.pointer (some ⟨b, 0, none⟩), .int .u8 c] w fun e w' => e = .returned (.pointer (some ⟨b, fieldNo c, none⟩)) ∧ w = w' := by
  go_enter Tryd.func54, Tryd.ntmps54
  go_wp2
  all_goals
    go_ret
    refine ⟨?_, rfl⟩
    unfold fieldNo
    first | (simp_all; done) | trivial

structure Ins where
  op : Int
  a : Int
  b : Int
  c : Int
  imm : Int
deriving Inhabited, DecidableEq
def Ins.val (i : Ins) : Value := .agg #[.int .u8 i.op, .int .i64 i.a, .int .i64 i.b, .int .i64 i.c, .int .i64 i.imm]
def Ins.cells (i : Ins) : List Value := [.int .u8 i.op, .int .i64 i.a, .int .i64 i.b, .int .i64 i.c, .int .i64 i.imm]

set_option maxHeartbeats 800000 in
theorem target_any (i : Ins) (at_ : Int) (w : World) (h1 : IntKind.i64.wrap (at_ + 1) = at_ + 1) (h2 : IntKind.i64.wrap (at_ + 1 + i.imm) = at_ + 1 + i.imm) : Calls Tryd.prog 26 #[.agg #[.int .u8 i.op, .int .i64 i.a, .int .i64 i.b, .int .i64 i.c, .int .i64 i.imm], .int .i64 at_] w fun e w' => e = .returned (.tuple #[.int .i64 (if isBr i.op = true then at_ + 1 + i.imm else 0), .bool (isBr i.op)]) ∧ Below w.heap.size w w' := by
  have HI := isBranch_any i.op
  go_enter Tryd.func26, Tryd.ntmps26
  rcases hb : isBr i.op
  all_goals
    rw [hb] at HI
    go_wp2_with (go_at_call 24; refine (HI _).mono ?_; rintro e w' ⟨rfl, rfl⟩)
  all_goals
    go_ret2
    refine ⟨?_, ?_⟩
    · simp_all
    (repeat (first | exact Below.refl _ _ | refine Below.setCell ?_ ?_ _ | refine Ext.below ?_ ?_ _ | refine Below.alloc ?_ ?_ _)) <;> (first | (simp; done) | (simp; omega) | omega)

end Go.Proofs.YtfceodpdipniaaaDoor
