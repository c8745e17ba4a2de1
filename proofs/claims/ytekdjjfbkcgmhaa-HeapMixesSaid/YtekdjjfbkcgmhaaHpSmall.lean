/-
  What is proved here: what the small functions of package heap return (instance Item).
-/
import Derived.Test.YtekdjjfbkcgmhaaQTail2
import Derived.Test.YtekdjjfbkcgmhaaHpPlain
namespace Go.Proofs.Ytekdjjfbkcgmhaa
open Go.RowKit
set_option linter.unusedVariables false
set_option linter.unusedSimpArgs false

/-- A value with the number of its push: key, name, number. -/
structure It where
  key : Int
  name : Int
  ord : Int
deriving Inhabited, DecidableEq
def It.cells (x : It) : List Value := [.int .i64 x.key, .int .i64 x.name, .int .i64 x.ord]
def flat (L : List It) : List Value := L.flatMap It.cells
/-- What comes before what, given the function. -/
def bfr (ls : Int → Int → Int → Int → Bool) (a b : It) : Bool := if a.ord < b.ord then !(ls b.key b.name a.key a.name) else ls a.key a.name b.key b.name

set_option maxHeartbeats 400000 in
theorem byKey_any (a b c d : Int) (w : World) :
    Calls Try.prog 23 #[.agg #[.int .i64 a, .int .i64 b], .agg #[.int .i64 c, .int .i64 d]] w fun e w' => e = .returned (.bool (decide (a < c))) ∧ Below w.heap.size w w' := by
  go_enter Try.func23, Try.ntmps23
  go_wp2
  all_goals
    go_ret
    refine ⟨rfl, ?_⟩
    (repeat (first | exact Below.refl _ _ | refine Below.setCell ?_ ?_ _ | refine Ext.below ?_ ?_ _ | refine Below.alloc ?_ ?_ _)) <;> (first | (simp; done) | (simp; omega) | omega)

/-- The function by which a heap is ordered. -/
structure Less (fid : FuncId) (ls : Int → Int → Int → Int → Bool) : Prop where
  enters : ∀ (args : Array Value) (w : World), (callFunc fid args).run Try.prog w = .ok (.enter fid args) w
  calls : ∀ a b c d w, Calls Try.prog fid #[.agg #[.int .i64 a, .int .i64 b], .agg #[.int .i64 c, .int .i64 d]] w fun e w' => e = .returned (.bool (ls a b c d)) ∧ Below w.heap.size w w'
theorem byKey_less : Less 23 (fun a _ c _ => decide (a < c)) := ⟨fun _ _ => by kernel_rfl, byKey_any⟩
def fnv (fid : FuncId) : Value := .func (.func fid) #[] #[]

theorem neq_fn (fid : FuncId) (w : World) : (binOp .neq 32 (.func (.func fid) #[] #[]) .nilFunc).run Try.prog w = .ok (.bool true) w := by kernel_rfl
theorem eql_fn (fid : FuncId) (w : World) : (binOp .eql 32 (.func (.func fid) #[] #[]) .nilFunc).run Try.prog w = .ok (.bool false) w := by kernel_rfl
set_option maxHeartbeats 400000 in
theorem usable_yes (hb : Nat) (fid : FuncId) (w : World) (hc : w.cell? ⟨hb, 0, none⟩ = some (.func (.func fid) #[] #[])) :
    Calls Try.prog 36 #[.pointer (some ⟨hb, 0, none⟩)] w fun e w' => e = .returned (.bool true) ∧ w = w' := by
  have hn := neq_fn fid
  go_enter Try.func36, Try.ntmps36
  go_wp2
  all_goals
    go_ret
    exact ⟨rfl, rfl⟩

set_option maxHeartbeats 1000000 in
theorem before_lt (hb : Nat) (fid : FuncId) (ls : Int → Int → Int → Int → Bool) (HL : Less fid ls) (a b : It) (w : World) (hc : w.cell? ⟨hb, 0, none⟩ = some (.func (.func fid) #[] #[])) (hs : hb < w.heap.size) (ho : a.ord < b.ord) :
    Calls Try.prog 38 #[.pointer (some ⟨hb, 0, none⟩), .agg #[.int .i64 a.key, .int .i64 a.name, .int .i64 a.ord], .agg #[.int .i64 b.key, .int .i64 b.name, .int .i64 b.ord]] w fun e w' => e = .returned (.bool (bfr ls a b)) ∧ Below w.heap.size w w' := by
  have d := decide_eq_true ho
  have hs1 : hb < w.heap.size + 1 := by omega
  have hs2 : hb < w.heap.size + 1 + 1 := by omega
  have he := HL.enters
  have HC := Lib.hid HL.calls
  have HV := Lib.hid (show bfr ls a b = !(ls b.key b.name a.key a.name) by unfold bfr; rw [if_pos ho])
  go_enter Try.func38, Try.ntmps38
  go_wp2_with fail
  refine wp_region_ext (by kernel_rfl) (by kernel_rfl) ?_
  repeat (go_big_quiet_step (exact Calls.extq (HC.out _ _ _ _ _)))
  refine wpQuiet_nil ?_
  rintro _ ⟨x1, rfl⟩
  go_wp2
  all_goals
    go_ret
    refine ⟨ret_bool HV.out.symm, ?_⟩
    (repeat (first | exact Below.refl _ _ | refine Below.setCell ?_ ?_ _ | refine Ext.below ?_ ?_ _ | refine Below.alloc ?_ ?_ _)) <;> (first | (simp; done) | (simp; omega) | omega)

set_option maxHeartbeats 1000000 in
theorem before_ge (hb : Nat) (fid : FuncId) (ls : Int → Int → Int → Int → Bool) (HL : Less fid ls) (a b : It) (w : World) (hc : w.cell? ⟨hb, 0, none⟩ = some (.func (.func fid) #[] #[])) (hs : hb < w.heap.size) (ho : ¬ a.ord < b.ord) :
    Calls Try.prog 38 #[.pointer (some ⟨hb, 0, none⟩), .agg #[.int .i64 a.key, .int .i64 a.name, .int .i64 a.ord], .agg #[.int .i64 b.key, .int .i64 b.name, .int .i64 b.ord]] w fun e w' => e = .returned (.bool (bfr ls a b)) ∧ Below w.heap.size w w' := by
  have d := decide_eq_false ho
  have hs1 : hb < w.heap.size + 1 := by omega
  have hs2 : hb < w.heap.size + 1 + 1 := by omega
  have he := HL.enters
  have HC := Lib.hid HL.calls
  have HV := Lib.hid (show bfr ls a b = ls a.key a.name b.key b.name by unfold bfr; rw [if_neg ho])
  go_enter Try.func38, Try.ntmps38
  go_wp2_with fail
  refine wp_region_ext (by kernel_rfl) (by kernel_rfl) ?_
  repeat (go_big_quiet_step (exact Calls.extq (HC.out _ _ _ _ _)))
  refine wpQuiet_nil ?_
  rintro _ ⟨x1, rfl⟩
  go_wp2
  all_goals
    go_ret
    refine ⟨ret_bool HV.out.symm, ?_⟩
    (repeat (first | exact Below.refl _ _ | refine Below.setCell ?_ ?_ _ | refine Ext.below ?_ ?_ _ | refine Below.alloc ?_ ?_ _)) <;> (first | (simp; done) | (simp; omega) | omega)

theorem before_any (hb : Nat) (fid : FuncId) (ls : Int → Int → Int → Int → Bool) (HL : Less fid ls) (a b : It) (w : World) (hc : w.cell? ⟨hb, 0, none⟩ = some (.func (.func fid) #[] #[])) (hs : hb < w.heap.size) :
    Calls Try.prog 38 #[.pointer (some ⟨hb, 0, none⟩), .agg #[.int .i64 a.key, .int .i64 a.name, .int .i64 a.ord], .agg #[.int .i64 b.key, .int .i64 b.name, .int .i64 b.ord]] w fun e w' => e = .returned (.bool (bfr ls a b)) ∧ Below w.heap.size w w' := by
  by_cases ho : a.ord < b.ord
  · exact before_lt hb fid ls HL a b w hc hs ho
  · exact before_ge hb fid ls HL a b w hc hs ho

end Go.Proofs.Ytekdjjfbkcgmhaa
