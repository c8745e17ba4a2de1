/-
  What is proved here: what the small functions of package interval return.
-/
import Derived.Test.YtjkjcnamlankoaaIvWord
namespace Go.Proofs.Ytjkjcnamlankoaa
open Go.RowKit

set_option maxHeartbeats 400000 in
theorem full_any  (w : World) :
    Calls Try.prog 18 #[] w fun e w' => e = .returned (.agg #[.int .i32 (-2147483648), .int .i32 2147483647]) ∧ Below w.heap.size w w' := by
  go_enter Try.func18, Try.ntmps18
  go_wp2
  all_goals
    refine bodyPost_ret (v := .agg #[.int .i32 (-2147483648), .int .i32 2147483647]) ?hr rfl ⟨rfl, ?bel⟩
    case hr =>
      simp [results, Try.results18, go_sem]
    case bel =>
      (repeat (first | exact Below.refl _ _ | refine Below.setCell ?_ ?_ _ | refine Ext.below ?_ ?_ _ | refine Below.alloc ?_ ?_ _)) <;> (first | (simp; done) | (simp; omega) | omega)

set_option maxHeartbeats 400000 in
theorem empty_any  (w : World) :
    Calls Try.prog 22 #[] w fun e w' => e = .returned (.agg #[.int .i32 1, .int .i32 0]) ∧ Below w.heap.size w w' := by
  go_enter Try.func22, Try.ntmps22
  go_wp2
  all_goals
    refine bodyPost_ret (v := .agg #[.int .i32 1, .int .i32 0]) ?hr rfl ⟨rfl, ?bel⟩
    case hr =>
      simp [results, Try.results22, go_sem]
    case bel =>
      (repeat (first | exact Below.refl _ _ | refine Below.setCell ?_ ?_ _ | refine Ext.below ?_ ?_ _ | refine Below.alloc ?_ ?_ _)) <;> (first | (simp; done) | (simp; omega) | omega)

set_option maxHeartbeats 400000 in
theorem of_any (n : Int) (w : World) :
    Calls Try.prog 21 #[.int .i32 n] w fun e w' => e = .returned (.agg #[.int .i32 n, .int .i32 n]) ∧ Below w.heap.size w w' := by
  go_enter Try.func21, Try.ntmps21
  go_wp2
  all_goals
    refine bodyPost_ret (v := .agg #[.int .i32 n, .int .i32 n]) ?hr rfl ⟨rfl, ?bel⟩
    case hr =>
      simp [results, Try.results21, go_sem]
    case bel =>
      (repeat (first | exact Below.refl _ _ | refine Below.setCell ?_ ?_ _ | refine Ext.below ?_ ?_ _ | refine Below.alloc ?_ ?_ _)) <;> (first | (simp; done) | (simp; omega) | omega)

set_option maxHeartbeats 400000 in
theorem isEmpty_any (xl xh : Int) (w : World) :
    Calls Try.prog 19 #[.agg #[.int .i32 xl, .int .i32 xh]] w fun e w' => e = .returned (.bool (decide (xh < xl))) ∧ Below w.heap.size w w' := by
  go_enter Try.func19, Try.ntmps19
  go_wp2
  all_goals
    go_ret
    refine ⟨rfl, ?_⟩
    (repeat (first | exact Below.refl _ _ | refine Below.setCell ?_ ?_ _ | refine Ext.below ?_ ?_ _ | refine Below.alloc ?_ ?_ _)) <;> (first | (simp; done) | (simp; omega) | omega)

set_option maxHeartbeats 400000 in
theorem single_any (xl xh : Int) (w : World) :
    Calls Try.prog 28 #[.agg #[.int .i32 xl, .int .i32 xh]] w fun e w' => e = .returned (.bool (xl == xh)) ∧ Below w.heap.size w w' := by
  go_enter Try.func28, Try.ntmps28
  go_wp2
  all_goals
    go_ret
    refine ⟨rfl, ?_⟩
    (repeat (first | exact Below.refl _ _ | refine Below.setCell ?_ ?_ _ | refine Ext.below ?_ ?_ _ | refine Below.alloc ?_ ?_ _)) <;> (first | (simp; done) | (simp; omega) | omega)

set_option maxHeartbeats 400000 in
theorem contains_any (xl xh n : Int) (w : World) :
    Calls Try.prog 17 #[.agg #[.int .i32 xl, .int .i32 xh], .int .i32 n] w fun e w' => e = .returned (.bool (decide (xl ≤ n) && decide (n ≤ xh))) ∧ Below w.heap.size w w' := by
  by_cases h1 : xl ≤ n
  · have d1 : decide (xl ≤ n) = true := by simpa using h1
    go_enter Try.func17, Try.ntmps17
    go_wp2
    all_goals
      go_ret
      refine ⟨by simp [d1], ?_⟩
      (repeat (first | exact Below.refl _ _ | refine Below.setCell ?_ ?_ _ | refine Ext.below ?_ ?_ _ | refine Below.alloc ?_ ?_ _)) <;> (first | (simp; done) | (simp; omega) | omega)

  · have d1 : decide (xl ≤ n) = false := by simpa using h1
    go_enter Try.func17, Try.ntmps17
    go_wp2
    all_goals
      go_ret
      refine ⟨by simp, ?_⟩
      (repeat (first | exact Below.refl _ _ | refine Below.setCell ?_ ?_ _ | refine Ext.below ?_ ?_ _ | refine Below.alloc ?_ ?_ _)) <;> (first | (simp; done) | (simp; omega) | omega)


def trI (a n : Bool) : Int × Int := if a then (1, 1) else if n then (0, 0) else (0, 1)
set_option maxHeartbeats 400000 in
theorem itruth_true_true  (w : World) :
    Calls Try.prog 53 #[.bool true, .bool true] w fun e w' => e = .returned (.agg #[.int .i32 (trI true true).1, .int .i32 (trI true true).2]) ∧ Below w.heap.size w w' := by
  go_enter Try.func53, Try.ntmps53
  go_wp2_with (first | (go_at_call 21; ((first | (with_reducible refine (Calls.extq (of_any _ _)).mono ?_) | (refine (Calls.ext (of_any _ _)).mono ?_)); rintro e _ ⟨rfl, y, rfl⟩)))
  all_goals
    refine bodyPost_ret (v := .agg #[.int .i32 (trI true true).1, .int .i32 (trI true true).2]) ?hr rfl ⟨rfl, ?bel⟩
    case hr =>
      simp [trI, results, Try.results53, go_sem]
    case bel =>
      (repeat (first | exact Below.refl _ _ | refine Below.setCell ?_ ?_ _ | refine Ext.below ?_ ?_ _ | refine Below.alloc ?_ ?_ _)) <;> (first | (simp; done) | (simp; omega) | omega)

set_option maxHeartbeats 400000 in
theorem itruth_true_false  (w : World) :
    Calls Try.prog 53 #[.bool true, .bool false] w fun e w' => e = .returned (.agg #[.int .i32 (trI true false).1, .int .i32 (trI true false).2]) ∧ Below w.heap.size w w' := by
  go_enter Try.func53, Try.ntmps53
  go_wp2_with (first | (go_at_call 21; ((first | (with_reducible refine (Calls.extq (of_any _ _)).mono ?_) | (refine (Calls.ext (of_any _ _)).mono ?_)); rintro e _ ⟨rfl, y, rfl⟩)))
  all_goals
    refine bodyPost_ret (v := .agg #[.int .i32 (trI true false).1, .int .i32 (trI true false).2]) ?hr rfl ⟨rfl, ?bel⟩
    case hr =>
      simp [trI, results, Try.results53, go_sem]
    case bel =>
      (repeat (first | exact Below.refl _ _ | refine Below.setCell ?_ ?_ _ | refine Ext.below ?_ ?_ _ | refine Below.alloc ?_ ?_ _)) <;> (first | (simp; done) | (simp; omega) | omega)

set_option maxHeartbeats 400000 in
theorem itruth_false_true  (w : World) :
    Calls Try.prog 53 #[.bool false, .bool true] w fun e w' => e = .returned (.agg #[.int .i32 (trI false true).1, .int .i32 (trI false true).2]) ∧ Below w.heap.size w w' := by
  go_enter Try.func53, Try.ntmps53
  go_wp2_with (first | (go_at_call 21; ((first | (with_reducible refine (Calls.extq (of_any _ _)).mono ?_) | (refine (Calls.ext (of_any _ _)).mono ?_)); rintro e _ ⟨rfl, y, rfl⟩)))
  all_goals
    refine bodyPost_ret (v := .agg #[.int .i32 (trI false true).1, .int .i32 (trI false true).2]) ?hr rfl ⟨rfl, ?bel⟩
    case hr =>
      simp [trI, results, Try.results53, go_sem]
    case bel =>
      (repeat (first | exact Below.refl _ _ | refine Below.setCell ?_ ?_ _ | refine Ext.below ?_ ?_ _ | refine Below.alloc ?_ ?_ _)) <;> (first | (simp; done) | (simp; omega) | omega)

set_option maxHeartbeats 400000 in
theorem itruth_false_false  (w : World) :
    Calls Try.prog 53 #[.bool false, .bool false] w fun e w' => e = .returned (.agg #[.int .i32 (trI false false).1, .int .i32 (trI false false).2]) ∧ Below w.heap.size w w' := by
  go_enter Try.func53, Try.ntmps53
  go_wp2_with (first | (go_at_call 21; ((first | (with_reducible refine (Calls.extq (of_any _ _)).mono ?_) | (refine (Calls.ext (of_any _ _)).mono ?_)); rintro e _ ⟨rfl, y, rfl⟩)))
  all_goals
    refine bodyPost_ret (v := .agg #[.int .i32 (trI false false).1, .int .i32 (trI false false).2]) ?hr rfl ⟨rfl, ?bel⟩
    case hr =>
      simp [trI, results, Try.results53, go_sem]
    case bel =>
      (repeat (first | exact Below.refl _ _ | refine Below.setCell ?_ ?_ _ | refine Ext.below ?_ ?_ _ | refine Below.alloc ?_ ?_ _)) <;> (first | (simp; done) | (simp; omega) | omega)

theorem itruth_any (a n : Bool) (w : World) : Calls Try.prog 53 #[.bool a, .bool n] w fun e w' => e = .returned (.agg #[.int .i32 (trI a n).1, .int .i32 (trI a n).2]) ∧ Below w.heap.size w w' := by
  cases a <;> cases n
  · exact itruth_false_false w
  · exact itruth_false_true w
  · exact itruth_true_false w
  · exact itruth_true_true w


end Go.Proofs.Ytjkjcnamlankoaa
