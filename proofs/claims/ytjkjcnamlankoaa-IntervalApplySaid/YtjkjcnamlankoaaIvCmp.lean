/-
  What is proved here: what interval.compare and interval.logic return.
-/
import Derived.Test.YtjkjcnamlankoaaIvHelp
import Derived.Test.YtjkjcnamlankoaaQTail
namespace Go.Proofs.Ytjkjcnamlankoaa
open Go.RowKit

/-- The result of a comparison. -/
def cmpI (op : Int) (x y : Int × Int) : Int × Int :=
  if op = 16 then trI false (emp (meetI x y)) else if op = 17 then trI (emp (meetI x y)) false
  else if op = 18 then trI (decide (x.2 < y.1)) (decide (y.2 ≤ x.1)) else if op = 19 then trI (decide (x.2 ≤ y.1)) (decide (y.2 < x.1))
  else if op = 20 then trI (decide (y.2 < x.1)) (decide (x.2 ≤ y.1)) else trI (decide (y.2 ≤ x.1)) (decide (x.2 < y.1))
def has0 (x : Int × Int) : Bool := decide (x.1 ≤ 0) && decide (0 ≤ x.2)
def is0 (x : Int × Int) : Bool := x.1 == 0 && x.2 == 0
/-- The result of && and ||. -/
def logI (op : Int) (x y : Int × Int) : Int × Int :=
  if op = 22 then trI (!has0 x && !has0 y) (is0 x || is0 y) else trI (!has0 x || !has0 y) (is0 x && is0 y)

/-- Two intervals that came in, the result's cell, and one variable of the function's own. -/
theorem two_one_base (xl xh yl yh zl zh : Int) (w : World) (y : Ext (((w.alloc (Obj.cells #[Value.int IntKind.i32 xl, Value.int IntKind.i32 xh] 23)).alloc (Obj.cells #[Value.int IntKind.i32 yl, Value.int IntKind.i32 yh] 23)).alloc (Obj.cells #[Value.int IntKind.i32 0, Value.int IntKind.i32 0] 23))) :
    ∃ (W : World) (g : Nat), y.w.alloc (Obj.cells #[Value.int IntKind.i32 zl, Value.int IntKind.i32 zh] 23) = W ∧ y.w.heap.size = g ∧ Below w.heap.size w W ∧ w.heap.size < W.heap.size ∧ w.heap.size + 1 < W.heap.size ∧ w.heap.size + 1 + 1 < W.heap.size ∧ w.heap.size + 1 + 1 < g ∧ g < W.heap.size ∧ W.cell? ⟨w.heap.size, 0, none⟩ = some (.int .i32 xl) ∧ W.frozen? ⟨w.heap.size, 0, none⟩ = false ∧ W.cell? ⟨w.heap.size, 1, none⟩ = some (.int .i32 xh) ∧ W.frozen? ⟨w.heap.size, 1, none⟩ = false ∧ W.cell? ⟨w.heap.size + 1, 0, none⟩ = some (.int .i32 yl) ∧ W.frozen? ⟨w.heap.size + 1, 0, none⟩ = false ∧ W.cell? ⟨w.heap.size + 1, 1, none⟩ = some (.int .i32 yh) ∧ W.frozen? ⟨w.heap.size + 1, 1, none⟩ = false ∧ W.cell? ⟨w.heap.size + 1 + 1, 0, none⟩ = some (.int .i32 0) ∧ W.frozen? ⟨w.heap.size + 1 + 1, 0, none⟩ = false ∧ W.cell? ⟨w.heap.size + 1 + 1, 1, none⟩ = some (.int .i32 0) ∧ W.frozen? ⟨w.heap.size + 1 + 1, 1, none⟩ = false ∧ W.cell? ⟨g, 0, none⟩ = some (.int .i32 zl) ∧ W.frozen? ⟨g, 0, none⟩ = false ∧ W.cell? ⟨g, 1, none⟩ = some (.int .i32 zh) ∧ W.frozen? ⟨g, 1, none⟩ = false := by
  have hs : w.heap.size + 1 + 1 + 1 ≤ y.w.heap.size := ks_of y.h
  have s0 : w.heap.size < y.w.heap.size := by omega
  have s1 : w.heap.size + 1 < y.w.heap.size := by omega
  have s2 : w.heap.size + 1 + 1 < y.w.heap.size := by omega
  refine ⟨_, _, rfl, rfl, ?_, ?_, ?_, ?_, s2, by simp, ?_⟩
  · (repeat (first | exact Below.refl _ _ | refine Below.setCell ?_ ?_ _ | refine Ext.below ?_ ?_ _ | refine Below.alloc ?_ ?_ _)) <;> (first | (simp; done) | (simp; omega) | omega)
  · rw [World.size_alloc]; omega
  · rw [World.size_alloc]; omega
  · rw [World.size_alloc]; omega
  · refine ⟨?_, ?_, ?_, ?_, ?_, ?_, ?_, ?_, ?_, ?_, ?_, ?_, ?_, ?_, ?_, ?_⟩
    all_goals (go_simp; done)

set_option maxRecDepth 100000 in
set_option maxHeartbeats 400000 in
theorem compare_16 (xl xh yl yh : Int) (w : World) :
    Calls Try.prog 35 #[.int .u8 16, .agg #[.int .i32 xl, .int .i32 xh], .agg #[.int .i32 yl, .int .i32 yh]] w fun e w' => e = .returned (.agg #[.int .i32 (trI false (emp (meetI (xl, xh) (yl, yh)))).1, .int .i32 (trI false (emp (meetI (xl, xh) (yl, yh)))).2]) ∧ Below w.heap.size w w' := by
  go_enter Try.func35, Try.ntmps35
  go_wp2_with (first | (go_at_call 26; ((first | (with_reducible refine (Calls.extq (meet_any _ _ _ _ _)).mono ?_) | (refine (Calls.ext (meet_any _ _ _ _ _)).mono ?_)); rintro e _ ⟨rfl, y, rfl⟩)) | (go_at_call 19; ((first | (with_reducible refine (Calls.extq (isEmpty_any _ _ _)).mono ?_) | (refine (Calls.ext (isEmpty_any _ _ _)).mono ?_)); rintro e _ ⟨rfl, y, rfl⟩)) | (go_at_call 53; ((first | (with_reducible refine (Calls.extq (itruth_any _ _ _)).mono ?_) | (refine (Calls.ext (itruth_any _ _ _)).mono ?_)); rintro e _ ⟨rfl, y, rfl⟩)))
  all_goals
    refine bodyPost_ret (v := .agg #[.int .i32 (trI false (emp (meetI (xl, xh) (yl, yh)))).1, .int .i32 (trI false (emp (meetI (xl, xh) (yl, yh)))).2]) ?hr rfl ⟨rfl, ?bel⟩
    case hr =>
      simp [results, Try.results35, go_sem]
      exact ⟨rfl, rfl⟩
    case bel =>
      (repeat (first | exact Below.refl _ _ | refine Below.setCell ?_ ?_ _ | refine Ext.below ?_ ?_ _ | refine Below.alloc ?_ ?_ _)) <;> (first | (simp; done) | (simp; omega) | omega)

set_option maxRecDepth 100000 in
set_option maxHeartbeats 400000 in
theorem compare_17 (xl xh yl yh : Int) (w : World) :
    Calls Try.prog 35 #[.int .u8 17, .agg #[.int .i32 xl, .int .i32 xh], .agg #[.int .i32 yl, .int .i32 yh]] w fun e w' => e = .returned (.agg #[.int .i32 (trI (emp (meetI (xl, xh) (yl, yh))) false).1, .int .i32 (trI (emp (meetI (xl, xh) (yl, yh))) false).2]) ∧ Below w.heap.size w w' := by
  go_enter Try.func35, Try.ntmps35
  go_wp2_with (first | (go_at_call 26; ((first | (with_reducible refine (Calls.extq (meet_any _ _ _ _ _)).mono ?_) | (refine (Calls.ext (meet_any _ _ _ _ _)).mono ?_)); rintro e _ ⟨rfl, y, rfl⟩)) | (go_at_call 19; ((first | (with_reducible refine (Calls.extq (isEmpty_any _ _ _)).mono ?_) | (refine (Calls.ext (isEmpty_any _ _ _)).mono ?_)); rintro e _ ⟨rfl, y, rfl⟩)) | (go_at_call 53; ((first | (with_reducible refine (Calls.extq (itruth_any _ _ _)).mono ?_) | (refine (Calls.ext (itruth_any _ _ _)).mono ?_)); rintro e _ ⟨rfl, y, rfl⟩)))
  all_goals
    refine bodyPost_ret (v := .agg #[.int .i32 (trI (emp (meetI (xl, xh) (yl, yh))) false).1, .int .i32 (trI (emp (meetI (xl, xh) (yl, yh))) false).2]) ?hr rfl ⟨rfl, ?bel⟩
    case hr =>
      simp [results, Try.results35, go_sem]
      exact ⟨rfl, rfl⟩
    case bel =>
      (repeat (first | exact Below.refl _ _ | refine Below.setCell ?_ ?_ _ | refine Ext.below ?_ ?_ _ | refine Below.alloc ?_ ?_ _)) <;> (first | (simp; done) | (simp; omega) | omega)

set_option maxRecDepth 100000 in
set_option maxHeartbeats 400000 in
theorem compare_18 (xl xh yl yh : Int) (w : World) :
    Calls Try.prog 35 #[.int .u8 18, .agg #[.int .i32 xl, .int .i32 xh], .agg #[.int .i32 yl, .int .i32 yh]] w fun e w' => e = .returned (.agg #[.int .i32 (trI (decide (xh < yl)) (decide (yh ≤ xl))).1, .int .i32 (trI (decide (xh < yl)) (decide (yh ≤ xl))).2]) ∧ Below w.heap.size w w' := by
  go_enter Try.func35, Try.ntmps35
  go_wp2_with (first | (go_at_call 26; ((first | (with_reducible refine (Calls.extq (meet_any _ _ _ _ _)).mono ?_) | (refine (Calls.ext (meet_any _ _ _ _ _)).mono ?_)); rintro e _ ⟨rfl, y, rfl⟩)) | (go_at_call 19; ((first | (with_reducible refine (Calls.extq (isEmpty_any _ _ _)).mono ?_) | (refine (Calls.ext (isEmpty_any _ _ _)).mono ?_)); rintro e _ ⟨rfl, y, rfl⟩)) | (go_at_call 53; ((first | (with_reducible refine (Calls.extq (itruth_any _ _ _)).mono ?_) | (refine (Calls.ext (itruth_any _ _ _)).mono ?_)); rintro e _ ⟨rfl, y, rfl⟩)))
  all_goals
    refine bodyPost_ret (v := .agg #[.int .i32 (trI (decide (xh < yl)) (decide (yh ≤ xl))).1, .int .i32 (trI (decide (xh < yl)) (decide (yh ≤ xl))).2]) ?hr rfl ⟨rfl, ?bel⟩
    case hr =>
      simp [results, Try.results35, go_sem]
    case bel =>
      (repeat (first | exact Below.refl _ _ | refine Below.setCell ?_ ?_ _ | refine Ext.below ?_ ?_ _ | refine Below.alloc ?_ ?_ _)) <;> (first | (simp; done) | (simp; omega) | omega)

set_option maxRecDepth 100000 in
set_option maxHeartbeats 400000 in
theorem compare_19 (xl xh yl yh : Int) (w : World) :
    Calls Try.prog 35 #[.int .u8 19, .agg #[.int .i32 xl, .int .i32 xh], .agg #[.int .i32 yl, .int .i32 yh]] w fun e w' => e = .returned (.agg #[.int .i32 (trI (decide (xh ≤ yl)) (decide (yh < xl))).1, .int .i32 (trI (decide (xh ≤ yl)) (decide (yh < xl))).2]) ∧ Below w.heap.size w w' := by
  go_enter Try.func35, Try.ntmps35
  go_wp2_with (first | (go_at_call 26; ((first | (with_reducible refine (Calls.extq (meet_any _ _ _ _ _)).mono ?_) | (refine (Calls.ext (meet_any _ _ _ _ _)).mono ?_)); rintro e _ ⟨rfl, y, rfl⟩)) | (go_at_call 19; ((first | (with_reducible refine (Calls.extq (isEmpty_any _ _ _)).mono ?_) | (refine (Calls.ext (isEmpty_any _ _ _)).mono ?_)); rintro e _ ⟨rfl, y, rfl⟩)) | (go_at_call 53; ((first | (with_reducible refine (Calls.extq (itruth_any _ _ _)).mono ?_) | (refine (Calls.ext (itruth_any _ _ _)).mono ?_)); rintro e _ ⟨rfl, y, rfl⟩)))
  all_goals
    refine bodyPost_ret (v := .agg #[.int .i32 (trI (decide (xh ≤ yl)) (decide (yh < xl))).1, .int .i32 (trI (decide (xh ≤ yl)) (decide (yh < xl))).2]) ?hr rfl ⟨rfl, ?bel⟩
    case hr =>
      simp [results, Try.results35, go_sem]
    case bel =>
      (repeat (first | exact Below.refl _ _ | refine Below.setCell ?_ ?_ _ | refine Ext.below ?_ ?_ _ | refine Below.alloc ?_ ?_ _)) <;> (first | (simp; done) | (simp; omega) | omega)

set_option maxRecDepth 100000 in
set_option maxHeartbeats 400000 in
theorem compare_20 (xl xh yl yh : Int) (w : World) :
    Calls Try.prog 35 #[.int .u8 20, .agg #[.int .i32 xl, .int .i32 xh], .agg #[.int .i32 yl, .int .i32 yh]] w fun e w' => e = .returned (.agg #[.int .i32 (trI (decide (yh < xl)) (decide (xh ≤ yl))).1, .int .i32 (trI (decide (yh < xl)) (decide (xh ≤ yl))).2]) ∧ Below w.heap.size w w' := by
  go_enter Try.func35, Try.ntmps35
  go_wp2_with (first | (go_at_call 26; ((first | (with_reducible refine (Calls.extq (meet_any _ _ _ _ _)).mono ?_) | (refine (Calls.ext (meet_any _ _ _ _ _)).mono ?_)); rintro e _ ⟨rfl, y, rfl⟩)) | (go_at_call 19; ((first | (with_reducible refine (Calls.extq (isEmpty_any _ _ _)).mono ?_) | (refine (Calls.ext (isEmpty_any _ _ _)).mono ?_)); rintro e _ ⟨rfl, y, rfl⟩)) | (go_at_call 53; ((first | (with_reducible refine (Calls.extq (itruth_any _ _ _)).mono ?_) | (refine (Calls.ext (itruth_any _ _ _)).mono ?_)); rintro e _ ⟨rfl, y, rfl⟩)))
  all_goals
    refine bodyPost_ret (v := .agg #[.int .i32 (trI (decide (yh < xl)) (decide (xh ≤ yl))).1, .int .i32 (trI (decide (yh < xl)) (decide (xh ≤ yl))).2]) ?hr rfl ⟨rfl, ?bel⟩
    case hr =>
      simp [results, Try.results35, go_sem]
    case bel =>
      (repeat (first | exact Below.refl _ _ | refine Below.setCell ?_ ?_ _ | refine Ext.below ?_ ?_ _ | refine Below.alloc ?_ ?_ _)) <;> (first | (simp; done) | (simp; omega) | omega)

set_option maxRecDepth 100000 in
set_option maxHeartbeats 400000 in
theorem compare_21 (xl xh yl yh : Int) (w : World) :
    Calls Try.prog 35 #[.int .u8 21, .agg #[.int .i32 xl, .int .i32 xh], .agg #[.int .i32 yl, .int .i32 yh]] w fun e w' => e = .returned (.agg #[.int .i32 (trI (decide (yh ≤ xl)) (decide (xh < yl))).1, .int .i32 (trI (decide (yh ≤ xl)) (decide (xh < yl))).2]) ∧ Below w.heap.size w w' := by
  go_enter Try.func35, Try.ntmps35
  go_wp2_with (first | (go_at_call 26; ((first | (with_reducible refine (Calls.extq (meet_any _ _ _ _ _)).mono ?_) | (refine (Calls.ext (meet_any _ _ _ _ _)).mono ?_)); rintro e _ ⟨rfl, y, rfl⟩)) | (go_at_call 19; ((first | (with_reducible refine (Calls.extq (isEmpty_any _ _ _)).mono ?_) | (refine (Calls.ext (isEmpty_any _ _ _)).mono ?_)); rintro e _ ⟨rfl, y, rfl⟩)) | (go_at_call 53; ((first | (with_reducible refine (Calls.extq (itruth_any _ _ _)).mono ?_) | (refine (Calls.ext (itruth_any _ _ _)).mono ?_)); rintro e _ ⟨rfl, y, rfl⟩)))
  all_goals
    refine bodyPost_ret (v := .agg #[.int .i32 (trI (decide (yh ≤ xl)) (decide (xh < yl))).1, .int .i32 (trI (decide (yh ≤ xl)) (decide (xh < yl))).2]) ?hr rfl ⟨rfl, ?bel⟩
    case hr =>
      simp [results, Try.results35, go_sem]
    case bel =>
      (repeat (first | exact Below.refl _ _ | refine Below.setCell ?_ ?_ _ | refine Ext.below ?_ ?_ _ | refine Below.alloc ?_ ?_ _)) <;> (first | (simp; done) | (simp; omega) | omega)

theorem compare_any (op xl xh yl yh : Int) (w : World) (h1 : 16 ≤ op) (h2 : op ≤ 21) :
    Calls Try.prog 35 #[.int .u8 op, .agg #[.int .i32 xl, .int .i32 xh], .agg #[.int .i32 yl, .int .i32 yh]] w fun e w' => e = .returned (.agg #[.int .i32 (cmpI op (xl, xh) (yl, yh)).1, .int .i32 (cmpI op (xl, xh) (yl, yh)).2]) ∧ Below w.heap.size w w' := by
  have h : op = 16 ∨ op = 17 ∨ op = 18 ∨ op = 19 ∨ op = 20 ∨ op = 21 := by omega
  rcases h with rfl | rfl | rfl | rfl | rfl | rfl
  · exact compare_16 xl xh yl yh w
  · exact compare_17 xl xh yl yh w
  · exact compare_18 xl xh yl yh w
  · exact compare_19 xl xh yl yh w
  · exact compare_20 xl xh yl yh w
  · exact compare_21 xl xh yl yh w

set_option maxRecDepth 100000 in
set_option maxHeartbeats 1000000 in
theorem logic_22_ff (xl xh yl yh : Int) (w : World) (b2 z2 : Bool) (BX : Hid ((decide (xl ≤ 0) && decide (0 ≤ xh)) = false)) (BY : Hid ((decide (yl ≤ 0) && decide (0 ≤ yh)) = b2)) (zx : (xl == 0 && xh == 0) = false) (zy : (yl == 0 && yh == 0) = z2) :
    Calls Try.prog 34 #[.int .u8 22, .agg #[.int .i32 xl, .int .i32 xh], .agg #[.int .i32 yl, .int .i32 yh]] w fun e w' => e = .returned (.agg #[.int .i32 (trI (!false && !b2) (false || z2)).1, .int .i32 (trI (!false && !b2) (false || z2)).2]) ∧ Below w.heap.size w w' := by
  have _k : True := by have _ := BX; have _ := BY; have _ := zx; have _ := zy; trivial
  have e2 := eq_iv
  go_enter Try.func34, Try.ntmps34
  go_wp2_with fail
  refine (Calls.ext (of_any _ _)).mono ?_
  rintro e _ ⟨rfl, y, rfl⟩
  go_wp2_with fail
  obtain ⟨W, g, hW, hg, kB, z0, z1, z2', z3, z4, c1, f1, c2, f2, c3, f3, c4, f4, c5, f5, c6, f6, c7, f7, c8, f8⟩ := two_one_base xl xh yl yh 0 0 w y
  rw [hW, hg]
  clear hW hg y
  refine wp_region_ext_tail 17 (by kernel_rfl) (by kernel_rfl) ?_
  simp only [List.take_succ_cons, List.take_zero, List.drop_succ_cons, List.drop_zero]
  repeat (go_big_quiet_step (first | (go_at_call 17; (first | (with_reducible exact Calls.extq (lit_of (contains_any _ _ _ _) BX.out)) | (with_reducible exact Calls.extq (lit_of (contains_any _ _ _ _) BY.out)))) | (go_at_call 53; exact Calls.extq (itruth_any _ _ _))))
  refine wpQuiet_nil ?_
  rintro _ ⟨x1, rfl⟩
  go_wp2_with fail
  refine bodyPost_ret (v := .agg #[.int .i32 (trI (!false && !b2) (false || z2)).1, .int .i32 (trI (!false && !b2) (false || z2)).2]) ?hr rfl ⟨rfl, ?bel⟩
  case hr =>
    simp [results, Try.results34, go_sem, c5, c6, z2']
  case bel =>
    (repeat (first | assumption | refine Below.setCell ?_ ?_ _ | refine Ext.below ?_ ?_ _ | refine Below.alloc ?_ ?_ _)) <;> (first | (simp; done) | (simp; omega) | omega)

set_option maxRecDepth 100000 in
set_option maxHeartbeats 1000000 in
theorem logic_22_ft (xl xh yl yh : Int) (w : World) (b2 z2 : Bool) (BX : Hid ((decide (xl ≤ 0) && decide (0 ≤ xh)) = false)) (BY : Hid ((decide (yl ≤ 0) && decide (0 ≤ yh)) = b2)) (zx : (xl == 0 && xh == 0) = true) (zy : (yl == 0 && yh == 0) = z2) :
    Calls Try.prog 34 #[.int .u8 22, .agg #[.int .i32 xl, .int .i32 xh], .agg #[.int .i32 yl, .int .i32 yh]] w fun e w' => e = .returned (.agg #[.int .i32 (trI (!false && !b2) (true || z2)).1, .int .i32 (trI (!false && !b2) (true || z2)).2]) ∧ Below w.heap.size w w' := by
  have _k : True := by have _ := BX; have _ := BY; have _ := zx; have _ := zy; trivial
  have e2 := eq_iv
  go_enter Try.func34, Try.ntmps34
  go_wp2_with fail
  refine (Calls.ext (of_any _ _)).mono ?_
  rintro e _ ⟨rfl, y, rfl⟩
  go_wp2_with fail
  obtain ⟨W, g, hW, hg, kB, z0, z1, z2', z3, z4, c1, f1, c2, f2, c3, f3, c4, f4, c5, f5, c6, f6, c7, f7, c8, f8⟩ := two_one_base xl xh yl yh 0 0 w y
  rw [hW, hg]
  clear hW hg y
  refine wp_region_ext_tail 17 (by kernel_rfl) (by kernel_rfl) ?_
  simp only [List.take_succ_cons, List.take_zero, List.drop_succ_cons, List.drop_zero]
  repeat (go_big_quiet_step (first | (go_at_call 17; (first | (with_reducible exact Calls.extq (lit_of (contains_any _ _ _ _) BX.out)) | (with_reducible exact Calls.extq (lit_of (contains_any _ _ _ _) BY.out)))) | (go_at_call 53; exact Calls.extq (itruth_any _ _ _))))
  refine wpQuiet_nil ?_
  rintro _ ⟨x1, rfl⟩
  go_wp2_with fail
  refine bodyPost_ret (v := .agg #[.int .i32 (trI (!false && !b2) (true || z2)).1, .int .i32 (trI (!false && !b2) (true || z2)).2]) ?hr rfl ⟨rfl, ?bel⟩
  case hr =>
    simp [results, Try.results34, go_sem, c5, c6, z2']
  case bel =>
    (repeat (first | assumption | refine Below.setCell ?_ ?_ _ | refine Ext.below ?_ ?_ _ | refine Below.alloc ?_ ?_ _)) <;> (first | (simp; done) | (simp; omega) | omega)

set_option maxRecDepth 100000 in
set_option maxHeartbeats 1000000 in
theorem logic_22_tf (xl xh yl yh : Int) (w : World) (b2 z2 : Bool) (BX : Hid ((decide (xl ≤ 0) && decide (0 ≤ xh)) = true)) (BY : Hid ((decide (yl ≤ 0) && decide (0 ≤ yh)) = b2)) (zx : (xl == 0 && xh == 0) = false) (zy : (yl == 0 && yh == 0) = z2) :
    Calls Try.prog 34 #[.int .u8 22, .agg #[.int .i32 xl, .int .i32 xh], .agg #[.int .i32 yl, .int .i32 yh]] w fun e w' => e = .returned (.agg #[.int .i32 (trI (!true && !b2) (false || z2)).1, .int .i32 (trI (!true && !b2) (false || z2)).2]) ∧ Below w.heap.size w w' := by
  have _k : True := by have _ := BX; have _ := BY; have _ := zx; have _ := zy; trivial
  have e2 := eq_iv
  go_enter Try.func34, Try.ntmps34
  go_wp2_with fail
  refine (Calls.ext (of_any _ _)).mono ?_
  rintro e _ ⟨rfl, y, rfl⟩
  go_wp2_with fail
  obtain ⟨W, g, hW, hg, kB, z0, z1, z2', z3, z4, c1, f1, c2, f2, c3, f3, c4, f4, c5, f5, c6, f6, c7, f7, c8, f8⟩ := two_one_base xl xh yl yh 0 0 w y
  rw [hW, hg]
  clear hW hg y
  refine wp_region_ext_tail 17 (by kernel_rfl) (by kernel_rfl) ?_
  simp only [List.take_succ_cons, List.take_zero, List.drop_succ_cons, List.drop_zero]
  repeat (go_big_quiet_step (first | (go_at_call 17; (first | (with_reducible exact Calls.extq (lit_of (contains_any _ _ _ _) BX.out)) | (with_reducible exact Calls.extq (lit_of (contains_any _ _ _ _) BY.out)))) | (go_at_call 53; exact Calls.extq (itruth_any _ _ _))))
  refine wpQuiet_nil ?_
  rintro _ ⟨x1, rfl⟩
  go_wp2_with fail
  refine bodyPost_ret (v := .agg #[.int .i32 (trI (!true && !b2) (false || z2)).1, .int .i32 (trI (!true && !b2) (false || z2)).2]) ?hr rfl ⟨rfl, ?bel⟩
  case hr =>
    simp [results, Try.results34, go_sem, c5, c6, z2']
  case bel =>
    (repeat (first | assumption | refine Below.setCell ?_ ?_ _ | refine Ext.below ?_ ?_ _ | refine Below.alloc ?_ ?_ _)) <;> (first | (simp; done) | (simp; omega) | omega)

set_option maxRecDepth 100000 in
set_option maxHeartbeats 1000000 in
theorem logic_22_tt (xl xh yl yh : Int) (w : World) (b2 z2 : Bool) (BX : Hid ((decide (xl ≤ 0) && decide (0 ≤ xh)) = true)) (BY : Hid ((decide (yl ≤ 0) && decide (0 ≤ yh)) = b2)) (zx : (xl == 0 && xh == 0) = true) (zy : (yl == 0 && yh == 0) = z2) :
    Calls Try.prog 34 #[.int .u8 22, .agg #[.int .i32 xl, .int .i32 xh], .agg #[.int .i32 yl, .int .i32 yh]] w fun e w' => e = .returned (.agg #[.int .i32 (trI (!true && !b2) (true || z2)).1, .int .i32 (trI (!true && !b2) (true || z2)).2]) ∧ Below w.heap.size w w' := by
  have _k : True := by have _ := BX; have _ := BY; have _ := zx; have _ := zy; trivial
  have e2 := eq_iv
  go_enter Try.func34, Try.ntmps34
  go_wp2_with fail
  refine (Calls.ext (of_any _ _)).mono ?_
  rintro e _ ⟨rfl, y, rfl⟩
  go_wp2_with fail
  obtain ⟨W, g, hW, hg, kB, z0, z1, z2', z3, z4, c1, f1, c2, f2, c3, f3, c4, f4, c5, f5, c6, f6, c7, f7, c8, f8⟩ := two_one_base xl xh yl yh 0 0 w y
  rw [hW, hg]
  clear hW hg y
  refine wp_region_ext_tail 17 (by kernel_rfl) (by kernel_rfl) ?_
  simp only [List.take_succ_cons, List.take_zero, List.drop_succ_cons, List.drop_zero]
  repeat (go_big_quiet_step (first | (go_at_call 17; (first | (with_reducible exact Calls.extq (lit_of (contains_any _ _ _ _) BX.out)) | (with_reducible exact Calls.extq (lit_of (contains_any _ _ _ _) BY.out)))) | (go_at_call 53; exact Calls.extq (itruth_any _ _ _))))
  refine wpQuiet_nil ?_
  rintro _ ⟨x1, rfl⟩
  go_wp2_with fail
  refine bodyPost_ret (v := .agg #[.int .i32 (trI (!true && !b2) (true || z2)).1, .int .i32 (trI (!true && !b2) (true || z2)).2]) ?hr rfl ⟨rfl, ?bel⟩
  case hr =>
    simp [results, Try.results34, go_sem, c5, c6, z2']
  case bel =>
    (repeat (first | assumption | refine Below.setCell ?_ ?_ _ | refine Ext.below ?_ ?_ _ | refine Below.alloc ?_ ?_ _)) <;> (first | (simp; done) | (simp; omega) | omega)

set_option maxRecDepth 100000 in
set_option maxHeartbeats 1000000 in
theorem logic_23_ff (xl xh yl yh : Int) (w : World) (b2 z2 : Bool) (BX : Hid ((decide (xl ≤ 0) && decide (0 ≤ xh)) = false)) (BY : Hid ((decide (yl ≤ 0) && decide (0 ≤ yh)) = b2)) (zx : (xl == 0 && xh == 0) = false) (zy : (yl == 0 && yh == 0) = z2) :
    Calls Try.prog 34 #[.int .u8 23, .agg #[.int .i32 xl, .int .i32 xh], .agg #[.int .i32 yl, .int .i32 yh]] w fun e w' => e = .returned (.agg #[.int .i32 (trI (!false || !b2) (false && z2)).1, .int .i32 (trI (!false || !b2) (false && z2)).2]) ∧ Below w.heap.size w w' := by
  have _k : True := by have _ := BX; have _ := BY; have _ := zx; have _ := zy; trivial
  have e2 := eq_iv
  go_enter Try.func34, Try.ntmps34
  go_wp2_with fail
  refine (Calls.ext (of_any _ _)).mono ?_
  rintro e _ ⟨rfl, y, rfl⟩
  go_wp2_with fail
  obtain ⟨W, g, hW, hg, kB, z0, z1, z2', z3, z4, c1, f1, c2, f2, c3, f3, c4, f4, c5, f5, c6, f6, c7, f7, c8, f8⟩ := two_one_base xl xh yl yh 0 0 w y
  rw [hW, hg]
  clear hW hg y
  refine wp_region_ext_tail 17 (by kernel_rfl) (by kernel_rfl) ?_
  simp only [List.take_succ_cons, List.take_zero, List.drop_succ_cons, List.drop_zero]
  repeat (go_big_quiet_step (first | (go_at_call 17; (first | (with_reducible exact Calls.extq (lit_of (contains_any _ _ _ _) BX.out)) | (with_reducible exact Calls.extq (lit_of (contains_any _ _ _ _) BY.out)))) | (go_at_call 53; exact Calls.extq (itruth_any _ _ _))))
  refine wpQuiet_nil ?_
  rintro _ ⟨x1, rfl⟩
  go_wp2_with fail
  refine bodyPost_ret (v := .agg #[.int .i32 (trI (!false || !b2) (false && z2)).1, .int .i32 (trI (!false || !b2) (false && z2)).2]) ?hr rfl ⟨rfl, ?bel⟩
  case hr =>
    simp [results, Try.results34, go_sem, c5, c6, z2']
  case bel =>
    (repeat (first | assumption | refine Below.setCell ?_ ?_ _ | refine Ext.below ?_ ?_ _ | refine Below.alloc ?_ ?_ _)) <;> (first | (simp; done) | (simp; omega) | omega)

set_option maxRecDepth 100000 in
set_option maxHeartbeats 1000000 in
theorem logic_23_ft (xl xh yl yh : Int) (w : World) (b2 z2 : Bool) (BX : Hid ((decide (xl ≤ 0) && decide (0 ≤ xh)) = false)) (BY : Hid ((decide (yl ≤ 0) && decide (0 ≤ yh)) = b2)) (zx : (xl == 0 && xh == 0) = true) (zy : (yl == 0 && yh == 0) = z2) :
    Calls Try.prog 34 #[.int .u8 23, .agg #[.int .i32 xl, .int .i32 xh], .agg #[.int .i32 yl, .int .i32 yh]] w fun e w' => e = .returned (.agg #[.int .i32 (trI (!false || !b2) (true && z2)).1, .int .i32 (trI (!false || !b2) (true && z2)).2]) ∧ Below w.heap.size w w' := by
  have _k : True := by have _ := BX; have _ := BY; have _ := zx; have _ := zy; trivial
  have e2 := eq_iv
  go_enter Try.func34, Try.ntmps34
  go_wp2_with fail
  refine (Calls.ext (of_any _ _)).mono ?_
  rintro e _ ⟨rfl, y, rfl⟩
  go_wp2_with fail
  obtain ⟨W, g, hW, hg, kB, z0, z1, z2', z3, z4, c1, f1, c2, f2, c3, f3, c4, f4, c5, f5, c6, f6, c7, f7, c8, f8⟩ := two_one_base xl xh yl yh 0 0 w y
  rw [hW, hg]
  clear hW hg y
  refine wp_region_ext_tail 17 (by kernel_rfl) (by kernel_rfl) ?_
  simp only [List.take_succ_cons, List.take_zero, List.drop_succ_cons, List.drop_zero]
  repeat (go_big_quiet_step (first | (go_at_call 17; (first | (with_reducible exact Calls.extq (lit_of (contains_any _ _ _ _) BX.out)) | (with_reducible exact Calls.extq (lit_of (contains_any _ _ _ _) BY.out)))) | (go_at_call 53; exact Calls.extq (itruth_any _ _ _))))
  refine wpQuiet_nil ?_
  rintro _ ⟨x1, rfl⟩
  go_wp2_with fail
  refine bodyPost_ret (v := .agg #[.int .i32 (trI (!false || !b2) (true && z2)).1, .int .i32 (trI (!false || !b2) (true && z2)).2]) ?hr rfl ⟨rfl, ?bel⟩
  case hr =>
    simp [results, Try.results34, go_sem, c5, c6, z2']
  case bel =>
    (repeat (first | assumption | refine Below.setCell ?_ ?_ _ | refine Ext.below ?_ ?_ _ | refine Below.alloc ?_ ?_ _)) <;> (first | (simp; done) | (simp; omega) | omega)

set_option maxRecDepth 100000 in
set_option maxHeartbeats 1000000 in
theorem logic_23_tf (xl xh yl yh : Int) (w : World) (b2 z2 : Bool) (BX : Hid ((decide (xl ≤ 0) && decide (0 ≤ xh)) = true)) (BY : Hid ((decide (yl ≤ 0) && decide (0 ≤ yh)) = b2)) (zx : (xl == 0 && xh == 0) = false) (zy : (yl == 0 && yh == 0) = z2) :
    Calls Try.prog 34 #[.int .u8 23, .agg #[.int .i32 xl, .int .i32 xh], .agg #[.int .i32 yl, .int .i32 yh]] w fun e w' => e = .returned (.agg #[.int .i32 (trI (!true || !b2) (false && z2)).1, .int .i32 (trI (!true || !b2) (false && z2)).2]) ∧ Below w.heap.size w w' := by
  have _k : True := by have _ := BX; have _ := BY; have _ := zx; have _ := zy; trivial
  have e2 := eq_iv
  go_enter Try.func34, Try.ntmps34
  go_wp2_with fail
  refine (Calls.ext (of_any _ _)).mono ?_
  rintro e _ ⟨rfl, y, rfl⟩
  go_wp2_with fail
  obtain ⟨W, g, hW, hg, kB, z0, z1, z2', z3, z4, c1, f1, c2, f2, c3, f3, c4, f4, c5, f5, c6, f6, c7, f7, c8, f8⟩ := two_one_base xl xh yl yh 0 0 w y
  rw [hW, hg]
  clear hW hg y
  refine wp_region_ext_tail 17 (by kernel_rfl) (by kernel_rfl) ?_
  simp only [List.take_succ_cons, List.take_zero, List.drop_succ_cons, List.drop_zero]
  repeat (go_big_quiet_step (first | (go_at_call 17; (first | (with_reducible exact Calls.extq (lit_of (contains_any _ _ _ _) BX.out)) | (with_reducible exact Calls.extq (lit_of (contains_any _ _ _ _) BY.out)))) | (go_at_call 53; exact Calls.extq (itruth_any _ _ _))))
  refine wpQuiet_nil ?_
  rintro _ ⟨x1, rfl⟩
  go_wp2_with fail
  refine bodyPost_ret (v := .agg #[.int .i32 (trI (!true || !b2) (false && z2)).1, .int .i32 (trI (!true || !b2) (false && z2)).2]) ?hr rfl ⟨rfl, ?bel⟩
  case hr =>
    simp [results, Try.results34, go_sem, c5, c6, z2']
  case bel =>
    (repeat (first | assumption | refine Below.setCell ?_ ?_ _ | refine Ext.below ?_ ?_ _ | refine Below.alloc ?_ ?_ _)) <;> (first | (simp; done) | (simp; omega) | omega)

set_option maxRecDepth 100000 in
set_option maxHeartbeats 1000000 in
theorem logic_23_tt (xl xh yl yh : Int) (w : World) (b2 z2 : Bool) (BX : Hid ((decide (xl ≤ 0) && decide (0 ≤ xh)) = true)) (BY : Hid ((decide (yl ≤ 0) && decide (0 ≤ yh)) = b2)) (zx : (xl == 0 && xh == 0) = true) (zy : (yl == 0 && yh == 0) = z2) :
    Calls Try.prog 34 #[.int .u8 23, .agg #[.int .i32 xl, .int .i32 xh], .agg #[.int .i32 yl, .int .i32 yh]] w fun e w' => e = .returned (.agg #[.int .i32 (trI (!true || !b2) (true && z2)).1, .int .i32 (trI (!true || !b2) (true && z2)).2]) ∧ Below w.heap.size w w' := by
  have _k : True := by have _ := BX; have _ := BY; have _ := zx; have _ := zy; trivial
  have e2 := eq_iv
  go_enter Try.func34, Try.ntmps34
  go_wp2_with fail
  refine (Calls.ext (of_any _ _)).mono ?_
  rintro e _ ⟨rfl, y, rfl⟩
  go_wp2_with fail
  obtain ⟨W, g, hW, hg, kB, z0, z1, z2', z3, z4, c1, f1, c2, f2, c3, f3, c4, f4, c5, f5, c6, f6, c7, f7, c8, f8⟩ := two_one_base xl xh yl yh 0 0 w y
  rw [hW, hg]
  clear hW hg y
  refine wp_region_ext_tail 17 (by kernel_rfl) (by kernel_rfl) ?_
  simp only [List.take_succ_cons, List.take_zero, List.drop_succ_cons, List.drop_zero]
  repeat (go_big_quiet_step (first | (go_at_call 17; (first | (with_reducible exact Calls.extq (lit_of (contains_any _ _ _ _) BX.out)) | (with_reducible exact Calls.extq (lit_of (contains_any _ _ _ _) BY.out)))) | (go_at_call 53; exact Calls.extq (itruth_any _ _ _))))
  refine wpQuiet_nil ?_
  rintro _ ⟨x1, rfl⟩
  go_wp2_with fail
  refine bodyPost_ret (v := .agg #[.int .i32 (trI (!true || !b2) (true && z2)).1, .int .i32 (trI (!true || !b2) (true && z2)).2]) ?hr rfl ⟨rfl, ?bel⟩
  case hr =>
    simp [results, Try.results34, go_sem, c5, c6, z2']
  case bel =>
    (repeat (first | assumption | refine Below.setCell ?_ ?_ _ | refine Ext.below ?_ ?_ _ | refine Below.alloc ?_ ?_ _)) <;> (first | (simp; done) | (simp; omega) | omega)

theorem logic_any (op xl xh yl yh : Int) (w : World) (h1 : 22 ≤ op) (h2 : op ≤ 23) :
    Calls Try.prog 34 #[.int .u8 op, .agg #[.int .i32 xl, .int .i32 xh], .agg #[.int .i32 yl, .int .i32 yh]] w fun e w' => e = .returned (.agg #[.int .i32 (logI op (xl, xh) (yl, yh)).1, .int .i32 (logI op (xl, xh) (yl, yh)).2]) ∧ Below w.heap.size w w' := by
  have h : op = 22 ∨ op = 23 := by omega
  rcases h with rfl | rfl
  · cases bx : (decide (xl ≤ 0) && decide (0 ≤ xh)) <;> cases zx : (xl == 0 && xh == 0)
    · refine (logic_22_ff xl xh yl yh w _ _ (Lib.hid bx) (Lib.hid rfl) zx rfl).mono fun e w' ⟨he, hb⟩ => ⟨?_, hb⟩
      rw [he]
      simp only [logI, has0, is0, bx, zx]
      rfl
    · refine (logic_22_ft xl xh yl yh w _ _ (Lib.hid bx) (Lib.hid rfl) zx rfl).mono fun e w' ⟨he, hb⟩ => ⟨?_, hb⟩
      rw [he]
      simp only [logI, has0, is0, bx, zx]
      rfl
    · refine (logic_22_tf xl xh yl yh w _ _ (Lib.hid bx) (Lib.hid rfl) zx rfl).mono fun e w' ⟨he, hb⟩ => ⟨?_, hb⟩
      rw [he]
      simp only [logI, has0, is0, bx, zx]
      rfl
    · refine (logic_22_tt xl xh yl yh w _ _ (Lib.hid bx) (Lib.hid rfl) zx rfl).mono fun e w' ⟨he, hb⟩ => ⟨?_, hb⟩
      rw [he]
      simp only [logI, has0, is0, bx, zx]
      rfl
  · cases bx : (decide (xl ≤ 0) && decide (0 ≤ xh)) <;> cases zx : (xl == 0 && xh == 0)
    · refine (logic_23_ff xl xh yl yh w _ _ (Lib.hid bx) (Lib.hid rfl) zx rfl).mono fun e w' ⟨he, hb⟩ => ⟨?_, hb⟩
      rw [he]
      simp only [logI, has0, is0, bx, zx]
      rfl
    · refine (logic_23_ft xl xh yl yh w _ _ (Lib.hid bx) (Lib.hid rfl) zx rfl).mono fun e w' ⟨he, hb⟩ => ⟨?_, hb⟩
      rw [he]
      simp only [logI, has0, is0, bx, zx]
      rfl
    · refine (logic_23_tf xl xh yl yh w _ _ (Lib.hid bx) (Lib.hid rfl) zx rfl).mono fun e w' ⟨he, hb⟩ => ⟨?_, hb⟩
      rw [he]
      simp only [logI, has0, is0, bx, zx]
      rfl
    · refine (logic_23_tt xl xh yl yh w _ _ (Lib.hid bx) (Lib.hid rfl) zx rfl).mono fun e w' ⟨he, hb⟩ => ⟨?_, hb⟩
      rw [he]
      simp only [logI, has0, is0, bx, zx]
      rfl

end Go.Proofs.Ytjkjcnamlankoaa
