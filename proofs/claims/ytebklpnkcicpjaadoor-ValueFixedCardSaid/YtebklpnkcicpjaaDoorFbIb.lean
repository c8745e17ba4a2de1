/-
 What is proved here: what interval.shift returns.
-/
import Derived.Test.YtebklpnkcicpjaaDoorFbIa
import Derived.Test.YtebklpnkcicpjaaDoorFbT
import Derived.Shelf.Small.Bits
import Derived.Test.YtebklpnkcicpjaaDoorProg
namespace Go.Proofs.YtebklpnkcicpjaaDoor
open Go.RowKit

def cmpI (op : Int) (x y : Int × Int) : Int × Int :=
 if op = 16 then trI false (emp (meetI x y)) else if op = 17 then trI (emp (meetI x y)) false
 else if op = 18 then trI (decide (x.2 < y.1)) (decide (y.2 ≤ x.1)) else if op = 19 then trI (decide (x.2 ≤ y.1)) (decide (y.2 < x.1))
 else if op = 20 then trI (decide (y.2 < x.1)) (decide (x.2 ≤ y.1)) else trI (decide (y.2 ≤ x.1)) (decide (x.2 < y.1))
def has0 (x : Int × Int) : Bool := decide (x.1 ≤ 0) && decide (0 ≤ x.2)
def is0 (x : Int × Int) : Bool := x.1 == 0 && x.2 == 0
def logI (op : Int) (x y : Int × Int) : Int × Int :=
 if op = 22 then trI (!has0 x && !has0 y) (is0 x || is0 y) else trI (!has0 x || !has0 y) (is0 x && is0 y)

theorem two_one_base (xl xh yl yh zl zh : Int) (w : World) (y : Ext (((w.alloc (Obj.cells #[Value.int IntKind.i32 xl, Value.int IntKind.i32 xh] 25)).alloc (Obj.cells #[Value.int IntKind.i32 yl, Value.int IntKind.i32 yh] 25)).alloc (Obj.cells #[Value.int IntKind.i32 0, Value.int IntKind.i32 0] 25))) :
  ∃ (W : World) (g : Nat), y.w.alloc (Obj.cells #[Value.int IntKind.i32 zl, Value.int IntKind.i32 zh] 25) = W ∧ y.w.heap.size = g ∧ Below w.heap.size w W ∧ w.heap.size < W.heap.size ∧ w.heap.size + 1 < W.heap.size ∧ w.heap.size + 1 + 1 < W.heap.size ∧ w.heap.size + 1 + 1 < g ∧ g < W.heap.size ∧ W.cell? ⟨w.heap.size, 0, none⟩ = some (.int .i32 xl) ∧ W.frozen? ⟨w.heap.size, 0, none⟩ = false ∧ W.cell? ⟨w.heap.size, 1, none⟩ = some (.int .i32 xh) ∧ W.frozen? ⟨w.heap.size, 1, none⟩ = false ∧ W.cell? ⟨w.heap.size + 1, 0, none⟩ = some (.int .i32 yl) ∧ W.frozen? ⟨w.heap.size + 1, 0, none⟩ = false ∧ W.cell? ⟨w.heap.size + 1, 1, none⟩ = some (.int .i32 yh) ∧ W.frozen? ⟨w.heap.size + 1, 1, none⟩ = false ∧ W.cell? ⟨w.heap.size + 1 + 1, 0, none⟩ = some (.int .i32 0) ∧ W.frozen? ⟨w.heap.size + 1 + 1, 0, none⟩ = false ∧ W.cell? ⟨w.heap.size + 1 + 1, 1, none⟩ = some (.int .i32 0) ∧ W.frozen? ⟨w.heap.size + 1 + 1, 1, none⟩ = false ∧ W.cell? ⟨g, 0, none⟩ = some (.int .i32 zl) ∧ W.frozen? ⟨g, 0, none⟩ = false ∧ W.cell? ⟨g, 1, none⟩ = some (.int .i32 zh) ∧ W.frozen? ⟨g, 1, none⟩ = false := by
 have hs : w.heap.size + 1 + 1 + 1 ≤ y.w.heap.size := ks_of y.h
 have s0 : w.heap.size < y.w.heap.size := by omega
 have s1 : w.heap.size + 1 < y.w.heap.size := by omega
 have s2 : w.heap.size + 1 + 1 < y.w.heap.size := by omega
 refine ⟨_, _, rfl, rfl, ?_, ?_, ?_, ?_, s2, by simp, ?_⟩
 ·(repeat (first | exact Below.refl _ _ | refine Below.setCell ?_ ?_ _ | refine Ext.below ?_ ?_ _ | refine Below.alloc ?_ ?_ _)) <;> (first | (simp; done) | (simp; omega) | omega)
 ·rw [World.size_alloc]; omega
 ·rw [World.size_alloc]; omega
 ·rw [World.size_alloc]; omega
 ·refine ⟨?_, ?_, ?_, ?_, ?_, ?_, ?_, ?_, ?_, ?_, ?_, ?_, ?_, ?_, ?_, ?_⟩
  all_goals (go_simp; done)

set_option maxRecDepth 100000 in
set_option maxHeartbeats 400000 in
theorem compare_16 (xl xh yl yh : Int) (w : World) :
  Calls Tryd.prog 72 #[.int .u8 16, .agg #[.int .i32 xl, .int .i32 xh], .agg #[.int .i32 yl, .int .i32 yh]] w fun e w' => e = .returned (.agg #[.int .i32 (trI false (emp (meetI (xl, xh) (yl, yh)))).1, .int .i32 (trI false (emp (meetI (xl, xh) (yl, yh)))).2]) ∧ Below w.heap.size w w' := by
 go_enter Tryd.func72, Tryd.ntmps72
 go_wp2_with (first | (go_at_call 36; ((first | (with_reducible refine (Calls.extq (meet_any _ _ _ _ _)).mono ?_) | (refine (Calls.ext (meet_any _ _ _ _ _)).mono ?_)); rintro e _ ⟨rfl, y, rfl⟩)) | (go_at_call 39; ((first | (with_reducible refine (Calls.extq (isEmpty_any _ _ _)).mono ?_) | (refine (Calls.ext (isEmpty_any _ _ _)).mono ?_)); rintro e _ ⟨rfl, y, rfl⟩)) | (go_at_call 87; ((first | (with_reducible refine (Calls.extq (itruth_any _ _ _)).mono ?_) | (refine (Calls.ext (itruth_any _ _ _)).mono ?_)); rintro e _ ⟨rfl, y, rfl⟩)))
 all_goals
  refine bodyPost_ret (v := .agg #[.int .i32 (trI false (emp (meetI (xl, xh) (yl, yh)))).1, .int .i32 (trI false (emp (meetI (xl, xh) (yl, yh)))).2]) ?hr rfl ⟨rfl, ?bel⟩
  case hr =>
   simp [results, Tryd.results72, go_sem]
   exact ⟨rfl, rfl⟩
  case bel =>
   (repeat (first | exact Below.refl _ _ | refine Below.setCell ?_ ?_ _ | refine Ext.below ?_ ?_ _ | refine Below.alloc ?_ ?_ _)) <;> (first | (simp; done) | (simp; omega) | omega)

set_option maxRecDepth 100000 in
set_option maxHeartbeats 400000 in
theorem compare_17 (xl xh yl yh : Int) (w : World) :
  Calls Tryd.prog 72 #[.int .u8 17, .agg #[.int .i32 xl, .int .i32 xh], .agg #[.int .i32 yl, .int .i32 yh]] w fun e w' => e = .returned (.agg #[.int .i32 (trI (emp (meetI (xl, xh) (yl, yh))) false).1, .int .i32 (trI (emp (meetI (xl, xh) (yl, yh))) false).2]) ∧ Below w.heap.size w w' := by
 go_enter Tryd.func72, Tryd.ntmps72
 go_wp2_with (first | (go_at_call 36; ((first | (with_reducible refine (Calls.extq (meet_any _ _ _ _ _)).mono ?_) | (refine (Calls.ext (meet_any _ _ _ _ _)).mono ?_)); rintro e _ ⟨rfl, y, rfl⟩)) | (go_at_call 39; ((first | (with_reducible refine (Calls.extq (isEmpty_any _ _ _)).mono ?_) | (refine (Calls.ext (isEmpty_any _ _ _)).mono ?_)); rintro e _ ⟨rfl, y, rfl⟩)) | (go_at_call 87; ((first | (with_reducible refine (Calls.extq (itruth_any _ _ _)).mono ?_) | (refine (Calls.ext (itruth_any _ _ _)).mono ?_)); rintro e _ ⟨rfl, y, rfl⟩)))
 all_goals
  refine bodyPost_ret (v := .agg #[.int .i32 (trI (emp (meetI (xl, xh) (yl, yh))) false).1, .int .i32 (trI (emp (meetI (xl, xh) (yl, yh))) false).2]) ?hr rfl ⟨rfl, ?bel⟩
  case hr =>
   simp [results, Tryd.results72, go_sem]
   exact ⟨rfl, rfl⟩
  case bel =>
   (repeat (first | exact Below.refl _ _ | refine Below.setCell ?_ ?_ _ | refine Ext.below ?_ ?_ _ | refine Below.alloc ?_ ?_ _)) <;> (first | (simp; done) | (simp; omega) | omega)

set_option maxRecDepth 100000 in
set_option maxHeartbeats 400000 in
theorem compare_18 (xl xh yl yh : Int) (w : World) :
  Calls Tryd.prog 72 #[.int .u8 18, .agg #[.int .i32 xl, .int .i32 xh], .agg #[.int .i32 yl, .int .i32 yh]] w fun e w' => e = .returned (.agg #[.int .i32 (trI (decide (xh < yl)) (decide (yh ≤ xl))).1, .int .i32 (trI (decide (xh < yl)) (decide (yh ≤ xl))).2]) ∧ Below w.heap.size w w' := by
 go_enter Tryd.func72, Tryd.ntmps72
 go_wp2_with (first | (go_at_call 36; ((first | (with_reducible refine (Calls.extq (meet_any _ _ _ _ _)).mono ?_) | (refine (Calls.ext (meet_any _ _ _ _ _)).mono ?_)); rintro e _ ⟨rfl, y, rfl⟩)) | (go_at_call 39; ((first | (with_reducible refine (Calls.extq (isEmpty_any _ _ _)).mono ?_) | (refine (Calls.ext (isEmpty_any _ _ _)).mono ?_)); rintro e _ ⟨rfl, y, rfl⟩)) | (go_at_call 87; ((first | (with_reducible refine (Calls.extq (itruth_any _ _ _)).mono ?_) | (refine (Calls.ext (itruth_any _ _ _)).mono ?_)); rintro e _ ⟨rfl, y, rfl⟩)))
 all_goals
  refine bodyPost_ret (v := .agg #[.int .i32 (trI (decide (xh < yl)) (decide (yh ≤ xl))).1, .int .i32 (trI (decide (xh < yl)) (decide (yh ≤ xl))).2]) ?hr rfl ⟨rfl, ?bel⟩
  case hr =>
   simp [results, Tryd.results72, go_sem]
  case bel =>
   (repeat (first | exact Below.refl _ _ | refine Below.setCell ?_ ?_ _ | refine Ext.below ?_ ?_ _ | refine Below.alloc ?_ ?_ _)) <;> (first | (simp; done) | (simp; omega) | omega)

set_option maxRecDepth 100000 in
set_option maxHeartbeats 400000 in
theorem compare_19 (xl xh yl yh : Int) (w : World) :
  Calls Tryd.prog 72 #[.int .u8 19, .agg #[.int .i32 xl, .int .i32 xh], .agg #[.int .i32 yl, .int .i32 yh]] w fun e w' => e = .returned (.agg #[.int .i32 (trI (decide (xh ≤ yl)) (decide (yh < xl))).1, .int .i32 (trI (decide (xh ≤ yl)) (decide (yh < xl))).2]) ∧ Below w.heap.size w w' := by
 go_enter Tryd.func72, Tryd.ntmps72
 go_wp2_with (first | (go_at_call 36; ((first | (with_reducible refine (Calls.extq (meet_any _ _ _ _ _)).mono ?_) | (refine (Calls.ext (meet_any _ _ _ _ _)).mono ?_)); rintro e _ ⟨rfl, y, rfl⟩)) | (go_at_call 39; ((first | (with_reducible refine (Calls.extq (isEmpty_any _ _ _)).mono ?_) | (refine (Calls.ext (isEmpty_any _ _ _)).mono ?_)); rintro e _ ⟨rfl, y, rfl⟩)) | (go_at_call 87; ((first | (with_reducible refine (Calls.extq (itruth_any _ _ _)).mono ?_) | (refine (Calls.ext (itruth_any _ _ _)).mono ?_)); rintro e _ ⟨rfl, y, rfl⟩)))
 all_goals
  refine bodyPost_ret (v := .agg #[.int .i32 (trI (decide (xh ≤ yl)) (decide (yh < xl))).1, .int .i32 (trI (decide (xh ≤ yl)) (decide (yh < xl))).2]) ?hr rfl ⟨rfl, ?bel⟩
  case hr =>
   simp [results, Tryd.results72, go_sem]
  case bel =>
   (repeat (first | exact Below.refl _ _ | refine Below.setCell ?_ ?_ _ | refine Ext.below ?_ ?_ _ | refine Below.alloc ?_ ?_ _)) <;> (first | (simp; done) | (simp; omega) | omega)

set_option maxRecDepth 100000 in
set_option maxHeartbeats 400000 in
theorem compare_20 (xl xh yl yh : Int) (w : World) :
  Calls Tryd.prog 72 #[.int .u8 20, .agg #[.int .i32 xl, .int .i32 xh], .agg #[.int .i32 yl, .int .i32 yh]] w fun e w' => e = .returned (.agg #[.int .i32 (trI (decide (yh < xl)) (decide (xh ≤ yl))).1, .int .i32 (trI (decide (yh < xl)) (decide (xh ≤ yl))).2]) ∧ Below w.heap.size w w' := by
 go_enter Tryd.func72, Tryd.ntmps72
 go_wp2_with (first | (go_at_call 36; ((first | (with_reducible refine (Calls.extq (meet_any _ _ _ _ _)).mono ?_) | (refine (Calls.ext (meet_any _ _ _ _ _)).mono ?_)); rintro e _ ⟨rfl, y, rfl⟩)) | (go_at_call 39; ((first | (with_reducible refine (Calls.extq (isEmpty_any _ _ _)).mono ?_) | (refine (Calls.ext (isEmpty_any _ _ _)).mono ?_)); rintro e _ ⟨rfl, y, rfl⟩)) | (go_at_call 87; ((first | (with_reducible refine (Calls.extq (itruth_any _ _ _)).mono ?_) | (refine (Calls.ext (itruth_any _ _ _)).mono ?_)); rintro e _ ⟨rfl, y, rfl⟩)))
 all_goals
  refine bodyPost_ret (v := .agg #[.int .i32 (trI (decide (yh < xl)) (decide (xh ≤ yl))).1, .int .i32 (trI (decide (yh < xl)) (decide (xh ≤ yl))).2]) ?hr rfl ⟨rfl, ?bel⟩
  case hr =>
   simp [results, Tryd.results72, go_sem]
  case bel =>
   (repeat (first | exact Below.refl _ _ | refine Below.setCell ?_ ?_ _ | refine Ext.below ?_ ?_ _ | refine Below.alloc ?_ ?_ _)) <;> (first | (simp; done) | (simp; omega) | omega)

set_option maxRecDepth 100000 in
set_option maxHeartbeats 400000 in
theorem compare_21 (xl xh yl yh : Int) (w : World) :
  Calls Tryd.prog 72 #[.int .u8 21, .agg #[.int .i32 xl, .int .i32 xh], .agg #[.int .i32 yl, .int .i32 yh]] w fun e w' => e = .returned (.agg #[.int .i32 (trI (decide (yh ≤ xl)) (decide (xh < yl))).1, .int .i32 (trI (decide (yh ≤ xl)) (decide (xh < yl))).2]) ∧ Below w.heap.size w w' := by
 go_enter Tryd.func72, Tryd.ntmps72
 go_wp2_with (first | (go_at_call 36; ((first | (with_reducible refine (Calls.extq (meet_any _ _ _ _ _)).mono ?_) | (refine (Calls.ext (meet_any _ _ _ _ _)).mono ?_)); rintro e _ ⟨rfl, y, rfl⟩)) | (go_at_call 39; ((first | (with_reducible refine (Calls.extq (isEmpty_any _ _ _)).mono ?_) | (refine (Calls.ext (isEmpty_any _ _ _)).mono ?_)); rintro e _ ⟨rfl, y, rfl⟩)) | (go_at_call 87; ((first | (with_reducible refine (Calls.extq (itruth_any _ _ _)).mono ?_) | (refine (Calls.ext (itruth_any _ _ _)).mono ?_)); rintro e _ ⟨rfl, y, rfl⟩)))
 all_goals
  refine bodyPost_ret (v := .agg #[.int .i32 (trI (decide (yh ≤ xl)) (decide (xh < yl))).1, .int .i32 (trI (decide (yh ≤ xl)) (decide (xh < yl))).2]) ?hr rfl ⟨rfl, ?bel⟩
  case hr =>
   simp [results, Tryd.results72, go_sem]
  case bel =>
   (repeat (first | exact Below.refl _ _ | refine Below.setCell ?_ ?_ _ | refine Ext.below ?_ ?_ _ | refine Below.alloc ?_ ?_ _)) <;> (first | (simp; done) | (simp; omega) | omega)

theorem compare_any (op xl xh yl yh : Int) (w : World) (h1 : 16 ≤ op) (h2 : op ≤ 21) :
  Calls Tryd.prog 72 #[.int .u8 op, .agg #[.int .i32 xl, .int .i32 xh], .agg #[.int .i32 yl, .int .i32 yh]] w fun e w' => e = .returned (.agg #[.int .i32 (cmpI op (xl, xh) (yl, yh)).1, .int .i32 (cmpI op (xl, xh) (yl, yh)).2]) ∧ Below w.heap.size w w' := by
 have h : op = 16 ∨ op = 17 ∨ op = 18 ∨ op = 19 ∨ op = 20 ∨ op = 21 := by omega
 rcases h with rfl | rfl | rfl | rfl | rfl | rfl
 ·exact compare_16 xl xh yl yh w
 ·exact compare_17 xl xh yl yh w
 ·exact compare_18 xl xh yl yh w
 ·exact compare_19 xl xh yl yh w
 ·exact compare_20 xl xh yl yh w
 ·exact compare_21 xl xh yl yh w

set_option maxRecDepth 100000 in
set_option maxHeartbeats 1000000 in
theorem logic_22_ff (xl xh yl yh : Int) (w : World) (b2 z2 : Bool) (BX : Hid ((decide (xl ≤ 0) && decide (0 ≤ xh)) = false)) (BY : Hid ((decide (yl ≤ 0) && decide (0 ≤ yh)) = b2)) (zx : (xl == 0 && xh == 0) = false) (zy : (yl == 0 && yh == 0) = z2) :
  Calls Tryd.prog 71 #[.int .u8 22, .agg #[.int .i32 xl, .int .i32 xh], .agg #[.int .i32 yl, .int .i32 yh]] w fun e w' => e = .returned (.agg #[.int .i32 (trI (!false && !b2) (false || z2)).1, .int .i32 (trI (!false && !b2) (false || z2)).2]) ∧ Below w.heap.size w w' := by
 have _k : True := by have _ := BX; have _ := BY; have _ := zx; have _ := zy; trivial
 have e2 := eq_iv
 go_enter Tryd.func71, Tryd.ntmps71
 go_wp2_with fail
 refine (Calls.ext (of_any _ _)).mono ?_
 rintro e _ ⟨rfl, y, rfl⟩
 go_wp2_with fail
 obtain ⟨W, g, hW, hg, kB, z0, z1, z2', z3, z4, c1, f1, c2, f2, c3, f3, c4, f4, c5, f5, c6, f6, c7, f7, c8, f8⟩ := two_one_base xl xh yl yh 0 0 w y
 rw [hW, hg]
 clear hW hg y
 refine wp_region_ext_tail 17 (by kernel_rfl) (by kernel_rfl) ?_
 simp only [List.take_succ_cons, List.take_zero, List.drop_succ_cons, List.drop_zero]
 repeat (go_big_quiet_step (first | (go_at_call 21; (first | (with_reducible exact Calls.extq (lit_of (contains_any _ _ _ _) BX.out)) | (with_reducible exact Calls.extq (lit_of (contains_any _ _ _ _) BY.out)))) | (go_at_call 87; exact Calls.extq (itruth_any _ _ _))))
 refine wpQuiet_nil ?_
 rintro _ ⟨x1, rfl⟩
 go_wp2_with fail
 refine bodyPost_ret (v := .agg #[.int .i32 (trI (!false && !b2) (false || z2)).1, .int .i32 (trI (!false && !b2) (false || z2)).2]) ?hr rfl ⟨rfl, ?bel⟩
 case hr =>
  simp [results, Tryd.results71, go_sem, c5, c6, z2']
 case bel =>
  (repeat (first | assumption | refine Below.setCell ?_ ?_ _ | refine Ext.below ?_ ?_ _ | refine Below.alloc ?_ ?_ _)) <;> (first | (simp; done) | (simp; omega) | omega)

set_option maxRecDepth 100000 in
set_option maxHeartbeats 1000000 in
theorem logic_22_ft (xl xh yl yh : Int) (w : World) (b2 z2 : Bool) (BX : Hid ((decide (xl ≤ 0) && decide (0 ≤ xh)) = false)) (BY : Hid ((decide (yl ≤ 0) && decide (0 ≤ yh)) = b2)) (zx : (xl == 0 && xh == 0) = true) (zy : (yl == 0 && yh == 0) = z2) :
  Calls Tryd.prog 71 #[.int .u8 22, .agg #[.int .i32 xl, .int .i32 xh], .agg #[.int .i32 yl, .int .i32 yh]] w fun e w' => e = .returned (.agg #[.int .i32 (trI (!false && !b2) (true || z2)).1, .int .i32 (trI (!false && !b2) (true || z2)).2]) ∧ Below w.heap.size w w' := by
 have _k : True := by have _ := BX; have _ := BY; have _ := zx; have _ := zy; trivial
 have e2 := eq_iv
 go_enter Tryd.func71, Tryd.ntmps71
 go_wp2_with fail
 refine (Calls.ext (of_any _ _)).mono ?_
 rintro e _ ⟨rfl, y, rfl⟩
 go_wp2_with fail
 obtain ⟨W, g, hW, hg, kB, z0, z1, z2', z3, z4, c1, f1, c2, f2, c3, f3, c4, f4, c5, f5, c6, f6, c7, f7, c8, f8⟩ := two_one_base xl xh yl yh 0 0 w y
 rw [hW, hg]
 clear hW hg y
 refine wp_region_ext_tail 17 (by kernel_rfl) (by kernel_rfl) ?_
 simp only [List.take_succ_cons, List.take_zero, List.drop_succ_cons, List.drop_zero]
 repeat (go_big_quiet_step (first | (go_at_call 21; (first | (with_reducible exact Calls.extq (lit_of (contains_any _ _ _ _) BX.out)) | (with_reducible exact Calls.extq (lit_of (contains_any _ _ _ _) BY.out)))) | (go_at_call 87; exact Calls.extq (itruth_any _ _ _))))
 refine wpQuiet_nil ?_
 rintro _ ⟨x1, rfl⟩
 go_wp2_with fail
 refine bodyPost_ret (v := .agg #[.int .i32 (trI (!false && !b2) (true || z2)).1, .int .i32 (trI (!false && !b2) (true || z2)).2]) ?hr rfl ⟨rfl, ?bel⟩
 case hr =>
  simp [results, Tryd.results71, go_sem, c5, c6, z2']
 case bel =>
  (repeat (first | assumption | refine Below.setCell ?_ ?_ _ | refine Ext.below ?_ ?_ _ | refine Below.alloc ?_ ?_ _)) <;> (first | (simp; done) | (simp; omega) | omega)

set_option maxRecDepth 100000 in
set_option maxHeartbeats 1000000 in
theorem logic_22_tf (xl xh yl yh : Int) (w : World) (b2 z2 : Bool) (BX : Hid ((decide (xl ≤ 0) && decide (0 ≤ xh)) = true)) (BY : Hid ((decide (yl ≤ 0) && decide (0 ≤ yh)) = b2)) (zx : (xl == 0 && xh == 0) = false) (zy : (yl == 0 && yh == 0) = z2) :
  Calls Tryd.prog 71 #[.int .u8 22, .agg #[.int .i32 xl, .int .i32 xh], .agg #[.int .i32 yl, .int .i32 yh]] w fun e w' => e = .returned (.agg #[.int .i32 (trI (!true && !b2) (false || z2)).1, .int .i32 (trI (!true && !b2) (false || z2)).2]) ∧ Below w.heap.size w w' := by
 have _k : True := by have _ := BX; have _ := BY; have _ := zx; have _ := zy; trivial
 have e2 := eq_iv
 go_enter Tryd.func71, Tryd.ntmps71
 go_wp2_with fail
 refine (Calls.ext (of_any _ _)).mono ?_
 rintro e _ ⟨rfl, y, rfl⟩
 go_wp2_with fail
 obtain ⟨W, g, hW, hg, kB, z0, z1, z2', z3, z4, c1, f1, c2, f2, c3, f3, c4, f4, c5, f5, c6, f6, c7, f7, c8, f8⟩ := two_one_base xl xh yl yh 0 0 w y
 rw [hW, hg]
 clear hW hg y
 refine wp_region_ext_tail 17 (by kernel_rfl) (by kernel_rfl) ?_
 simp only [List.take_succ_cons, List.take_zero, List.drop_succ_cons, List.drop_zero]
 repeat (go_big_quiet_step (first | (go_at_call 21; (first | (with_reducible exact Calls.extq (lit_of (contains_any _ _ _ _) BX.out)) | (with_reducible exact Calls.extq (lit_of (contains_any _ _ _ _) BY.out)))) | (go_at_call 87; exact Calls.extq (itruth_any _ _ _))))
 refine wpQuiet_nil ?_
 rintro _ ⟨x1, rfl⟩
 go_wp2_with fail
 refine bodyPost_ret (v := .agg #[.int .i32 (trI (!true && !b2) (false || z2)).1, .int .i32 (trI (!true && !b2) (false || z2)).2]) ?hr rfl ⟨rfl, ?bel⟩
 case hr =>
  simp [results, Tryd.results71, go_sem, c5, c6, z2']
 case bel =>
  (repeat (first | assumption | refine Below.setCell ?_ ?_ _ | refine Ext.below ?_ ?_ _ | refine Below.alloc ?_ ?_ _)) <;> (first | (simp; done) | (simp; omega) | omega)

set_option maxRecDepth 100000 in
set_option maxHeartbeats 1000000 in
theorem logic_22_tt (xl xh yl yh : Int) (w : World) (b2 z2 : Bool) (BX : Hid ((decide (xl ≤ 0) && decide (0 ≤ xh)) = true)) (BY : Hid ((decide (yl ≤ 0) && decide (0 ≤ yh)) = b2)) (zx : (xl == 0 && xh == 0) = true) (zy : (yl == 0 && yh == 0) = z2) :
  Calls Tryd.prog 71 #[.int .u8 22, .agg #[.int .i32 xl, .int .i32 xh], .agg #[.int .i32 yl, .int .i32 yh]] w fun e w' => e = .returned (.agg #[.int .i32 (trI (!true && !b2) (true || z2)).1, .int .i32 (trI (!true && !b2) (true || z2)).2]) ∧ Below w.heap.size w w' := by
 have _k : True := by have _ := BX; have _ := BY; have _ := zx; have _ := zy; trivial
 have e2 := eq_iv
 go_enter Tryd.func71, Tryd.ntmps71
 go_wp2_with fail
 refine (Calls.ext (of_any _ _)).mono ?_
 rintro e _ ⟨rfl, y, rfl⟩
 go_wp2_with fail
 obtain ⟨W, g, hW, hg, kB, z0, z1, z2', z3, z4, c1, f1, c2, f2, c3, f3, c4, f4, c5, f5, c6, f6, c7, f7, c8, f8⟩ := two_one_base xl xh yl yh 0 0 w y
 rw [hW, hg]
 clear hW hg y
 refine wp_region_ext_tail 17 (by kernel_rfl) (by kernel_rfl) ?_
 simp only [List.take_succ_cons, List.take_zero, List.drop_succ_cons, List.drop_zero]
 repeat (go_big_quiet_step (first | (go_at_call 21; (first | (with_reducible exact Calls.extq (lit_of (contains_any _ _ _ _) BX.out)) | (with_reducible exact Calls.extq (lit_of (contains_any _ _ _ _) BY.out)))) | (go_at_call 87; exact Calls.extq (itruth_any _ _ _))))
 refine wpQuiet_nil ?_
 rintro _ ⟨x1, rfl⟩
 go_wp2_with fail
 refine bodyPost_ret (v := .agg #[.int .i32 (trI (!true && !b2) (true || z2)).1, .int .i32 (trI (!true && !b2) (true || z2)).2]) ?hr rfl ⟨rfl, ?bel⟩
 case hr =>
  simp [results, Tryd.results71, go_sem, c5, c6, z2']
 case bel =>
  (repeat (first | assumption | refine Below.setCell ?_ ?_ _ | refine Ext.below ?_ ?_ _ | refine Below.alloc ?_ ?_ _)) <;> (first | (simp; done) | (simp; omega) | omega)

set_option maxRecDepth 100000 in
set_option maxHeartbeats 1000000 in
theorem logic_23_ff (xl xh yl yh : Int) (w : World) (b2 z2 : Bool) (BX : Hid ((decide (xl ≤ 0) && decide (0 ≤ xh)) = false)) (BY : Hid ((decide (yl ≤ 0) && decide (0 ≤ yh)) = b2)) (zx : (xl == 0 && xh == 0) = false) (zy : (yl == 0 && yh == 0) = z2) :
  Calls Tryd.prog 71 #[.int .u8 23, .agg #[.int .i32 xl, .int .i32 xh], .agg #[.int .i32 yl, .int .i32 yh]] w fun e w' => e = .returned (.agg #[.int .i32 (trI (!false || !b2) (false && z2)).1, .int .i32 (trI (!false || !b2) (false && z2)).2]) ∧ Below w.heap.size w w' := by
 have _k : True := by have _ := BX; have _ := BY; have _ := zx; have _ := zy; trivial
 have e2 := eq_iv
 go_enter Tryd.func71, Tryd.ntmps71
 go_wp2_with fail
 refine (Calls.ext (of_any _ _)).mono ?_
 rintro e _ ⟨rfl, y, rfl⟩
 go_wp2_with fail
 obtain ⟨W, g, hW, hg, kB, z0, z1, z2', z3, z4, c1, f1, c2, f2, c3, f3, c4, f4, c5, f5, c6, f6, c7, f7, c8, f8⟩ := two_one_base xl xh yl yh 0 0 w y
 rw [hW, hg]
 clear hW hg y
 refine wp_region_ext_tail 17 (by kernel_rfl) (by kernel_rfl) ?_
 simp only [List.take_succ_cons, List.take_zero, List.drop_succ_cons, List.drop_zero]
 repeat (go_big_quiet_step (first | (go_at_call 21; (first | (with_reducible exact Calls.extq (lit_of (contains_any _ _ _ _) BX.out)) | (with_reducible exact Calls.extq (lit_of (contains_any _ _ _ _) BY.out)))) | (go_at_call 87; exact Calls.extq (itruth_any _ _ _))))
 refine wpQuiet_nil ?_
 rintro _ ⟨x1, rfl⟩
 go_wp2_with fail
 refine bodyPost_ret (v := .agg #[.int .i32 (trI (!false || !b2) (false && z2)).1, .int .i32 (trI (!false || !b2) (false && z2)).2]) ?hr rfl ⟨rfl, ?bel⟩
 case hr =>
  simp [results, Tryd.results71, go_sem, c5, c6, z2']
 case bel =>
  (repeat (first | assumption | refine Below.setCell ?_ ?_ _ | refine Ext.below ?_ ?_ _ | refine Below.alloc ?_ ?_ _)) <;> (first | (simp; done) | (simp; omega) | omega)

set_option maxRecDepth 100000 in
set_option maxHeartbeats 1000000 in
theorem logic_23_ft (xl xh yl yh : Int) (w : World) (b2 z2 : Bool) (BX : Hid ((decide (xl ≤ 0) && decide (0 ≤ xh)) = false)) (BY : Hid ((decide (yl ≤ 0) && decide (0 ≤ yh)) = b2)) (zx : (xl == 0 && xh == 0) = true) (zy : (yl == 0 && yh == 0) = z2) :
  Calls Tryd.prog 71 #[.int .u8 23, .agg #[.int .i32 xl, .int .i32 xh], .agg #[.int .i32 yl, .int .i32 yh]] w fun e w' => e = .returned (.agg #[.int .i32 (trI (!false || !b2) (true && z2)).1, .int .i32 (trI (!false || !b2) (true && z2)).2]) ∧ Below w.heap.size w w' := by
 have _k : True := by have _ := BX; have _ := BY; have _ := zx; have _ := zy; trivial
 have e2 := eq_iv
 go_enter Tryd.func71, Tryd.ntmps71
 go_wp2_with fail
 refine (Calls.ext (of_any _ _)).mono ?_
 rintro e _ ⟨rfl, y, rfl⟩
 go_wp2_with fail
 obtain ⟨W, g, hW, hg, kB, z0, z1, z2', z3, z4, c1, f1, c2, f2, c3, f3, c4, f4, c5, f5, c6, f6, c7, f7, c8, f8⟩ := two_one_base xl xh yl yh 0 0 w y
 rw [hW, hg]
 clear hW hg y
 refine wp_region_ext_tail 17 (by kernel_rfl) (by kernel_rfl) ?_
 simp only [List.take_succ_cons, List.take_zero, List.drop_succ_cons, List.drop_zero]
 repeat (go_big_quiet_step (first | (go_at_call 21; (first | (with_reducible exact Calls.extq (lit_of (contains_any _ _ _ _) BX.out)) | (with_reducible exact Calls.extq (lit_of (contains_any _ _ _ _) BY.out)))) | (go_at_call 87; exact Calls.extq (itruth_any _ _ _))))
 refine wpQuiet_nil ?_
 rintro _ ⟨x1, rfl⟩
 go_wp2_with fail
 refine bodyPost_ret (v := .agg #[.int .i32 (trI (!false || !b2) (true && z2)).1, .int .i32 (trI (!false || !b2) (true && z2)).2]) ?hr rfl ⟨rfl, ?bel⟩
 case hr =>
  simp [results, Tryd.results71, go_sem, c5, c6, z2']
 case bel =>
  (repeat (first | assumption | refine Below.setCell ?_ ?_ _ | refine Ext.below ?_ ?_ _ | refine Below.alloc ?_ ?_ _)) <;> (first | (simp; done) | (simp; omega) | omega)

set_option maxRecDepth 100000 in
set_option maxHeartbeats 1000000 in
theorem logic_23_tf (xl xh yl yh : Int) (w : World) (b2 z2 : Bool) (BX : Hid ((decide (xl ≤ 0) && decide (0 ≤ xh)) = true)) (BY : Hid ((decide (yl ≤ 0) && decide (0 ≤ yh)) = b2)) (zx : (xl == 0 && xh == 0) = false) (zy : (yl == 0 && yh == 0) = z2) :
  Calls Tryd.prog 71 #[.int .u8 23, .agg #[.int .i32 xl, .int .i32 xh], .agg #[.int .i32 yl, .int .i32 yh]] w fun e w' => e = .returned (.agg #[.int .i32 (trI (!true || !b2) (false && z2)).1, .int .i32 (trI (!true || !b2) (false && z2)).2]) ∧ Below w.heap.size w w' := by
 have _k : True := by have _ := BX; have _ := BY; have _ := zx; have _ := zy; trivial
 have e2 := eq_iv
 go_enter Tryd.func71, Tryd.ntmps71
 go_wp2_with fail
 refine (Calls.ext (of_any _ _)).mono ?_
 rintro e _ ⟨rfl, y, rfl⟩
 go_wp2_with fail
 obtain ⟨W, g, hW, hg, kB, z0, z1, z2', z3, z4, c1, f1, c2, f2, c3, f3, c4, f4, c5, f5, c6, f6, c7, f7, c8, f8⟩ := two_one_base xl xh yl yh 0 0 w y
 rw [hW, hg]
 clear hW hg y
 refine wp_region_ext_tail 17 (by kernel_rfl) (by kernel_rfl) ?_
 simp only [List.take_succ_cons, List.take_zero, List.drop_succ_cons, List.drop_zero]
 repeat (go_big_quiet_step (first | (go_at_call 21; (first | (with_reducible exact Calls.extq (lit_of (contains_any _ _ _ _) BX.out)) | (with_reducible exact Calls.extq (lit_of (contains_any _ _ _ _) BY.out)))) | (go_at_call 87; exact Calls.extq (itruth_any _ _ _))))
 refine wpQuiet_nil ?_
 rintro _ ⟨x1, rfl⟩
 go_wp2_with fail
 refine bodyPost_ret (v := .agg #[.int .i32 (trI (!true || !b2) (false && z2)).1, .int .i32 (trI (!true || !b2) (false && z2)).2]) ?hr rfl ⟨rfl, ?bel⟩
 case hr =>
  simp [results, Tryd.results71, go_sem, c5, c6, z2']
 case bel =>
  (repeat (first | assumption | refine Below.setCell ?_ ?_ _ | refine Ext.below ?_ ?_ _ | refine Below.alloc ?_ ?_ _)) <;> (first | (simp; done) | (simp; omega) | omega)

set_option maxRecDepth 100000 in
set_option maxHeartbeats 1000000 in
theorem logic_23_tt (xl xh yl yh : Int) (w : World) (b2 z2 : Bool) (BX : Hid ((decide (xl ≤ 0) && decide (0 ≤ xh)) = true)) (BY : Hid ((decide (yl ≤ 0) && decide (0 ≤ yh)) = b2)) (zx : (xl == 0 && xh == 0) = true) (zy : (yl == 0 && yh == 0) = z2) :
  Calls Tryd.prog 71 #[.int .u8 23, .agg #[.int .i32 xl, .int .i32 xh], .agg #[.int .i32 yl, .int .i32 yh]] w fun e w' => e = .returned (.agg #[.int .i32 (trI (!true || !b2) (true && z2)).1, .int .i32 (trI (!true || !b2) (true && z2)).2]) ∧ Below w.heap.size w w' := by
 have _k : True := by have _ := BX; have _ := BY; have _ := zx; have _ := zy; trivial
 have e2 := eq_iv
 go_enter Tryd.func71, Tryd.ntmps71
 go_wp2_with fail
 refine (Calls.ext (of_any _ _)).mono ?_
 rintro e _ ⟨rfl, y, rfl⟩
 go_wp2_with fail
 obtain ⟨W, g, hW, hg, kB, z0, z1, z2', z3, z4, c1, f1, c2, f2, c3, f3, c4, f4, c5, f5, c6, f6, c7, f7, c8, f8⟩ := two_one_base xl xh yl yh 0 0 w y
 rw [hW, hg]
 clear hW hg y
 refine wp_region_ext_tail 17 (by kernel_rfl) (by kernel_rfl) ?_
 simp only [List.take_succ_cons, List.take_zero, List.drop_succ_cons, List.drop_zero]
 repeat (go_big_quiet_step (first | (go_at_call 21; (first | (with_reducible exact Calls.extq (lit_of (contains_any _ _ _ _) BX.out)) | (with_reducible exact Calls.extq (lit_of (contains_any _ _ _ _) BY.out)))) | (go_at_call 87; exact Calls.extq (itruth_any _ _ _))))
 refine wpQuiet_nil ?_
 rintro _ ⟨x1, rfl⟩
 go_wp2_with fail
 refine bodyPost_ret (v := .agg #[.int .i32 (trI (!true || !b2) (true && z2)).1, .int .i32 (trI (!true || !b2) (true && z2)).2]) ?hr rfl ⟨rfl, ?bel⟩
 case hr =>
  simp [results, Tryd.results71, go_sem, c5, c6, z2']
 case bel =>
  (repeat (first | assumption | refine Below.setCell ?_ ?_ _ | refine Ext.below ?_ ?_ _ | refine Below.alloc ?_ ?_ _)) <;> (first | (simp; done) | (simp; omega) | omega)

theorem logic_any (op xl xh yl yh : Int) (w : World) (h1 : 22 ≤ op) (h2 : op ≤ 23) :
  Calls Tryd.prog 71 #[.int .u8 op, .agg #[.int .i32 xl, .int .i32 xh], .agg #[.int .i32 yl, .int .i32 yh]] w fun e w' => e = .returned (.agg #[.int .i32 (logI op (xl, xh) (yl, yh)).1, .int .i32 (logI op (xl, xh) (yl, yh)).2]) ∧ Below w.heap.size w w' := by
 have h : op = 22 ∨ op = 23 := by omega
 rcases h with rfl | rfl
 ·cases bx : (decide (xl ≤ 0) && decide (0 ≤ xh)) <;> cases zx : (xl == 0 && xh == 0)
  ·refine (logic_22_ff xl xh yl yh w _ _ (Lib.hid bx) (Lib.hid rfl) zx rfl).mono fun e w' ⟨he, hb⟩ => ⟨?_, hb⟩
   rw [he]
   simp only [logI, has0, is0, bx, zx]
   rfl
  ·refine (logic_22_ft xl xh yl yh w _ _ (Lib.hid bx) (Lib.hid rfl) zx rfl).mono fun e w' ⟨he, hb⟩ => ⟨?_, hb⟩
   rw [he]
   simp only [logI, has0, is0, bx, zx]
   rfl
  ·refine (logic_22_tf xl xh yl yh w _ _ (Lib.hid bx) (Lib.hid rfl) zx rfl).mono fun e w' ⟨he, hb⟩ => ⟨?_, hb⟩
   rw [he]
   simp only [logI, has0, is0, bx, zx]
   rfl
  ·refine (logic_22_tt xl xh yl yh w _ _ (Lib.hid bx) (Lib.hid rfl) zx rfl).mono fun e w' ⟨he, hb⟩ => ⟨?_, hb⟩
   rw [he]
   simp only [logI, has0, is0, bx, zx]
   rfl
 ·cases bx : (decide (xl ≤ 0) && decide (0 ≤ xh)) <;> cases zx : (xl == 0 && xh == 0)
  ·refine (logic_23_ff xl xh yl yh w _ _ (Lib.hid bx) (Lib.hid rfl) zx rfl).mono fun e w' ⟨he, hb⟩ => ⟨?_, hb⟩
   rw [he]
   simp only [logI, has0, is0, bx, zx]
   rfl
  ·refine (logic_23_ft xl xh yl yh w _ _ (Lib.hid bx) (Lib.hid rfl) zx rfl).mono fun e w' ⟨he, hb⟩ => ⟨?_, hb⟩
   rw [he]
   simp only [logI, has0, is0, bx, zx]
   rfl
  ·refine (logic_23_tf xl xh yl yh w _ _ (Lib.hid bx) (Lib.hid rfl) zx rfl).mono fun e w' ⟨he, hb⟩ => ⟨?_, hb⟩
   rw [he]
   simp only [logI, has0, is0, bx, zx]
   rfl
  ·refine (logic_23_tt xl xh yl yh w _ _ (Lib.hid bx) (Lib.hid rfl) zx rfl).mono fun e w' ⟨he, hb⟩ => ⟨?_, hb⟩
   rw [he]
   simp only [logI, has0, is0, bx, zx]
   rfl

end Go.Proofs.YtebklpnkcicpjaaDoor

namespace Go.Proofs
open Go.Shelf
def Tryd.lays128_ren : Go.Shelf.Ren := ⟨fun | 128 => 93 | n => n, fun | 51 => 67 | 3 => 3 | 4 => 4 | 46 => 117 | 5 => 5 | 9 => 9 | n => n, fun | n => n⟩
theorem Tryd.lays128 : Go.Proofs.Lays.n128 Tryd.prog Tryd.lays128_ren := {
 mixed := by kernel_rfl
 f128 := Tryd.func93.trans (congrArg some (by kernel_rfl))
 t3 := Tryd.underlying3
 a3 := Tryd.isAgg3
 z3 := Tryd.sizeOf3
 v3 := Tryd.zeroValue3
 t4 := Tryd.underlying4
 a4 := Tryd.isAgg4
 z4 := Tryd.sizeOf4
 v4 := Tryd.zeroValue4
 t5 := Tryd.underlying5
 a5 := Tryd.isAgg5
 z5 := Tryd.sizeOf5
 v5 := Tryd.zeroValue5
 t9 := Tryd.underlying9
 a9 := Tryd.isAgg9
 z9 := Tryd.sizeOf9
 v9 := Tryd.zeroValue9
 t46 := Tryd.underlying117
 a46 := Tryd.isAgg117
 z46 := Tryd.sizeOf117
 v46 := Tryd.zeroValue117
 t51 := Tryd.underlying67
 a51 := Tryd.isAgg67
 z51 := Tryd.sizeOf67
 v51 := Tryd.zeroValue67 }
theorem Tryd.bits_Len32 (x : Int) (w : World) (h0 : 0 ≤ x) (h1 : x ≤ 4294967295) :
  Calls Tryd.prog 93 #[.int .u32 x] w fun e w' => e = .returned (.int .i64 (Lib.bitLen x.toNat)) ∧ w' = w := Any.bits_Len32 Tryd.lays128 x w h0 h1
end Go.Proofs

namespace Go.Proofs.YtebklpnkcicpjaaDoor
open Go.RowKit
set_option linter.unusedVariables false
set_option linter.unusedSimpArgs false

def onesI (n : Int) : Int := 2 ^ Lib.bitLen n.toNat - 1
theorem bitLenAux_le : ∀ (f k x : Nat), x < 2 ^ k → Lib.bitLenAux f x ≤ k := by
 intro f
 induction f with
 | zero => intro k x _; simp [Lib.bitLenAux]
 | succ f ih =>
  intro k x hx
  unfold Lib.bitLenAux
  split
  ·omega
  ·cases k with
   | zero => simp at hx; omega
   | succ k =>
    have := ih k (x / 2) (by rw [Nat.pow_succ] at hx; omega)
    omega
theorem bitLen_le {n : Int} (h0 : 0 ≤ n) (h1 : n ≤ 2147483647) : Lib.bitLen n.toNat ≤ 31 := bitLenAux_le 64 31 _ (by omega)
theorem pow_bd (k m : Nat) (h : k ≤ m) : (1 : Int) ≤ 2 ^ k ∧ (2 : Int) ^ k ≤ 2 ^ m := by
 have h1 := Nat.pow_le_pow_right (n := 2) (by omega) h
 have h2 := Nat.pow_le_pow_right (n := 2) (by omega) (Nat.zero_le k)
 constructor
 ·have : ((1 : Nat) : Int) ≤ ((2 ^ k : Nat) : Int) := by omega
  simpa using this
 ·have : ((2 ^ k : Nat) : Int) ≤ ((2 ^ m : Nat) : Int) := by omega
  simpa using this
set_option maxHeartbeats 400000 in
theorem ones_any (n : Int) (w : World) (h0 : 0 ≤ n) (h1 : n ≤ 2147483647) :
  Calls Tryd.prog 86 #[.int .i32 n] w fun e w' => e = .returned (.int .i32 (onesI n)) ∧ w = w' := by
 have hl := bitLen_le h0 h1
 have e0 : Go.IntKind.u32.wrap n = n := by rw [IntKind.wrap_u32]; omega
 go_enter Tryd.func86, Tryd.ntmps86
 go_wp2_with fail
 refine (Tryd.bits_Len32 _ _ (by omega) (by omega)).mono ?_
 rintro e w' ⟨rfl, rfl⟩
 go_wp2_with fail
 go_ret
 refine ⟨ret_int ?_, rfl⟩
 have hp := pow_bd _ 31 hl
 unfold onesI
 generalize (2 : Int) ^ Lib.bitLen n.toNat = p at *
 unfold wrap32
 omega

def bitI (op : Int) (x y : Int × Int) : Int × Int :=
 if op = 11 ∧ 0 ≤ x.1 ∧ 0 ≤ y.1 then (0, min x.2 y.2) else if op = 11 ∧ 0 ≤ x.1 then (0, x.2) else if op = 11 ∧ 0 ≤ y.1 then (0, y.2)
 else if op = 12 ∧ 0 ≤ x.1 ∧ 0 ≤ y.1 then (max x.1 y.1, onesI (max x.2 y.2)) else if op = 12 ∧ x.2 < 0 ∧ y.2 < 0 then (max x.1 y.1, -1)
 else if op = 13 ∧ 0 ≤ x.1 ∧ 0 ≤ y.1 then (0, onesI (max x.2 y.2)) else (-2147483648, 2147483647)

set_option maxRecDepth 100000 in
set_option maxHeartbeats 1000000 in
theorem bit_11_b (xl xh yl yh : Int) (w : World) (hx3 : -2147483648 ≤ xh) (hx4 : xh ≤ 2147483647) (hy3 : -2147483648 ≤ yh) (hy4 : yh ≤ 2147483647) (hs : 0 ≤ xl) (ht : 0 ≤ yl) :
  Calls Tryd.prog 69 #[.int .u8 11, .agg #[.int .i32 xl, .int .i32 xh], .agg #[.int .i32 yl, .int .i32 yh]] w fun e w' => e = .returned (.agg #[.int .i32 (0), .int .i32 (min xh yh)]) ∧ Below w.heap.size w w' := by
 have p : decide (0 ≤ xl) = true := by simp; omega
 have q : decide (0 ≤ yl) = true := by simp; omega
 go_enter Tryd.func69, Tryd.ntmps69
 go_wp2_with (first | (go_at_call 49; ((first | (with_reducible refine (Calls.extq (full_any _)).mono ?_) | (refine (Calls.ext (full_any _)).mono ?_)); rintro e _ ⟨rfl, y, rfl⟩)) | (go_at_call 86; refine (ones_any _ _ (by (try split) <;> omega) (by (try split) <;> omega)).mono ?_; rintro e _ ⟨rfl, rfl⟩))
 all_goals
  refine bodyPost_ret (v := .agg #[.int .i32 (0), .int .i32 (min xh yh)]) ?hr rfl ⟨rfl, ?bel⟩
  case hr =>
   simp [results, Tryd.results69, go_sem, min_if, max_if]
  case bel =>
   (repeat (first | exact Below.refl _ _ | refine Below.setCell ?_ ?_ _ | refine Ext.below ?_ ?_ _ | refine Below.alloc ?_ ?_ _)) <;> (first | (simp; done) | (simp; omega) | omega)

set_option maxRecDepth 100000 in
set_option maxHeartbeats 1000000 in
theorem bit_11_x (xl xh yl yh : Int) (w : World) (hx3 : -2147483648 ≤ xh) (hx4 : xh ≤ 2147483647) (hy3 : -2147483648 ≤ yh) (hy4 : yh ≤ 2147483647) (hs : 0 ≤ xl) (ht : ¬ 0 ≤ yl) :
  Calls Tryd.prog 69 #[.int .u8 11, .agg #[.int .i32 xl, .int .i32 xh], .agg #[.int .i32 yl, .int .i32 yh]] w fun e w' => e = .returned (.agg #[.int .i32 (0), .int .i32 (xh)]) ∧ Below w.heap.size w w' := by
 have p : decide (0 ≤ xl) = true := by simp; omega
 have q : decide (0 ≤ yl) = false := by simp; omega
 go_enter Tryd.func69, Tryd.ntmps69
 go_wp2_with (first | (go_at_call 49; ((first | (with_reducible refine (Calls.extq (full_any _)).mono ?_) | (refine (Calls.ext (full_any _)).mono ?_)); rintro e _ ⟨rfl, y, rfl⟩)) | (go_at_call 86; refine (ones_any _ _ (by (try split) <;> omega) (by (try split) <;> omega)).mono ?_; rintro e _ ⟨rfl, rfl⟩))
 all_goals
  refine bodyPost_ret (v := .agg #[.int .i32 (0), .int .i32 (xh)]) ?hr rfl ⟨rfl, ?bel⟩
  case hr =>
   simp [results, Tryd.results69, go_sem, min_if, max_if]
  case bel =>
   (repeat (first | exact Below.refl _ _ | refine Below.setCell ?_ ?_ _ | refine Ext.below ?_ ?_ _ | refine Below.alloc ?_ ?_ _)) <;> (first | (simp; done) | (simp; omega) | omega)

set_option maxRecDepth 100000 in
set_option maxHeartbeats 1000000 in
theorem bit_11_y (xl xh yl yh : Int) (w : World) (hx3 : -2147483648 ≤ xh) (hx4 : xh ≤ 2147483647) (hy3 : -2147483648 ≤ yh) (hy4 : yh ≤ 2147483647) (hs : ¬ 0 ≤ xl) (ht : 0 ≤ yl) :
  Calls Tryd.prog 69 #[.int .u8 11, .agg #[.int .i32 xl, .int .i32 xh], .agg #[.int .i32 yl, .int .i32 yh]] w fun e w' => e = .returned (.agg #[.int .i32 (0), .int .i32 (yh)]) ∧ Below w.heap.size w w' := by
 have p : decide (0 ≤ xl) = false := by simp; omega
 have q : decide (0 ≤ yl) = true := by simp; omega
 go_enter Tryd.func69, Tryd.ntmps69
 go_wp2_with (first | (go_at_call 49; ((first | (with_reducible refine (Calls.extq (full_any _)).mono ?_) | (refine (Calls.ext (full_any _)).mono ?_)); rintro e _ ⟨rfl, y, rfl⟩)) | (go_at_call 86; refine (ones_any _ _ (by (try split) <;> omega) (by (try split) <;> omega)).mono ?_; rintro e _ ⟨rfl, rfl⟩))
 all_goals
  refine bodyPost_ret (v := .agg #[.int .i32 (0), .int .i32 (yh)]) ?hr rfl ⟨rfl, ?bel⟩
  case hr =>
   simp [results, Tryd.results69, go_sem, min_if, max_if]
  case bel =>
   (repeat (first | exact Below.refl _ _ | refine Below.setCell ?_ ?_ _ | refine Ext.below ?_ ?_ _ | refine Below.alloc ?_ ?_ _)) <;> (first | (simp; done) | (simp; omega) | omega)

set_option maxRecDepth 100000 in
set_option maxHeartbeats 1000000 in
theorem bit_11_n (xl xh yl yh : Int) (w : World) (hx3 : -2147483648 ≤ xh) (hx4 : xh ≤ 2147483647) (hy3 : -2147483648 ≤ yh) (hy4 : yh ≤ 2147483647) (hs : ¬ 0 ≤ xl) (ht : ¬ 0 ≤ yl) :
  Calls Tryd.prog 69 #[.int .u8 11, .agg #[.int .i32 xl, .int .i32 xh], .agg #[.int .i32 yl, .int .i32 yh]] w fun e w' => e = .returned (.agg #[.int .i32 (-2147483648), .int .i32 (2147483647)]) ∧ Below w.heap.size w w' := by
 have p : decide (0 ≤ xl) = false := by simp; omega
 have q : decide (0 ≤ yl) = false := by simp; omega
 go_enter Tryd.func69, Tryd.ntmps69
 go_wp2_with (first | (go_at_call 49; ((first | (with_reducible refine (Calls.extq (full_any _)).mono ?_) | (refine (Calls.ext (full_any _)).mono ?_)); rintro e _ ⟨rfl, y, rfl⟩)) | (go_at_call 86; refine (ones_any _ _ (by (try split) <;> omega) (by (try split) <;> omega)).mono ?_; rintro e _ ⟨rfl, rfl⟩))
 all_goals
  refine bodyPost_ret (v := .agg #[.int .i32 (-2147483648), .int .i32 (2147483647)]) ?hr rfl ⟨rfl, ?bel⟩
  case hr =>
   simp [results, Tryd.results69, go_sem, min_if, max_if]
  case bel =>
   (repeat (first | exact Below.refl _ _ | refine Below.setCell ?_ ?_ _ | refine Ext.below ?_ ?_ _ | refine Below.alloc ?_ ?_ _)) <;> (first | (simp; done) | (simp; omega) | omega)

set_option maxRecDepth 100000 in
set_option maxHeartbeats 1000000 in
theorem bit_12_b (xl xh yl yh : Int) (w : World) (hx3 : -2147483648 ≤ xh) (hx4 : xh ≤ 2147483647) (hy3 : -2147483648 ≤ yh) (hy4 : yh ≤ 2147483647) (hs : 0 ≤ xl) (ht : 0 ≤ yl) (he : xl ≤ xh) (he' : yl ≤ yh) :
  Calls Tryd.prog 69 #[.int .u8 12, .agg #[.int .i32 xl, .int .i32 xh], .agg #[.int .i32 yl, .int .i32 yh]] w fun e w' => e = .returned (.agg #[.int .i32 (max xl yl), .int .i32 (onesI (max xh yh))]) ∧ Below w.heap.size w w' := by
 have p : decide (0 ≤ xl) = true := by simp; omega
 have q : decide (0 ≤ yl) = true := by simp; omega
 go_enter Tryd.func69, Tryd.ntmps69
 go_wp2_with fail
 refine wp_region_ext_tail 12 (by kernel_rfl) (by kernel_rfl) ?_
 simp only [List.take_succ_cons, List.take_zero, List.drop_succ_cons, List.drop_zero]
 repeat (go_big_quiet_step ((go_at_call 86; exact Calls.extq_same (ones_any _ _ (by (try split) <;> omega) (by (try split) <;> omega)))))
 refine wpQuiet_nil ?_
 rintro _ ⟨x1, rfl⟩
 go_wp2_with fail
 all_goals
  refine bodyPost_ret (v := .agg #[.int .i32 (max xl yl), .int .i32 (onesI (max xh yh))]) ?hr rfl ⟨rfl, ?bel⟩
  case hr =>
   simp [results, Tryd.results69, go_sem, min_if, max_if]
  case bel =>
   (repeat (first | exact Below.refl _ _ | refine Below.setCell ?_ ?_ _ | refine Ext.below ?_ ?_ _ | refine Below.alloc ?_ ?_ _)) <;> (first | (simp; done) | (simp; omega) | omega)

set_option maxRecDepth 100000 in
set_option maxHeartbeats 1000000 in
theorem bit_12_m (xl xh yl yh : Int) (w : World) (hx3 : -2147483648 ≤ xh) (hx4 : xh ≤ 2147483647) (hy3 : -2147483648 ≤ yh) (hy4 : yh ≤ 2147483647) (hs : ¬ 0 ≤ xl) (hn : xh < 0) (hn' : yh < 0) :
  Calls Tryd.prog 69 #[.int .u8 12, .agg #[.int .i32 xl, .int .i32 xh], .agg #[.int .i32 yl, .int .i32 yh]] w fun e w' => e = .returned (.agg #[.int .i32 (max xl yl), .int .i32 (-1)]) ∧ Below w.heap.size w w' := by
 have p : decide (0 ≤ xl) = false := by simp; omega
 have r : decide (xh < 0) = true := by simp; omega
 have s : decide (yh < 0) = true := by simp; omega
 go_enter Tryd.func69, Tryd.ntmps69
 go_wp2_with (first | (go_at_call 49; ((first | (with_reducible refine (Calls.extq (full_any _)).mono ?_) | (refine (Calls.ext (full_any _)).mono ?_)); rintro e _ ⟨rfl, y, rfl⟩)) | (go_at_call 86; refine (ones_any _ _ (by (try split) <;> omega) (by (try split) <;> omega)).mono ?_; rintro e _ ⟨rfl, rfl⟩))
 all_goals
  refine bodyPost_ret (v := .agg #[.int .i32 (max xl yl), .int .i32 (-1)]) ?hr rfl ⟨rfl, ?bel⟩
  case hr =>
   simp [results, Tryd.results69, go_sem, min_if, max_if]
  case bel =>
   (repeat (first | exact Below.refl _ _ | refine Below.setCell ?_ ?_ _ | refine Ext.below ?_ ?_ _ | refine Below.alloc ?_ ?_ _)) <;> (first | (simp; done) | (simp; omega) | omega)

set_option maxRecDepth 100000 in
set_option maxHeartbeats 1000000 in
theorem bit_12_nx (xl xh yl yh : Int) (w : World) (hx3 : -2147483648 ≤ xh) (hx4 : xh ≤ 2147483647) (hy3 : -2147483648 ≤ yh) (hy4 : yh ≤ 2147483647) (hs : ¬ 0 ≤ xl) (hn : ¬ xh < 0) :
  Calls Tryd.prog 69 #[.int .u8 12, .agg #[.int .i32 xl, .int .i32 xh], .agg #[.int .i32 yl, .int .i32 yh]] w fun e w' => e = .returned (.agg #[.int .i32 (-2147483648), .int .i32 (2147483647)]) ∧ Below w.heap.size w w' := by
 have p : decide (0 ≤ xl) = false := by simp; omega
 have r : decide (xh < 0) = false := by simp; omega
 go_enter Tryd.func69, Tryd.ntmps69
 go_wp2_with (first | (go_at_call 49; ((first | (with_reducible refine (Calls.extq (full_any _)).mono ?_) | (refine (Calls.ext (full_any _)).mono ?_)); rintro e _ ⟨rfl, y, rfl⟩)) | (go_at_call 86; refine (ones_any _ _ (by (try split) <;> omega) (by (try split) <;> omega)).mono ?_; rintro e _ ⟨rfl, rfl⟩))
 all_goals
  refine bodyPost_ret (v := .agg #[.int .i32 (-2147483648), .int .i32 (2147483647)]) ?hr rfl ⟨rfl, ?bel⟩
  case hr =>
   simp [results, Tryd.results69, go_sem, min_if, max_if]
  case bel =>
   (repeat (first | exact Below.refl _ _ | refine Below.setCell ?_ ?_ _ | refine Ext.below ?_ ?_ _ | refine Below.alloc ?_ ?_ _)) <;> (first | (simp; done) | (simp; omega) | omega)

set_option maxRecDepth 100000 in
set_option maxHeartbeats 1000000 in
theorem bit_12_ny (xl xh yl yh : Int) (w : World) (hx3 : -2147483648 ≤ xh) (hx4 : xh ≤ 2147483647) (hy3 : -2147483648 ≤ yh) (hy4 : yh ≤ 2147483647) (hs : ¬ 0 ≤ xl) (hn : xh < 0) (hn' : ¬ yh < 0) :
  Calls Tryd.prog 69 #[.int .u8 12, .agg #[.int .i32 xl, .int .i32 xh], .agg #[.int .i32 yl, .int .i32 yh]] w fun e w' => e = .returned (.agg #[.int .i32 (-2147483648), .int .i32 (2147483647)]) ∧ Below w.heap.size w w' := by
 have p : decide (0 ≤ xl) = false := by simp; omega
 have r : decide (xh < 0) = true := by simp; omega
 have s : decide (yh < 0) = false := by simp; omega
 go_enter Tryd.func69, Tryd.ntmps69
 go_wp2_with (first | (go_at_call 49; ((first | (with_reducible refine (Calls.extq (full_any _)).mono ?_) | (refine (Calls.ext (full_any _)).mono ?_)); rintro e _ ⟨rfl, y, rfl⟩)) | (go_at_call 86; refine (ones_any _ _ (by (try split) <;> omega) (by (try split) <;> omega)).mono ?_; rintro e _ ⟨rfl, rfl⟩))
 all_goals
  refine bodyPost_ret (v := .agg #[.int .i32 (-2147483648), .int .i32 (2147483647)]) ?hr rfl ⟨rfl, ?bel⟩
  case hr =>
   simp [results, Tryd.results69, go_sem, min_if, max_if]
  case bel =>
   (repeat (first | exact Below.refl _ _ | refine Below.setCell ?_ ?_ _ | refine Ext.below ?_ ?_ _ | refine Below.alloc ?_ ?_ _)) <;> (first | (simp; done) | (simp; omega) | omega)

set_option maxRecDepth 100000 in
set_option maxHeartbeats 1000000 in
theorem bit_12_py (xl xh yl yh : Int) (w : World) (hx3 : -2147483648 ≤ xh) (hx4 : xh ≤ 2147483647) (hy3 : -2147483648 ≤ yh) (hy4 : yh ≤ 2147483647) (hs : 0 ≤ xl) (ht : ¬ 0 ≤ yl) (hn : ¬ xh < 0) :
  Calls Tryd.prog 69 #[.int .u8 12, .agg #[.int .i32 xl, .int .i32 xh], .agg #[.int .i32 yl, .int .i32 yh]] w fun e w' => e = .returned (.agg #[.int .i32 (-2147483648), .int .i32 (2147483647)]) ∧ Below w.heap.size w w' := by
 have p : decide (0 ≤ xl) = true := by simp; omega
 have q : decide (0 ≤ yl) = false := by simp; omega
 have r : decide (xh < 0) = false := by simp; omega
 go_enter Tryd.func69, Tryd.ntmps69
 go_wp2_with (first | (go_at_call 49; ((first | (with_reducible refine (Calls.extq (full_any _)).mono ?_) | (refine (Calls.ext (full_any _)).mono ?_)); rintro e _ ⟨rfl, y, rfl⟩)) | (go_at_call 86; refine (ones_any _ _ (by (try split) <;> omega) (by (try split) <;> omega)).mono ?_; rintro e _ ⟨rfl, rfl⟩))
 all_goals
  refine bodyPost_ret (v := .agg #[.int .i32 (-2147483648), .int .i32 (2147483647)]) ?hr rfl ⟨rfl, ?bel⟩
  case hr =>
   simp [results, Tryd.results69, go_sem, min_if, max_if]
  case bel =>
   (repeat (first | exact Below.refl _ _ | refine Below.setCell ?_ ?_ _ | refine Ext.below ?_ ?_ _ | refine Below.alloc ?_ ?_ _)) <;> (first | (simp; done) | (simp; omega) | omega)

set_option maxRecDepth 100000 in
set_option maxHeartbeats 1000000 in
theorem bit_13_b (xl xh yl yh : Int) (w : World) (hx3 : -2147483648 ≤ xh) (hx4 : xh ≤ 2147483647) (hy3 : -2147483648 ≤ yh) (hy4 : yh ≤ 2147483647) (hs : 0 ≤ xl) (ht : 0 ≤ yl) (he : xl ≤ xh) (he' : yl ≤ yh) :
  Calls Tryd.prog 69 #[.int .u8 13, .agg #[.int .i32 xl, .int .i32 xh], .agg #[.int .i32 yl, .int .i32 yh]] w fun e w' => e = .returned (.agg #[.int .i32 (0), .int .i32 (onesI (max xh yh))]) ∧ Below w.heap.size w w' := by
 have p : decide (0 ≤ xl) = true := by simp; omega
 have q : decide (0 ≤ yl) = true := by simp; omega
 go_enter Tryd.func69, Tryd.ntmps69
 go_wp2_with (first | (go_at_call 49; ((first | (with_reducible refine (Calls.extq (full_any _)).mono ?_) | (refine (Calls.ext (full_any _)).mono ?_)); rintro e _ ⟨rfl, y, rfl⟩)) | (go_at_call 86; refine (ones_any _ _ (by (try split) <;> omega) (by (try split) <;> omega)).mono ?_; rintro e _ ⟨rfl, rfl⟩))
 all_goals
  refine bodyPost_ret (v := .agg #[.int .i32 (0), .int .i32 (onesI (max xh yh))]) ?hr rfl ⟨rfl, ?bel⟩
  case hr =>
   simp [results, Tryd.results69, go_sem, min_if, max_if]
  case bel =>
   (repeat (first | exact Below.refl _ _ | refine Below.setCell ?_ ?_ _ | refine Ext.below ?_ ?_ _ | refine Below.alloc ?_ ?_ _)) <;> (first | (simp; done) | (simp; omega) | omega)

set_option maxRecDepth 100000 in
set_option maxHeartbeats 1000000 in
theorem bit_13_x (xl xh yl yh : Int) (w : World) (hx3 : -2147483648 ≤ xh) (hx4 : xh ≤ 2147483647) (hy3 : -2147483648 ≤ yh) (hy4 : yh ≤ 2147483647) (hs : ¬ 0 ≤ xl) :
  Calls Tryd.prog 69 #[.int .u8 13, .agg #[.int .i32 xl, .int .i32 xh], .agg #[.int .i32 yl, .int .i32 yh]] w fun e w' => e = .returned (.agg #[.int .i32 (-2147483648), .int .i32 (2147483647)]) ∧ Below w.heap.size w w' := by
 have p : decide (0 ≤ xl) = false := by simp; omega
 go_enter Tryd.func69, Tryd.ntmps69
 go_wp2_with (first | (go_at_call 49; ((first | (with_reducible refine (Calls.extq (full_any _)).mono ?_) | (refine (Calls.ext (full_any _)).mono ?_)); rintro e _ ⟨rfl, y, rfl⟩)) | (go_at_call 86; refine (ones_any _ _ (by (try split) <;> omega) (by (try split) <;> omega)).mono ?_; rintro e _ ⟨rfl, rfl⟩))
 all_goals
  refine bodyPost_ret (v := .agg #[.int .i32 (-2147483648), .int .i32 (2147483647)]) ?hr rfl ⟨rfl, ?bel⟩
  case hr =>
   simp [results, Tryd.results69, go_sem, min_if, max_if]
  case bel =>
   (repeat (first | exact Below.refl _ _ | refine Below.setCell ?_ ?_ _ | refine Ext.below ?_ ?_ _ | refine Below.alloc ?_ ?_ _)) <;> (first | (simp; done) | (simp; omega) | omega)

set_option maxRecDepth 100000 in
set_option maxHeartbeats 1000000 in
theorem bit_13_y (xl xh yl yh : Int) (w : World) (hx3 : -2147483648 ≤ xh) (hx4 : xh ≤ 2147483647) (hy3 : -2147483648 ≤ yh) (hy4 : yh ≤ 2147483647) (hs : 0 ≤ xl) (ht : ¬ 0 ≤ yl) :
  Calls Tryd.prog 69 #[.int .u8 13, .agg #[.int .i32 xl, .int .i32 xh], .agg #[.int .i32 yl, .int .i32 yh]] w fun e w' => e = .returned (.agg #[.int .i32 (-2147483648), .int .i32 (2147483647)]) ∧ Below w.heap.size w w' := by
 have p : decide (0 ≤ xl) = true := by simp; omega
 have q : decide (0 ≤ yl) = false := by simp; omega
 go_enter Tryd.func69, Tryd.ntmps69
 go_wp2_with (first | (go_at_call 49; ((first | (with_reducible refine (Calls.extq (full_any _)).mono ?_) | (refine (Calls.ext (full_any _)).mono ?_)); rintro e _ ⟨rfl, y, rfl⟩)) | (go_at_call 86; refine (ones_any _ _ (by (try split) <;> omega) (by (try split) <;> omega)).mono ?_; rintro e _ ⟨rfl, rfl⟩))
 all_goals
  refine bodyPost_ret (v := .agg #[.int .i32 (-2147483648), .int .i32 (2147483647)]) ?hr rfl ⟨rfl, ?bel⟩
  case hr =>
   simp [results, Tryd.results69, go_sem, min_if, max_if]
  case bel =>
   (repeat (first | exact Below.refl _ _ | refine Below.setCell ?_ ?_ _ | refine Ext.below ?_ ?_ _ | refine Below.alloc ?_ ?_ _)) <;> (first | (simp; done) | (simp; omega) | omega)

theorem bitwise_any (op xl xh yl yh : Int) (w : World) (hx3 : -2147483648 ≤ xh) (hx4 : xh ≤ 2147483647) (hy3 : -2147483648 ≤ yh) (hy4 : yh ≤ 2147483647) (h1 : 11 ≤ op) (h2 : op ≤ 13) (he : xl ≤ xh) (he' : yl ≤ yh) :
  Calls Tryd.prog 69 #[.int .u8 op, .agg #[.int .i32 xl, .int .i32 xh], .agg #[.int .i32 yl, .int .i32 yh]] w fun e w' => e = .returned (.agg #[.int .i32 (bitI op (xl, xh) (yl, yh)).1, .int .i32 (bitI op (xl, xh) (yl, yh)).2]) ∧ Below w.heap.size w w' := by
 have h : op = 11 ∨ op = 12 ∨ op = 13 := by omega
 by_cases hs : 0 ≤ xl <;> by_cases ht : 0 ≤ yl <;> rcases h with rfl | rfl | rfl
 ·refine (bit_11_b xl xh yl yh w hx3 hx4 hy3 hy4 hs ht).mono fun e w' ⟨q, hb⟩ => ⟨q.trans ?_, hb⟩
  simp [bitI, hs, ht]
 ·refine (bit_12_b xl xh yl yh w hx3 hx4 hy3 hy4 hs ht he he').mono fun e w' ⟨q, hb⟩ => ⟨q.trans ?_, hb⟩
  simp [bitI, hs, ht]
 ·refine (bit_13_b xl xh yl yh w hx3 hx4 hy3 hy4 hs ht he he').mono fun e w' ⟨q, hb⟩ => ⟨q.trans ?_, hb⟩
  simp [bitI, hs, ht]
 ·refine (bit_11_x xl xh yl yh w hx3 hx4 hy3 hy4 hs ht).mono fun e w' ⟨q, hb⟩ => ⟨q.trans ?_, hb⟩
  simp [bitI, hs, ht]
 ·refine (bit_12_py xl xh yl yh w hx3 hx4 hy3 hy4 hs ht (by omega)).mono fun e w' ⟨q, hb⟩ => ⟨q.trans ?_, hb⟩
  have : ¬ xh < 0 := by omega
  simp [bitI, ht, this]
 ·refine (bit_13_y xl xh yl yh w hx3 hx4 hy3 hy4 hs ht).mono fun e w' ⟨q, hb⟩ => ⟨q.trans ?_, hb⟩
  simp [bitI, ht]
 ·refine (bit_11_y xl xh yl yh w hx3 hx4 hy3 hy4 hs ht).mono fun e w' ⟨q, hb⟩ => ⟨q.trans ?_, hb⟩
  simp [bitI, hs, ht]
 ·have : ¬ yh < 0 := by omega
  by_cases hn : xh < 0
  ·refine (bit_12_ny xl xh yl yh w hx3 hx4 hy3 hy4 hs hn this).mono fun e w' ⟨q, hb⟩ => ⟨q.trans ?_, hb⟩
   simp [bitI, hs, this]
  ·refine (bit_12_nx xl xh yl yh w hx3 hx4 hy3 hy4 hs hn).mono fun e w' ⟨q, hb⟩ => ⟨q.trans ?_, hb⟩
   simp [bitI, hs, this]
 ·refine (bit_13_x xl xh yl yh w hx3 hx4 hy3 hy4 hs).mono fun e w' ⟨q, hb⟩ => ⟨q.trans ?_, hb⟩
  simp [bitI, hs]
 ·refine (bit_11_n xl xh yl yh w hx3 hx4 hy3 hy4 hs ht).mono fun e w' ⟨q, hb⟩ => ⟨q.trans ?_, hb⟩
  simp [bitI, hs, ht]
 ·by_cases hn : xh < 0
  ·by_cases hn' : yh < 0
   ·refine (bit_12_m xl xh yl yh w hx3 hx4 hy3 hy4 hs hn hn').mono fun e w' ⟨q, hb⟩ => ⟨q.trans ?_, hb⟩
    simp [bitI, hs, hn, hn']
   ·refine (bit_12_ny xl xh yl yh w hx3 hx4 hy3 hy4 hs hn hn').mono fun e w' ⟨q, hb⟩ => ⟨q.trans ?_, hb⟩
    simp [bitI, hs, hn']
  ·refine (bit_12_nx xl xh yl yh w hx3 hx4 hy3 hy4 hs hn).mono fun e w' ⟨q, hb⟩ => ⟨q.trans ?_, hb⟩
   simp [bitI, hs, hn]
 ·refine (bit_13_x xl xh yl yh w hx3 hx4 hy3 hy4 hs).mono fun e w' ⟨q, hb⟩ => ⟨q.trans ?_, hb⟩
  simp [bitI, hs]

end Go.Proofs.YtebklpnkcicpjaaDoor

namespace Go.Proofs.YtebklpnkcicpjaaDoor
open Go.RowKit
set_option linter.unusedVariables false
set_option linter.unusedSimpArgs false

def shI (op : Int) (x y : Int × Int) : Int × Int :=
 if op = 14 then (if y.1 = y.2 then hullL [x.1 * 2 ^ (y.1 % 32).toNat, x.2 * 2 ^ (y.1 % 32).toNat] else (-2147483648, 2147483647))
 else if y.1 = y.2 then (x.1 / 2 ^ (y.1 % 32).toNat, x.2 / 2 ^ (y.1 % 32).toNat) else (if 0 ≤ x.1 then 0 else x.1, if x.2 < 0 then -1 else x.2)

theorem Ext.merge {w0 : World} (y : Ext w0) (o : Obj) (y2 : Ext (y.w.alloc o)) : ∃ y3 : Ext w0, y2.w = y3.w :=
 ⟨⟨y2.w, Ext.below (Below.alloc y.h y.h.size o) (by have := y.h.size; simp only [World.size_alloc]; omega) y2⟩, rfl⟩

theorem and31 (y : Int) : bits .and .u32 (y % 4294967296) 31 = y % 32 := by
 have h := bits_mask .u32 32 (by decide) (fun n h0 h1 => by rw [IntKind.wrap_u32]; omega) 5 (by decide) (y % 4294967296) (by omega) (by omega)
 have e : (2 : Int) ^ 5 - 1 = 31 := by decide
 rw [e] at h
 rw [h]
 omega

theorem sh_wrap (x y : Int) (h1 : -2147483648 ≤ x) (h2 : x ≤ 2147483647) : wrap64 (x * 2 ^ (y % 32).toNat) = x * 2 ^ (y % 32).toNat := by
 have hp := pow_bd (y % 32).toNat 31 (by omega)
 have e : (2 : Int) ^ 31 = 2147483648 := by decide
 rw [e] at hp
 have h3 : (x * 2 ^ (y % 32).toNat).natAbs ≤ 2147483648 * 2147483648 := by
  rw [Int.natAbs_mul]
  exact Nat.mul_le_mul (by omega) (by omega)
 generalize x * 2 ^ (y % 32).toNat = p at *
 unfold wrap64
 omega

set_option maxRecDepth 100000 in
set_option maxHeartbeats 1000000 in
theorem shift_14_s (xl xh yl yh : Int) (w : World) (hx1 : -2147483648 ≤ xl) (hx2 : xl ≤ 2147483647) (hx3 : -2147483648 ≤ xh) (hx4 : xh ≤ 2147483647) (hy1 : -2147483648 ≤ yl) (hy2 : yl ≤ 2147483647) (hs : (yl == yh) = true) :
  Calls Tryd.prog 70 #[.int .u8 14, .agg #[.int .i32 xl, .int .i32 xh], .agg #[.int .i32 yl, .int .i32 yh]] w fun e w' => e = .returned (.agg #[.int .i32 (hullL [xl * 2 ^ (yl % 32).toNat, xh * 2 ^ (yl % 32).toNat]).1, .int .i32 (hullL [xl * 2 ^ (yl % 32).toNat, xh * 2 ^ (yl % 32).toNat]).2]) ∧ Below w.heap.size w w' := by
 have e31 := and31 yl
 go_enter Tryd.func70, Tryd.ntmps70
 go_wp2_with (first | (go_at_call 64; ((first | (with_reducible refine (Calls.extq (single_any _ _ _)).mono ?_) | (refine (Calls.ext (single_any _ _ _)).mono ?_)); rintro e _ ⟨rfl, y, rfl⟩)))
 rw [sh_wrap xl yl hx1 hx2, sh_wrap xh yl hx3 hx4]
 refine (Calls.ext (hull_any _ 2 [xl * 2 ^ (yl % 32).toNat, xh * 2 ^ (yl % 32).toNat] _ (by simp) (by simp) (by simp) ?_)).mono ?_
 ·intro i hi
  simp only [List.length_cons, List.length_nil] at hi
  have : i = 0 ∨ i = 1 := by omega
  rcases this with rfl | rfl <;> (simp [nth, go_sem])
 rintro e _ ⟨rfl, y2, rfl⟩
 obtain ⟨y3, h3⟩ := Ext.merge y _ y2
 rw [h3]
 clear h3 y2
 go_wp2
 all_goals
  refine bodyPost_ret (v := .agg #[.int .i32 (hullL [xl * 2 ^ (yl % 32).toNat, xh * 2 ^ (yl % 32).toNat]).1, .int .i32 (hullL [xl * 2 ^ (yl % 32).toNat, xh * 2 ^ (yl % 32).toNat]).2]) ?hr rfl ⟨rfl, ?bel⟩
  case hr =>
   simp [results, Tryd.results70, go_sem]
  case bel =>
   (repeat (first | exact Below.refl _ _ | refine Below.setCell ?_ ?_ _ | refine Ext.below ?_ ?_ _ | refine Below.alloc ?_ ?_ _)) <;> (first | (simp; done) | (simp; omega) | omega | (simp only [World.size_setCell, World.size_alloc]; refine Nat.le_trans ?_ (Below.size (Ext.h _)); simp only [World.size_setCell, World.size_alloc]; omega))

set_option maxRecDepth 100000 in
set_option maxHeartbeats 1000000 in
theorem shift_14_n (xl xh yl yh : Int) (w : World) (hx1 : -2147483648 ≤ xl) (hx2 : xl ≤ 2147483647) (hx3 : -2147483648 ≤ xh) (hx4 : xh ≤ 2147483647) (hy1 : -2147483648 ≤ yl) (hy2 : yl ≤ 2147483647) (hs : (yl == yh) = false) :
  Calls Tryd.prog 70 #[.int .u8 14, .agg #[.int .i32 xl, .int .i32 xh], .agg #[.int .i32 yl, .int .i32 yh]] w fun e w' => e = .returned (.agg #[.int .i32 (-2147483648), .int .i32 (2147483647)]) ∧ Below w.heap.size w w' := by
 have e31 := and31 yl
 go_enter Tryd.func70, Tryd.ntmps70
 go_wp2_with (first | (go_at_call 64; ((first | (with_reducible refine (Calls.extq (single_any _ _ _)).mono ?_) | (refine (Calls.ext (single_any _ _ _)).mono ?_)); rintro e _ ⟨rfl, y, rfl⟩)) | (go_at_call 49; ((first | (with_reducible refine (Calls.extq (full_any _)).mono ?_) | (refine (Calls.ext (full_any _)).mono ?_)); rintro e _ ⟨rfl, y, rfl⟩)))
 all_goals
  refine bodyPost_ret (v := .agg #[.int .i32 (-2147483648), .int .i32 (2147483647)]) ?hr rfl ⟨rfl, ?bel⟩
  case hr =>
   simp [results, Tryd.results70, go_sem]
  case bel =>
   (repeat (first | exact Below.refl _ _ | refine Below.setCell ?_ ?_ _ | refine Ext.below ?_ ?_ _ | refine Below.alloc ?_ ?_ _)) <;> (first | (simp; done) | (simp; omega) | omega | (simp only [World.size_setCell, World.size_alloc]; refine Nat.le_trans ?_ (Below.size (Ext.h _)); simp only [World.size_setCell, World.size_alloc]; omega))

set_option maxRecDepth 100000 in
set_option maxHeartbeats 1000000 in
theorem shift_15_s (xl xh yl yh : Int) (w : World) (hx1 : -2147483648 ≤ xl) (hx2 : xl ≤ 2147483647) (hx3 : -2147483648 ≤ xh) (hx4 : xh ≤ 2147483647) (hy1 : -2147483648 ≤ yl) (hy2 : yl ≤ 2147483647) (hs : (yl == yh) = true) :
  Calls Tryd.prog 70 #[.int .u8 15, .agg #[.int .i32 xl, .int .i32 xh], .agg #[.int .i32 yl, .int .i32 yh]] w fun e w' => e = .returned (.agg #[.int .i32 (xl / 2 ^ (yl % 32).toNat), .int .i32 (xh / 2 ^ (yl % 32).toNat)]) ∧ Below w.heap.size w w' := by
 have e31 := and31 yl
 go_enter Tryd.func70, Tryd.ntmps70
 go_wp2_with (first | (go_at_call 64; ((first | (with_reducible refine (Calls.extq (single_any _ _ _)).mono ?_) | (refine (Calls.ext (single_any _ _ _)).mono ?_)); rintro e _ ⟨rfl, y, rfl⟩)) | (go_at_call 49; ((first | (with_reducible refine (Calls.extq (full_any _)).mono ?_) | (refine (Calls.ext (full_any _)).mono ?_)); rintro e _ ⟨rfl, y, rfl⟩)))
 all_goals
  refine bodyPost_ret (v := .agg #[.int .i32 (xl / 2 ^ (yl % 32).toNat), .int .i32 (xh / 2 ^ (yl % 32).toNat)]) ?hr rfl ⟨rfl, ?bel⟩
  case hr =>
   simp [results, Tryd.results70, go_sem]
  case bel =>
   (repeat (first | exact Below.refl _ _ | refine Below.setCell ?_ ?_ _ | refine Ext.below ?_ ?_ _ | refine Below.alloc ?_ ?_ _)) <;> (first | (simp; done) | (simp; omega) | omega | (simp only [World.size_setCell, World.size_alloc]; refine Nat.le_trans ?_ (Below.size (Ext.h _)); simp only [World.size_setCell, World.size_alloc]; omega))

set_option maxRecDepth 100000 in
set_option maxHeartbeats 1000000 in
theorem shift_15_pn (xl xh yl yh : Int) (w : World) (hx1 : -2147483648 ≤ xl) (hx2 : xl ≤ 2147483647) (hx3 : -2147483648 ≤ xh) (hx4 : xh ≤ 2147483647) (hy1 : -2147483648 ≤ yl) (hy2 : yl ≤ 2147483647) (hs : (yl == yh) = false) (ha : 0 ≤ xl) (hb : xh < 0) :
  Calls Tryd.prog 70 #[.int .u8 15, .agg #[.int .i32 xl, .int .i32 xh], .agg #[.int .i32 yl, .int .i32 yh]] w fun e w' => e = .returned (.agg #[.int .i32 (0), .int .i32 (-1)]) ∧ Below w.heap.size w w' := by
 have e31 := and31 yl
 have d1 : decide (0 ≤ xl) = true := by simp; omega
 have d2 : decide (xh < 0) = true := by simp; omega
 go_enter Tryd.func70, Tryd.ntmps70
 go_wp2_with (first | (go_at_call 64; ((first | (with_reducible refine (Calls.extq (single_any _ _ _)).mono ?_) | (refine (Calls.ext (single_any _ _ _)).mono ?_)); rintro e _ ⟨rfl, y, rfl⟩)) | (go_at_call 49; ((first | (with_reducible refine (Calls.extq (full_any _)).mono ?_) | (refine (Calls.ext (full_any _)).mono ?_)); rintro e _ ⟨rfl, y, rfl⟩)))
 all_goals
  refine bodyPost_ret (v := .agg #[.int .i32 (0), .int .i32 (-1)]) ?hr rfl ⟨rfl, ?bel⟩
  case hr =>
   simp [results, Tryd.results70, go_sem]
  case bel =>
   (repeat (first | exact Below.refl _ _ | refine Below.setCell ?_ ?_ _ | refine Ext.below ?_ ?_ _ | refine Below.alloc ?_ ?_ _)) <;> (first | (simp; done) | (simp; omega) | omega | (simp only [World.size_setCell, World.size_alloc]; refine Nat.le_trans ?_ (Below.size (Ext.h _)); simp only [World.size_setCell, World.size_alloc]; omega))

set_option maxRecDepth 100000 in
set_option maxHeartbeats 1000000 in
theorem shift_15_pp (xl xh yl yh : Int) (w : World) (hx1 : -2147483648 ≤ xl) (hx2 : xl ≤ 2147483647) (hx3 : -2147483648 ≤ xh) (hx4 : xh ≤ 2147483647) (hy1 : -2147483648 ≤ yl) (hy2 : yl ≤ 2147483647) (hs : (yl == yh) = false) (ha : 0 ≤ xl) (hb : ¬ xh < 0) :
  Calls Tryd.prog 70 #[.int .u8 15, .agg #[.int .i32 xl, .int .i32 xh], .agg #[.int .i32 yl, .int .i32 yh]] w fun e w' => e = .returned (.agg #[.int .i32 (0), .int .i32 (xh)]) ∧ Below w.heap.size w w' := by
 have e31 := and31 yl
 have d1 : decide (0 ≤ xl) = true := by simp; omega
 have d2 : decide (xh < 0) = false := by simp; omega
 go_enter Tryd.func70, Tryd.ntmps70
 go_wp2_with (first | (go_at_call 64; ((first | (with_reducible refine (Calls.extq (single_any _ _ _)).mono ?_) | (refine (Calls.ext (single_any _ _ _)).mono ?_)); rintro e _ ⟨rfl, y, rfl⟩)) | (go_at_call 49; ((first | (with_reducible refine (Calls.extq (full_any _)).mono ?_) | (refine (Calls.ext (full_any _)).mono ?_)); rintro e _ ⟨rfl, y, rfl⟩)))
 all_goals
  refine bodyPost_ret (v := .agg #[.int .i32 (0), .int .i32 (xh)]) ?hr rfl ⟨rfl, ?bel⟩
  case hr =>
   simp [results, Tryd.results70, go_sem]
  case bel =>
   (repeat (first | exact Below.refl _ _ | refine Below.setCell ?_ ?_ _ | refine Ext.below ?_ ?_ _ | refine Below.alloc ?_ ?_ _)) <;> (first | (simp; done) | (simp; omega) | omega | (simp only [World.size_setCell, World.size_alloc]; refine Nat.le_trans ?_ (Below.size (Ext.h _)); simp only [World.size_setCell, World.size_alloc]; omega))

set_option maxRecDepth 100000 in
set_option maxHeartbeats 1000000 in
theorem shift_15_nn (xl xh yl yh : Int) (w : World) (hx1 : -2147483648 ≤ xl) (hx2 : xl ≤ 2147483647) (hx3 : -2147483648 ≤ xh) (hx4 : xh ≤ 2147483647) (hy1 : -2147483648 ≤ yl) (hy2 : yl ≤ 2147483647) (hs : (yl == yh) = false) (ha : ¬ 0 ≤ xl) (hb : xh < 0) :
  Calls Tryd.prog 70 #[.int .u8 15, .agg #[.int .i32 xl, .int .i32 xh], .agg #[.int .i32 yl, .int .i32 yh]] w fun e w' => e = .returned (.agg #[.int .i32 (xl), .int .i32 (-1)]) ∧ Below w.heap.size w w' := by
 have e31 := and31 yl
 have d1 : decide (0 ≤ xl) = false := by simp; omega
 have d2 : decide (xh < 0) = true := by simp; omega
 go_enter Tryd.func70, Tryd.ntmps70
 go_wp2_with (first | (go_at_call 64; ((first | (with_reducible refine (Calls.extq (single_any _ _ _)).mono ?_) | (refine (Calls.ext (single_any _ _ _)).mono ?_)); rintro e _ ⟨rfl, y, rfl⟩)) | (go_at_call 49; ((first | (with_reducible refine (Calls.extq (full_any _)).mono ?_) | (refine (Calls.ext (full_any _)).mono ?_)); rintro e _ ⟨rfl, y, rfl⟩)))
 all_goals
  refine bodyPost_ret (v := .agg #[.int .i32 (xl), .int .i32 (-1)]) ?hr rfl ⟨rfl, ?bel⟩
  case hr =>
   simp [results, Tryd.results70, go_sem]
  case bel =>
   (repeat (first | exact Below.refl _ _ | refine Below.setCell ?_ ?_ _ | refine Ext.below ?_ ?_ _ | refine Below.alloc ?_ ?_ _)) <;> (first | (simp; done) | (simp; omega) | omega | (simp only [World.size_setCell, World.size_alloc]; refine Nat.le_trans ?_ (Below.size (Ext.h _)); simp only [World.size_setCell, World.size_alloc]; omega))

set_option maxRecDepth 100000 in
set_option maxHeartbeats 1000000 in
theorem shift_15_np (xl xh yl yh : Int) (w : World) (hx1 : -2147483648 ≤ xl) (hx2 : xl ≤ 2147483647) (hx3 : -2147483648 ≤ xh) (hx4 : xh ≤ 2147483647) (hy1 : -2147483648 ≤ yl) (hy2 : yl ≤ 2147483647) (hs : (yl == yh) = false) (ha : ¬ 0 ≤ xl) (hb : ¬ xh < 0) :
  Calls Tryd.prog 70 #[.int .u8 15, .agg #[.int .i32 xl, .int .i32 xh], .agg #[.int .i32 yl, .int .i32 yh]] w fun e w' => e = .returned (.agg #[.int .i32 (xl), .int .i32 (xh)]) ∧ Below w.heap.size w w' := by
 have e31 := and31 yl
 have d1 : decide (0 ≤ xl) = false := by simp; omega
 have d2 : decide (xh < 0) = false := by simp; omega
 go_enter Tryd.func70, Tryd.ntmps70
 go_wp2_with (first | (go_at_call 64; ((first | (with_reducible refine (Calls.extq (single_any _ _ _)).mono ?_) | (refine (Calls.ext (single_any _ _ _)).mono ?_)); rintro e _ ⟨rfl, y, rfl⟩)) | (go_at_call 49; ((first | (with_reducible refine (Calls.extq (full_any _)).mono ?_) | (refine (Calls.ext (full_any _)).mono ?_)); rintro e _ ⟨rfl, y, rfl⟩)))
 all_goals
  refine bodyPost_ret (v := .agg #[.int .i32 (xl), .int .i32 (xh)]) ?hr rfl ⟨rfl, ?bel⟩
  case hr =>
   simp [results, Tryd.results70, go_sem]
  case bel =>
   (repeat (first | exact Below.refl _ _ | refine Below.setCell ?_ ?_ _ | refine Ext.below ?_ ?_ _ | refine Below.alloc ?_ ?_ _)) <;> (first | (simp; done) | (simp; omega) | omega | (simp only [World.size_setCell, World.size_alloc]; refine Nat.le_trans ?_ (Below.size (Ext.h _)); simp only [World.size_setCell, World.size_alloc]; omega))

theorem shift_any (op xl xh yl yh : Int) (w : World) (hx1 : -2147483648 ≤ xl) (hx2 : xl ≤ 2147483647) (hx3 : -2147483648 ≤ xh) (hx4 : xh ≤ 2147483647) (hy1 : -2147483648 ≤ yl) (hy2 : yl ≤ 2147483647) (h1 : 14 ≤ op) (h2 : op ≤ 15) :
  Calls Tryd.prog 70 #[.int .u8 op, .agg #[.int .i32 xl, .int .i32 xh], .agg #[.int .i32 yl, .int .i32 yh]] w fun e w' => e = .returned (.agg #[.int .i32 (shI op (xl, xh) (yl, yh)).1, .int .i32 (shI op (xl, xh) (yl, yh)).2]) ∧ Below w.heap.size w w' := by
 have h : op = 14 ∨ op = 15 := by omega
 by_cases e : yl = yh
 ·rcases h with rfl | rfl
  ·refine (shift_14_s xl xh yl yh w hx1 hx2 hx3 hx4 hy1 hy2 (by simpa using e)).mono fun e' w' ⟨q, hb⟩ => ⟨q.trans ?_, hb⟩
   simp [shI, e]
  ·refine (shift_15_s xl xh yl yh w hx1 hx2 hx3 hx4 hy1 hy2 (by simpa using e)).mono fun e' w' ⟨q, hb⟩ => ⟨q.trans ?_, hb⟩
   simp [shI, e]
 ·have hs : (yl == yh) = false := by simpa using e
  rcases h with rfl | rfl
  ·refine (shift_14_n xl xh yl yh w hx1 hx2 hx3 hx4 hy1 hy2 hs).mono fun e' w' ⟨q, hb⟩ => ⟨q.trans ?_, hb⟩
   simp [shI, e]
  ·by_cases ha : 0 ≤ xl <;> by_cases hb : xh < 0
   ·refine (shift_15_pn xl xh yl yh w hx1 hx2 hx3 hx4 hy1 hy2 hs ha hb).mono fun e' w' ⟨q, hb⟩ => ⟨q.trans ?_, hb⟩
    simp [shI, e, *]
   ·refine (shift_15_pp xl xh yl yh w hx1 hx2 hx3 hx4 hy1 hy2 hs ha hb).mono fun e' w' ⟨q, hb⟩ => ⟨q.trans ?_, hb⟩
    simp [shI, e, *]
   ·refine (shift_15_nn xl xh yl yh w hx1 hx2 hx3 hx4 hy1 hy2 hs ha hb).mono fun e' w' ⟨q, hb⟩ => ⟨q.trans ?_, hb⟩
    simp [shI, e, *]
   ·refine (shift_15_np xl xh yl yh w hx1 hx2 hx3 hx4 hy1 hy2 hs ha hb).mono fun e' w' ⟨q, hb⟩ => ⟨q.trans ?_, hb⟩
    simp [shI, e, *]

end Go.Proofs.YtebklpnkcicpjaaDoor


