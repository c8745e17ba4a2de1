/-
 What is proved here: laws on worlds in which old blocks are kept, and what the laws' helper 'has' returns.
-/
import Derived.Test.YtebklpnkcicpjaaDoorFbT
namespace Go.Proofs.YtebklpnkcicpjaaDoor
open Go.RowKit

set_option maxHeartbeats 400000 in
theorem full_any  (w : World) :
  Calls Tryd.prog 49 #[] w fun e w' => e = .returned (.agg #[.int .i32 (-2147483648), .int .i32 2147483647]) ∧ Below w.heap.size w w' := by
 go_enter Tryd.func49, Tryd.ntmps49
 go_wp2
 all_goals
  refine bodyPost_ret (v := .agg #[.int .i32 (-2147483648), .int .i32 2147483647]) ?hr rfl ⟨rfl, ?bel⟩
  case hr =>
   simp [results, Tryd.results49, go_sem]
  case bel =>
   (repeat (first | exact Below.refl _ _ | refine Below.setCell ?_ ?_ _ | refine Ext.below ?_ ?_ _ | refine Below.alloc ?_ ?_ _)) <;> (first | (simp; done) | (simp; omega) | omega)

set_option maxHeartbeats 400000 in
theorem empty_any  (w : World) :
  Calls Tryd.prog 50 #[] w fun e w' => e = .returned (.agg #[.int .i32 1, .int .i32 0]) ∧ Below w.heap.size w w' := by
 go_enter Tryd.func50, Tryd.ntmps50
 go_wp2
 all_goals
  refine bodyPost_ret (v := .agg #[.int .i32 1, .int .i32 0]) ?hr rfl ⟨rfl, ?bel⟩
  case hr =>
   simp [results, Tryd.results50, go_sem]
  case bel =>
   (repeat (first | exact Below.refl _ _ | refine Below.setCell ?_ ?_ _ | refine Ext.below ?_ ?_ _ | refine Below.alloc ?_ ?_ _)) <;> (first | (simp; done) | (simp; omega) | omega)

set_option maxHeartbeats 400000 in
theorem of_any (n : Int) (w : World) :
  Calls Tryd.prog 37 #[.int .i32 n] w fun e w' => e = .returned (.agg #[.int .i32 n, .int .i32 n]) ∧ Below w.heap.size w w' := by
 go_enter Tryd.func37, Tryd.ntmps37
 go_wp2
 all_goals
  refine bodyPost_ret (v := .agg #[.int .i32 n, .int .i32 n]) ?hr rfl ⟨rfl, ?bel⟩
  case hr =>
   simp [results, Tryd.results37, go_sem]
  case bel =>
   (repeat (first | exact Below.refl _ _ | refine Below.setCell ?_ ?_ _ | refine Ext.below ?_ ?_ _ | refine Below.alloc ?_ ?_ _)) <;> (first | (simp; done) | (simp; omega) | omega)

set_option maxHeartbeats 400000 in
theorem isEmpty_any (xl xh : Int) (w : World) :
  Calls Tryd.prog 39 #[.agg #[.int .i32 xl, .int .i32 xh]] w fun e w' => e = .returned (.bool (decide (xh < xl))) ∧ Below w.heap.size w w' := by
 go_enter Tryd.func39, Tryd.ntmps39
 go_wp2
 all_goals
  go_ret
  refine ⟨rfl, ?_⟩
  (repeat (first | exact Below.refl _ _ | refine Below.setCell ?_ ?_ _ | refine Ext.below ?_ ?_ _ | refine Below.alloc ?_ ?_ _)) <;> (first | (simp; done) | (simp; omega) | omega)

set_option maxHeartbeats 400000 in
theorem single_any (xl xh : Int) (w : World) :
  Calls Tryd.prog 64 #[.agg #[.int .i32 xl, .int .i32 xh]] w fun e w' => e = .returned (.bool (xl == xh)) ∧ Below w.heap.size w w' := by
 go_enter Tryd.func64, Tryd.ntmps64
 go_wp2
 all_goals
  go_ret
  refine ⟨rfl, ?_⟩
  (repeat (first | exact Below.refl _ _ | refine Below.setCell ?_ ?_ _ | refine Ext.below ?_ ?_ _ | refine Below.alloc ?_ ?_ _)) <;> (first | (simp; done) | (simp; omega) | omega)

set_option maxHeartbeats 400000 in
theorem contains_any (xl xh n : Int) (w : World) :
  Calls Tryd.prog 21 #[.agg #[.int .i32 xl, .int .i32 xh], .int .i32 n] w fun e w' => e = .returned (.bool (decide (xl ≤ n) && decide (n ≤ xh))) ∧ Below w.heap.size w w' := by
 by_cases h1 : xl ≤ n
 ·have d1 : decide (xl ≤ n) = true := by simpa using h1
  go_enter Tryd.func21, Tryd.ntmps21
  go_wp2
  all_goals
   go_ret
   refine ⟨by simp [d1], ?_⟩
   (repeat (first | exact Below.refl _ _ | refine Below.setCell ?_ ?_ _ | refine Ext.below ?_ ?_ _ | refine Below.alloc ?_ ?_ _)) <;> (first | (simp; done) | (simp; omega) | omega)

 ·have d1 : decide (xl ≤ n) = false := by simpa using h1
  go_enter Tryd.func21, Tryd.ntmps21
  go_wp2
  all_goals
   go_ret
   refine ⟨by simp, ?_⟩
   (repeat (first | exact Below.refl _ _ | refine Below.setCell ?_ ?_ _ | refine Ext.below ?_ ?_ _ | refine Below.alloc ?_ ?_ _)) <;> (first | (simp; done) | (simp; omega) | omega)


def trI (a n : Bool) : Int × Int := if a then (1, 1) else if n then (0, 0) else (0, 1)
set_option maxHeartbeats 400000 in
theorem itruth_true_true  (w : World) :
  Calls Tryd.prog 87 #[.bool true, .bool true] w fun e w' => e = .returned (.agg #[.int .i32 (trI true true).1, .int .i32 (trI true true).2]) ∧ Below w.heap.size w w' := by
 go_enter Tryd.func87, Tryd.ntmps87
 go_wp2_with (first | (go_at_call 37; ((first | (with_reducible refine (Calls.extq (of_any _ _)).mono ?_) | (refine (Calls.ext (of_any _ _)).mono ?_)); rintro e _ ⟨rfl, y, rfl⟩)))
 all_goals
  refine bodyPost_ret (v := .agg #[.int .i32 (trI true true).1, .int .i32 (trI true true).2]) ?hr rfl ⟨rfl, ?bel⟩
  case hr =>
   simp [trI, results, Tryd.results87, go_sem]
  case bel =>
   (repeat (first | exact Below.refl _ _ | refine Below.setCell ?_ ?_ _ | refine Ext.below ?_ ?_ _ | refine Below.alloc ?_ ?_ _)) <;> (first | (simp; done) | (simp; omega) | omega)

set_option maxHeartbeats 400000 in
theorem itruth_true_false  (w : World) :
  Calls Tryd.prog 87 #[.bool true, .bool false] w fun e w' => e = .returned (.agg #[.int .i32 (trI true false).1, .int .i32 (trI true false).2]) ∧ Below w.heap.size w w' := by
 go_enter Tryd.func87, Tryd.ntmps87
 go_wp2_with (first | (go_at_call 37; ((first | (with_reducible refine (Calls.extq (of_any _ _)).mono ?_) | (refine (Calls.ext (of_any _ _)).mono ?_)); rintro e _ ⟨rfl, y, rfl⟩)))
 all_goals
  refine bodyPost_ret (v := .agg #[.int .i32 (trI true false).1, .int .i32 (trI true false).2]) ?hr rfl ⟨rfl, ?bel⟩
  case hr =>
   simp [trI, results, Tryd.results87, go_sem]
  case bel =>
   (repeat (first | exact Below.refl _ _ | refine Below.setCell ?_ ?_ _ | refine Ext.below ?_ ?_ _ | refine Below.alloc ?_ ?_ _)) <;> (first | (simp; done) | (simp; omega) | omega)

set_option maxHeartbeats 400000 in
theorem itruth_false_true  (w : World) :
  Calls Tryd.prog 87 #[.bool false, .bool true] w fun e w' => e = .returned (.agg #[.int .i32 (trI false true).1, .int .i32 (trI false true).2]) ∧ Below w.heap.size w w' := by
 go_enter Tryd.func87, Tryd.ntmps87
 go_wp2_with (first | (go_at_call 37; ((first | (with_reducible refine (Calls.extq (of_any _ _)).mono ?_) | (refine (Calls.ext (of_any _ _)).mono ?_)); rintro e _ ⟨rfl, y, rfl⟩)))
 all_goals
  refine bodyPost_ret (v := .agg #[.int .i32 (trI false true).1, .int .i32 (trI false true).2]) ?hr rfl ⟨rfl, ?bel⟩
  case hr =>
   simp [trI, results, Tryd.results87, go_sem]
  case bel =>
   (repeat (first | exact Below.refl _ _ | refine Below.setCell ?_ ?_ _ | refine Ext.below ?_ ?_ _ | refine Below.alloc ?_ ?_ _)) <;> (first | (simp; done) | (simp; omega) | omega)

set_option maxHeartbeats 400000 in
theorem itruth_false_false  (w : World) :
  Calls Tryd.prog 87 #[.bool false, .bool false] w fun e w' => e = .returned (.agg #[.int .i32 (trI false false).1, .int .i32 (trI false false).2]) ∧ Below w.heap.size w w' := by
 go_enter Tryd.func87, Tryd.ntmps87
 go_wp2_with (first | (go_at_call 37; ((first | (with_reducible refine (Calls.extq (of_any _ _)).mono ?_) | (refine (Calls.ext (of_any _ _)).mono ?_)); rintro e _ ⟨rfl, y, rfl⟩)))
 all_goals
  refine bodyPost_ret (v := .agg #[.int .i32 (trI false false).1, .int .i32 (trI false false).2]) ?hr rfl ⟨rfl, ?bel⟩
  case hr =>
   simp [trI, results, Tryd.results87, go_sem]
  case bel =>
   (repeat (first | exact Below.refl _ _ | refine Below.setCell ?_ ?_ _ | refine Ext.below ?_ ?_ _ | refine Below.alloc ?_ ?_ _)) <;> (first | (simp; done) | (simp; omega) | omega)

theorem itruth_any (a n : Bool) (w : World) : Calls Tryd.prog 87 #[.bool a, .bool n] w fun e w' => e = .returned (.agg #[.int .i32 (trI a n).1, .int .i32 (trI a n).2]) ∧ Below w.heap.size w w' := by
 cases a <;> cases n
 ·exact itruth_false_false w
 ·exact itruth_false_true w
 ·exact itruth_true_false w
 ·exact itruth_true_true w


end Go.Proofs.YtebklpnkcicpjaaDoor

namespace Go.Proofs.YtebklpnkcicpjaaDoor
open Go.RowKit

def emp (x : Int × Int) : Bool := decide (x.2 < x.1)
def joinI (x y : Int × Int) : Int × Int := if emp x then (if emp y then (1, 0) else y) else if emp y then x else (min x.1 y.1, max x.2 y.2)
def meetI (x y : Int × Int) : Int × Int := if emp x || emp y || decide (min x.2 y.2 < max x.1 y.1) then (1, 0) else (max x.1 y.1, min x.2 y.2)
def withinI (x y : Int × Int) : Bool := emp x || (decide (y.1 ≤ x.1) && decide (x.2 ≤ y.2))
def widenI (x y : Int × Int) : Int × Int := if emp x then (if emp y then (1, 0) else y) else if emp y then x else (if y.1 < x.1 then -2147483648 else x.1, if x.2 < y.2 then 2147483647 else x.2)

set_option maxHeartbeats 1000000 in
theorem join_any (xl xh yl yh : Int) (w : World) :
  Calls Tryd.prog 24 #[.agg #[.int .i32 xl, .int .i32 xh], .agg #[.int .i32 yl, .int .i32 yh]] w fun e w' => e = .returned (.agg #[.int .i32 (joinI (xl, xh) (yl, yh)).1, .int .i32 (joinI (xl, xh) (yl, yh)).2]) ∧ Below w.heap.size w w' := by
 by_cases hx : xh < xl
 ·have d1 : decide (xh < xl) = true := by simpa using hx
  by_cases hy : yh < yl
  ·have d2 : decide (yh < yl) = true := by simpa using hy
   have hf : joinI (xl, xh) (yl, yh) = (1, 0) := by simp [joinI, emp, hx, hy]
   have HF := Lib.hid hf
   clear hf
   go_enter Tryd.func24, Tryd.ntmps24
   go_wp2_with (first | (go_at_call 39; ((first | (with_reducible refine (Calls.extq (isEmpty_any _ _ _)).mono ?_) | (refine (Calls.ext (isEmpty_any _ _ _)).mono ?_)); rintro e _ ⟨rfl, y, rfl⟩)) | (go_at_call 50; ((first | (with_reducible refine (Calls.extq (empty_any _)).mono ?_) | (refine (Calls.ext (empty_any _)).mono ?_)); rintro e _ ⟨rfl, y, rfl⟩)))
   all_goals
    refine bodyPost_ret (v := .agg #[.int .i32 (joinI (xl, xh) (yl, yh)).1, .int .i32 (joinI (xl, xh) (yl, yh)).2]) ?hr rfl ⟨rfl, ?bel⟩
    case hr =>
     simp [results, Tryd.results24, go_sem]
     rw [HF.out]
     constructor <;> (try dsimp only) <;> omega
    case bel =>
     (repeat (first | exact Below.refl _ _ | refine Below.setCell ?_ ?_ _ | refine Ext.below ?_ ?_ _ | refine Below.alloc ?_ ?_ _)) <;> (first | (simp; done) | (simp; omega) | omega)
  ·have d2 : decide (yh < yl) = false := by simpa using hy
   have hf : joinI (xl, xh) (yl, yh) = (yl, yh) := by simp [joinI, emp, hx, hy]
   have HF := Lib.hid hf
   clear hf
   go_enter Tryd.func24, Tryd.ntmps24
   go_wp2_with (first | (go_at_call 39; ((first | (with_reducible refine (Calls.extq (isEmpty_any _ _ _)).mono ?_) | (refine (Calls.ext (isEmpty_any _ _ _)).mono ?_)); rintro e _ ⟨rfl, y, rfl⟩)) | (go_at_call 50; ((first | (with_reducible refine (Calls.extq (empty_any _)).mono ?_) | (refine (Calls.ext (empty_any _)).mono ?_)); rintro e _ ⟨rfl, y, rfl⟩)))
   all_goals
    refine bodyPost_ret (v := .agg #[.int .i32 (joinI (xl, xh) (yl, yh)).1, .int .i32 (joinI (xl, xh) (yl, yh)).2]) ?hr rfl ⟨rfl, ?bel⟩
    case hr =>
     simp [results, Tryd.results24, go_sem]
     rw [HF.out]
     constructor <;> (try dsimp only) <;> omega
    case bel =>
     (repeat (first | exact Below.refl _ _ | refine Below.setCell ?_ ?_ _ | refine Ext.below ?_ ?_ _ | refine Below.alloc ?_ ?_ _)) <;> (first | (simp; done) | (simp; omega) | omega)
 ·have d1 : decide (xh < xl) = false := by simpa using hx
  by_cases hy : yh < yl
  ·have d2 : decide (yh < yl) = true := by simpa using hy
   have hf : joinI (xl, xh) (yl, yh) = (xl, xh) := by simp [joinI, emp, hx, hy]
   have HF := Lib.hid hf
   clear hf
   go_enter Tryd.func24, Tryd.ntmps24
   go_wp2_with (first | (go_at_call 39; ((first | (with_reducible refine (Calls.extq (isEmpty_any _ _ _)).mono ?_) | (refine (Calls.ext (isEmpty_any _ _ _)).mono ?_)); rintro e _ ⟨rfl, y, rfl⟩)) | (go_at_call 50; ((first | (with_reducible refine (Calls.extq (empty_any _)).mono ?_) | (refine (Calls.ext (empty_any _)).mono ?_)); rintro e _ ⟨rfl, y, rfl⟩)))
   all_goals
    refine bodyPost_ret (v := .agg #[.int .i32 (joinI (xl, xh) (yl, yh)).1, .int .i32 (joinI (xl, xh) (yl, yh)).2]) ?hr rfl ⟨rfl, ?bel⟩
    case hr =>
     simp [results, Tryd.results24, go_sem]
     rw [HF.out]
     constructor <;> (try dsimp only) <;> omega
    case bel =>
     (repeat (first | exact Below.refl _ _ | refine Below.setCell ?_ ?_ _ | refine Ext.below ?_ ?_ _ | refine Below.alloc ?_ ?_ _)) <;> (first | (simp; done) | (simp; omega) | omega)
  ·have d2 : decide (yh < yl) = false := by simpa using hy
   have hf : joinI (xl, xh) (yl, yh) = (min xl yl, max xh yh) := by simp [joinI, emp, hx, hy]
   have HF := Lib.hid hf
   clear hf
   go_enter Tryd.func24, Tryd.ntmps24
   go_wp2_with (first | (go_at_call 39; ((first | (with_reducible refine (Calls.extq (isEmpty_any _ _ _)).mono ?_) | (refine (Calls.ext (isEmpty_any _ _ _)).mono ?_)); rintro e _ ⟨rfl, y, rfl⟩)) | (go_at_call 50; ((first | (with_reducible refine (Calls.extq (empty_any _)).mono ?_) | (refine (Calls.ext (empty_any _)).mono ?_)); rintro e _ ⟨rfl, y, rfl⟩)))
   all_goals
    refine bodyPost_ret (v := .agg #[.int .i32 (joinI (xl, xh) (yl, yh)).1, .int .i32 (joinI (xl, xh) (yl, yh)).2]) ?hr rfl ⟨rfl, ?bel⟩
    case hr =>
     simp [results, Tryd.results24, go_sem]
     rw [HF.out]
     constructor <;> (try dsimp only) <;> omega
    case bel =>
     (repeat (first | exact Below.refl _ _ | refine Below.setCell ?_ ?_ _ | refine Ext.below ?_ ?_ _ | refine Below.alloc ?_ ?_ _)) <;> (first | (simp; done) | (simp; omega) | omega)

set_option maxHeartbeats 400000 in
theorem widen_xy (xl xh yl yh : Int) (hx : xh < xl) (hy : yh < yl) (w : World) :
  Calls Tryd.prog 63 #[.agg #[.int .i32 xl, .int .i32 xh], .agg #[.int .i32 yl, .int .i32 yh]] w fun e w' => e = .returned (.agg #[.int .i32 (widenI (xl, xh) (yl, yh)).1, .int .i32 (widenI (xl, xh) (yl, yh)).2]) ∧ Below w.heap.size w w' := by
 have d1 : decide (xh < xl) = true := by simpa using hx
 have d2 : decide (yh < yl) = true := by simpa using hy
 have hf : widenI (xl, xh) (yl, yh) = (1, 0) := by simp [widenI, emp, hx, hy]
 have HF := Lib.hid hf
 clear hf
 go_enter Tryd.func63, Tryd.ntmps63
 go_wp2_with (first | (go_at_call 39; ((first | (with_reducible refine (Calls.extq (isEmpty_any _ _ _)).mono ?_) | (refine (Calls.ext (isEmpty_any _ _ _)).mono ?_)); rintro e _ ⟨rfl, y, rfl⟩)) | (go_at_call 50; ((first | (with_reducible refine (Calls.extq (empty_any _)).mono ?_) | (refine (Calls.ext (empty_any _)).mono ?_)); rintro e _ ⟨rfl, y, rfl⟩)))
 all_goals
  refine bodyPost_ret (v := .agg #[.int .i32 (widenI (xl, xh) (yl, yh)).1, .int .i32 (widenI (xl, xh) (yl, yh)).2]) ?hr rfl ⟨rfl, ?bel⟩
  case hr =>
   simp [results, Tryd.results63, go_sem]
   rw [HF.out]
   constructor <;> (try dsimp only) <;> omega
  case bel =>
   (repeat (first | exact Below.refl _ _ | refine Below.setCell ?_ ?_ _ | refine Ext.below ?_ ?_ _ | refine Below.alloc ?_ ?_ _)) <;> (first | (simp; done) | (simp; omega) | omega)

set_option maxHeartbeats 400000 in
theorem widen_x (xl xh yl yh : Int) (hx : xh < xl) (hy : ¬ yh < yl) (w : World) :
  Calls Tryd.prog 63 #[.agg #[.int .i32 xl, .int .i32 xh], .agg #[.int .i32 yl, .int .i32 yh]] w fun e w' => e = .returned (.agg #[.int .i32 (widenI (xl, xh) (yl, yh)).1, .int .i32 (widenI (xl, xh) (yl, yh)).2]) ∧ Below w.heap.size w w' := by
 have d1 : decide (xh < xl) = true := by simpa using hx
 have d2 : decide (yh < yl) = false := by simpa using hy
 have hf : widenI (xl, xh) (yl, yh) = (yl, yh) := by simp [widenI, emp, hx, hy]
 have HF := Lib.hid hf
 clear hf
 go_enter Tryd.func63, Tryd.ntmps63
 go_wp2_with (first | (go_at_call 39; ((first | (with_reducible refine (Calls.extq (isEmpty_any _ _ _)).mono ?_) | (refine (Calls.ext (isEmpty_any _ _ _)).mono ?_)); rintro e _ ⟨rfl, y, rfl⟩)) | (go_at_call 50; ((first | (with_reducible refine (Calls.extq (empty_any _)).mono ?_) | (refine (Calls.ext (empty_any _)).mono ?_)); rintro e _ ⟨rfl, y, rfl⟩)))
 all_goals
  refine bodyPost_ret (v := .agg #[.int .i32 (widenI (xl, xh) (yl, yh)).1, .int .i32 (widenI (xl, xh) (yl, yh)).2]) ?hr rfl ⟨rfl, ?bel⟩
  case hr =>
   simp [results, Tryd.results63, go_sem]
   rw [HF.out]
   constructor <;> (try dsimp only) <;> omega
  case bel =>
   (repeat (first | exact Below.refl _ _ | refine Below.setCell ?_ ?_ _ | refine Ext.below ?_ ?_ _ | refine Below.alloc ?_ ?_ _)) <;> (first | (simp; done) | (simp; omega) | omega)

set_option maxHeartbeats 400000 in
theorem widen_y (xl xh yl yh : Int) (hx : ¬ xh < xl) (hy : yh < yl) (w : World) :
  Calls Tryd.prog 63 #[.agg #[.int .i32 xl, .int .i32 xh], .agg #[.int .i32 yl, .int .i32 yh]] w fun e w' => e = .returned (.agg #[.int .i32 (widenI (xl, xh) (yl, yh)).1, .int .i32 (widenI (xl, xh) (yl, yh)).2]) ∧ Below w.heap.size w w' := by
 have d1 : decide (xh < xl) = false := by simpa using hx
 have d2 : decide (yh < yl) = true := by simpa using hy
 have hf : widenI (xl, xh) (yl, yh) = (xl, xh) := by simp [widenI, emp, hx, hy]
 have HF := Lib.hid hf
 clear hf
 go_enter Tryd.func63, Tryd.ntmps63
 go_wp2_with (first | (go_at_call 39; ((first | (with_reducible refine (Calls.extq (isEmpty_any _ _ _)).mono ?_) | (refine (Calls.ext (isEmpty_any _ _ _)).mono ?_)); rintro e _ ⟨rfl, y, rfl⟩)) | (go_at_call 50; ((first | (with_reducible refine (Calls.extq (empty_any _)).mono ?_) | (refine (Calls.ext (empty_any _)).mono ?_)); rintro e _ ⟨rfl, y, rfl⟩)))
 all_goals
  refine bodyPost_ret (v := .agg #[.int .i32 (widenI (xl, xh) (yl, yh)).1, .int .i32 (widenI (xl, xh) (yl, yh)).2]) ?hr rfl ⟨rfl, ?bel⟩
  case hr =>
   simp [results, Tryd.results63, go_sem]
   rw [HF.out]
   constructor <;> (try dsimp only) <;> omega
  case bel =>
   (repeat (first | exact Below.refl _ _ | refine Below.setCell ?_ ?_ _ | refine Ext.below ?_ ?_ _ | refine Below.alloc ?_ ?_ _)) <;> (first | (simp; done) | (simp; omega) | omega)

set_option maxHeartbeats 400000 in
theorem widen_lh (xl xh yl yh : Int) (hx : ¬ xh < xl) (hy : ¬ yh < yl) (hl : yl < xl) (hh : xh < yh) (w : World) :
  Calls Tryd.prog 63 #[.agg #[.int .i32 xl, .int .i32 xh], .agg #[.int .i32 yl, .int .i32 yh]] w fun e w' => e = .returned (.agg #[.int .i32 (widenI (xl, xh) (yl, yh)).1, .int .i32 (widenI (xl, xh) (yl, yh)).2]) ∧ Below w.heap.size w w' := by
 have d1 : decide (xh < xl) = false := by simpa using hx
 have d2 : decide (yh < yl) = false := by simpa using hy
 have hf : widenI (xl, xh) (yl, yh) = (-2147483648, 2147483647) := by simp [widenI, emp, hx, hy, hl, hh]
 have HF := Lib.hid hf
 clear hf
 go_enter Tryd.func63, Tryd.ntmps63
 go_wp2_with fail
 refine (Calls.ext (isEmpty_any _ _ _)).mono ?_
 rintro e _ ⟨rfl, y1, rfl⟩
 go_wp2_with fail
 refine (Calls.extq (isEmpty_any _ _ _)).mono ?_
 rintro e _ ⟨rfl, y2, rfl⟩
 go_wp2_with fail
 refine (Calls.extq (isEmpty_any _ _ _)).mono ?_
 rintro e _ ⟨rfl, y3, rfl⟩
 have hz1 : w.heap.size < y3.w.heap.size := Nat.lt_of_lt_of_le (by simp <;> omega) y3.h.size
 have hz2 : w.heap.size + 1 < y3.w.heap.size := Nat.lt_of_lt_of_le (by simp <;> omega) y3.h.size
 have hz3 : w.heap.size + 1 + 1 < y3.w.heap.size := Nat.lt_of_lt_of_le (by simp <;> omega) y3.h.size
 go_wp2
 all_goals
  refine bodyPost_ret (v := .agg #[.int .i32 (widenI (xl, xh) (yl, yh)).1, .int .i32 (widenI (xl, xh) (yl, yh)).2]) ?hr rfl ⟨rfl, ?bel⟩
  case hr =>
   simp [results, Tryd.results63, go_sem]
   rw [HF.out]
   constructor <;> (try dsimp only) <;> omega
  case bel =>
   (repeat (first | exact Below.refl _ _ | refine Below.setCell ?_ ?_ _ | refine Ext.below ?_ ?_ _ | refine Below.alloc ?_ ?_ _)) <;> (first | (simp; done) | (simp; omega) | omega)

set_option maxHeartbeats 400000 in
theorem widen_lm (xl xh yl yh : Int) (hx : ¬ xh < xl) (hy : ¬ yh < yl) (hl : yl < xl) (hh : ¬ xh < yh) (w : World) :
  Calls Tryd.prog 63 #[.agg #[.int .i32 xl, .int .i32 xh], .agg #[.int .i32 yl, .int .i32 yh]] w fun e w' => e = .returned (.agg #[.int .i32 (widenI (xl, xh) (yl, yh)).1, .int .i32 (widenI (xl, xh) (yl, yh)).2]) ∧ Below w.heap.size w w' := by
 have d1 : decide (xh < xl) = false := by simpa using hx
 have d2 : decide (yh < yl) = false := by simpa using hy
 have hf : widenI (xl, xh) (yl, yh) = (-2147483648, xh) := by simp [widenI, emp, hx, hy, hl, hh]
 have HF := Lib.hid hf
 clear hf
 go_enter Tryd.func63, Tryd.ntmps63
 go_wp2_with fail
 refine (Calls.ext (isEmpty_any _ _ _)).mono ?_
 rintro e _ ⟨rfl, y1, rfl⟩
 go_wp2_with fail
 refine (Calls.extq (isEmpty_any _ _ _)).mono ?_
 rintro e _ ⟨rfl, y2, rfl⟩
 go_wp2_with fail
 refine (Calls.extq (isEmpty_any _ _ _)).mono ?_
 rintro e _ ⟨rfl, y3, rfl⟩
 have hz1 : w.heap.size < y3.w.heap.size := Nat.lt_of_lt_of_le (by simp <;> omega) y3.h.size
 have hz2 : w.heap.size + 1 < y3.w.heap.size := Nat.lt_of_lt_of_le (by simp <;> omega) y3.h.size
 have hz3 : w.heap.size + 1 + 1 < y3.w.heap.size := Nat.lt_of_lt_of_le (by simp <;> omega) y3.h.size
 go_wp2
 all_goals
  refine bodyPost_ret (v := .agg #[.int .i32 (widenI (xl, xh) (yl, yh)).1, .int .i32 (widenI (xl, xh) (yl, yh)).2]) ?hr rfl ⟨rfl, ?bel⟩
  case hr =>
   simp [results, Tryd.results63, go_sem]
   rw [HF.out]
   constructor <;> (try dsimp only) <;> omega
  case bel =>
   (repeat (first | exact Below.refl _ _ | refine Below.setCell ?_ ?_ _ | refine Ext.below ?_ ?_ _ | refine Below.alloc ?_ ?_ _)) <;> (first | (simp; done) | (simp; omega) | omega)

set_option maxHeartbeats 400000 in
theorem widen_mh (xl xh yl yh : Int) (hx : ¬ xh < xl) (hy : ¬ yh < yl) (hl : ¬ yl < xl) (hh : xh < yh) (w : World) :
  Calls Tryd.prog 63 #[.agg #[.int .i32 xl, .int .i32 xh], .agg #[.int .i32 yl, .int .i32 yh]] w fun e w' => e = .returned (.agg #[.int .i32 (widenI (xl, xh) (yl, yh)).1, .int .i32 (widenI (xl, xh) (yl, yh)).2]) ∧ Below w.heap.size w w' := by
 have d1 : decide (xh < xl) = false := by simpa using hx
 have d2 : decide (yh < yl) = false := by simpa using hy
 have hf : widenI (xl, xh) (yl, yh) = (xl, 2147483647) := by simp [widenI, emp, hx, hy, hl, hh]
 have HF := Lib.hid hf
 clear hf
 go_enter Tryd.func63, Tryd.ntmps63
 go_wp2_with fail
 refine (Calls.ext (isEmpty_any _ _ _)).mono ?_
 rintro e _ ⟨rfl, y1, rfl⟩
 go_wp2_with fail
 refine (Calls.extq (isEmpty_any _ _ _)).mono ?_
 rintro e _ ⟨rfl, y2, rfl⟩
 go_wp2_with fail
 refine (Calls.extq (isEmpty_any _ _ _)).mono ?_
 rintro e _ ⟨rfl, y3, rfl⟩
 have hz1 : w.heap.size < y3.w.heap.size := Nat.lt_of_lt_of_le (by simp <;> omega) y3.h.size
 have hz2 : w.heap.size + 1 < y3.w.heap.size := Nat.lt_of_lt_of_le (by simp <;> omega) y3.h.size
 have hz3 : w.heap.size + 1 + 1 < y3.w.heap.size := Nat.lt_of_lt_of_le (by simp <;> omega) y3.h.size
 go_wp2
 all_goals
  refine bodyPost_ret (v := .agg #[.int .i32 (widenI (xl, xh) (yl, yh)).1, .int .i32 (widenI (xl, xh) (yl, yh)).2]) ?hr rfl ⟨rfl, ?bel⟩
  case hr =>
   simp [results, Tryd.results63, go_sem]
   rw [HF.out]
   constructor <;> (try dsimp only) <;> omega
  case bel =>
   (repeat (first | exact Below.refl _ _ | refine Below.setCell ?_ ?_ _ | refine Ext.below ?_ ?_ _ | refine Below.alloc ?_ ?_ _)) <;> (first | (simp; done) | (simp; omega) | omega)

set_option maxHeartbeats 400000 in
theorem widen_mm (xl xh yl yh : Int) (hx : ¬ xh < xl) (hy : ¬ yh < yl) (hl : ¬ yl < xl) (hh : ¬ xh < yh) (w : World) :
  Calls Tryd.prog 63 #[.agg #[.int .i32 xl, .int .i32 xh], .agg #[.int .i32 yl, .int .i32 yh]] w fun e w' => e = .returned (.agg #[.int .i32 (widenI (xl, xh) (yl, yh)).1, .int .i32 (widenI (xl, xh) (yl, yh)).2]) ∧ Below w.heap.size w w' := by
 have d1 : decide (xh < xl) = false := by simpa using hx
 have d2 : decide (yh < yl) = false := by simpa using hy
 have hf : widenI (xl, xh) (yl, yh) = (xl, xh) := by simp [widenI, emp, hx, hy, hl, hh]
 have HF := Lib.hid hf
 clear hf
 go_enter Tryd.func63, Tryd.ntmps63
 go_wp2_with fail
 refine (Calls.ext (isEmpty_any _ _ _)).mono ?_
 rintro e _ ⟨rfl, y1, rfl⟩
 go_wp2_with fail
 refine (Calls.extq (isEmpty_any _ _ _)).mono ?_
 rintro e _ ⟨rfl, y2, rfl⟩
 go_wp2_with fail
 refine (Calls.extq (isEmpty_any _ _ _)).mono ?_
 rintro e _ ⟨rfl, y3, rfl⟩
 have hz1 : w.heap.size < y3.w.heap.size := Nat.lt_of_lt_of_le (by simp <;> omega) y3.h.size
 have hz2 : w.heap.size + 1 < y3.w.heap.size := Nat.lt_of_lt_of_le (by simp <;> omega) y3.h.size
 have hz3 : w.heap.size + 1 + 1 < y3.w.heap.size := Nat.lt_of_lt_of_le (by simp <;> omega) y3.h.size
 go_wp2
 all_goals
  refine bodyPost_ret (v := .agg #[.int .i32 (widenI (xl, xh) (yl, yh)).1, .int .i32 (widenI (xl, xh) (yl, yh)).2]) ?hr rfl ⟨rfl, ?bel⟩
  case hr =>
   simp [results, Tryd.results63, go_sem]
   rw [HF.out]
   constructor <;> (try dsimp only) <;> omega
  case bel =>
   (repeat (first | exact Below.refl _ _ | refine Below.setCell ?_ ?_ _ | refine Ext.below ?_ ?_ _ | refine Below.alloc ?_ ?_ _)) <;> (first | (simp; done) | (simp; omega) | omega)

theorem widen_any (xl xh yl yh : Int) (w : World) : Calls Tryd.prog 63 #[.agg #[.int .i32 xl, .int .i32 xh], .agg #[.int .i32 yl, .int .i32 yh]] w fun e w' => e = .returned (.agg #[.int .i32 (widenI (xl, xh) (yl, yh)).1, .int .i32 (widenI (xl, xh) (yl, yh)).2]) ∧ Below w.heap.size w w' := by
 by_cases hx : xh < xl
 ·by_cases hy : yh < yl
  ·exact widen_xy xl xh yl yh hx hy w
  ·exact widen_x xl xh yl yh hx hy w
 ·by_cases hy : yh < yl
  ·exact widen_y xl xh yl yh hx hy w
  ·by_cases hl : yl < xl
   ·by_cases hh : xh < yh
    ·exact widen_lh xl xh yl yh hx hy hl hh w
    ·exact widen_lm xl xh yl yh hx hy hl hh w
   ·by_cases hh : xh < yh
    ·exact widen_mh xl xh yl yh hx hy hl hh w
    ·exact widen_mm xl xh yl yh hx hy hl hh w

set_option maxHeartbeats 400000 in
theorem meet_x_lh (xl xh yl yh : Int) (hx : xh < xl) (hl : xl < yl) (hh : yh < xh) (w : World) :
  Calls Tryd.prog 36 #[.agg #[.int .i32 xl, .int .i32 xh], .agg #[.int .i32 yl, .int .i32 yh]] w fun e w' => e = .returned (.agg #[.int .i32 (meetI (xl, xh) (yl, yh)).1, .int .i32 (meetI (xl, xh) (yl, yh)).2]) ∧ Below w.heap.size w w' := by
 have d1 : decide (xh < xl) = true := by simpa using hx
 have hf : meetI (xl, xh) (yl, yh) = (1, 0) := by simp [meetI, emp, hx]
 have HF := Lib.hid hf
 clear hf
 go_enter Tryd.func36, Tryd.ntmps36
 go_wp2_with (first | (go_at_call 39; ((first | (with_reducible refine (Calls.extq (isEmpty_any _ _ _)).mono ?_) | (refine (Calls.ext (isEmpty_any _ _ _)).mono ?_)); rintro e _ ⟨rfl, y, rfl⟩)) | (go_at_call 50; ((first | (with_reducible refine (Calls.extq (empty_any _)).mono ?_) | (refine (Calls.ext (empty_any _)).mono ?_)); rintro e _ ⟨rfl, y, rfl⟩)))
 all_goals
  refine bodyPost_ret (v := .agg #[.int .i32 (meetI (xl, xh) (yl, yh)).1, .int .i32 (meetI (xl, xh) (yl, yh)).2]) ?hr rfl ⟨rfl, ?bel⟩
  case hr =>
   simp [results, Tryd.results36, go_sem]
   rw [HF.out]
   constructor <;> (try dsimp only) <;> omega
  case bel =>
   (repeat (first | exact Below.refl _ _ | refine Below.setCell ?_ ?_ _ | refine Ext.below ?_ ?_ _ | refine Below.alloc ?_ ?_ _)) <;> (first | (simp; done) | (simp; omega) | omega)

set_option maxHeartbeats 400000 in
theorem meet_y_lh (xl xh yl yh : Int) (hx : ¬ xh < xl) (hy : yh < yl) (hl : xl < yl) (hh : yh < xh) (w : World) :
  Calls Tryd.prog 36 #[.agg #[.int .i32 xl, .int .i32 xh], .agg #[.int .i32 yl, .int .i32 yh]] w fun e w' => e = .returned (.agg #[.int .i32 (meetI (xl, xh) (yl, yh)).1, .int .i32 (meetI (xl, xh) (yl, yh)).2]) ∧ Below w.heap.size w w' := by
 have d1 : decide (xh < xl) = false := by simpa using hx
 have d2 : decide (yh < yl) = true := by simpa using hy
 have hf : meetI (xl, xh) (yl, yh) = (1, 0) := by simp [meetI, emp, hy]
 have HF := Lib.hid hf
 clear hf
 go_enter Tryd.func36, Tryd.ntmps36
 go_wp2_with (first | (go_at_call 39; ((first | (with_reducible refine (Calls.extq (isEmpty_any _ _ _)).mono ?_) | (refine (Calls.ext (isEmpty_any _ _ _)).mono ?_)); rintro e _ ⟨rfl, y, rfl⟩)) | (go_at_call 50; ((first | (with_reducible refine (Calls.extq (empty_any _)).mono ?_) | (refine (Calls.ext (empty_any _)).mono ?_)); rintro e _ ⟨rfl, y, rfl⟩)))
 all_goals
  refine bodyPost_ret (v := .agg #[.int .i32 (meetI (xl, xh) (yl, yh)).1, .int .i32 (meetI (xl, xh) (yl, yh)).2]) ?hr rfl ⟨rfl, ?bel⟩
  case hr =>
   simp [results, Tryd.results36, go_sem]
   rw [HF.out]
   constructor <;> (try dsimp only) <;> omega
  case bel =>
   (repeat (first | exact Below.refl _ _ | refine Below.setCell ?_ ?_ _ | refine Ext.below ?_ ?_ _ | refine Below.alloc ?_ ?_ _)) <;> (first | (simp; done) | (simp; omega) | omega)

set_option maxHeartbeats 400000 in
theorem meet_z_lh (xl xh yl yh : Int) (hx : ¬ xh < xl) (hy : ¬ yh < yl) (hz : ¬ yh < yl) (hl : xl < yl) (hh : yh < xh) (w : World) :
  Calls Tryd.prog 36 #[.agg #[.int .i32 xl, .int .i32 xh], .agg #[.int .i32 yl, .int .i32 yh]] w fun e w' => e = .returned (.agg #[.int .i32 (meetI (xl, xh) (yl, yh)).1, .int .i32 (meetI (xl, xh) (yl, yh)).2]) ∧ Below w.heap.size w w' := by
 have d1 : decide (xh < xl) = false := by simpa using hx
 have d2 : decide (yh < yl) = false := by simpa using hy
 have d3 : decide (yh < yl) = false := by simpa using hz
 have hf : meetI (xl, xh) (yl, yh) = (yl, yh) := by simp [meetI, emp]; rw [if_neg (by omega)]; congr 1 <;> omega
 have HF := Lib.hid hf
 clear hf
 go_enter Tryd.func36, Tryd.ntmps36
 go_wp2_with (first | (go_at_call 39; ((first | (with_reducible refine (Calls.extq (isEmpty_any _ _ _)).mono ?_) | (refine (Calls.ext (isEmpty_any _ _ _)).mono ?_)); rintro e _ ⟨rfl, y, rfl⟩)) | (go_at_call 50; ((first | (with_reducible refine (Calls.extq (empty_any _)).mono ?_) | (refine (Calls.ext (empty_any _)).mono ?_)); rintro e _ ⟨rfl, y, rfl⟩)))
 all_goals
  refine bodyPost_ret (v := .agg #[.int .i32 (meetI (xl, xh) (yl, yh)).1, .int .i32 (meetI (xl, xh) (yl, yh)).2]) ?hr rfl ⟨rfl, ?bel⟩
  case hr =>
   simp [results, Tryd.results36, go_sem]
   rw [HF.out]
   constructor <;> (try dsimp only) <;> omega
  case bel =>
   (repeat (first | exact Below.refl _ _ | refine Below.setCell ?_ ?_ _ | refine Ext.below ?_ ?_ _ | refine Below.alloc ?_ ?_ _)) <;> (first | (simp; done) | (simp; omega) | omega)

set_option maxHeartbeats 400000 in
theorem meet_x_lm (xl xh yl yh : Int) (hx : xh < xl) (hl : xl < yl) (hh : xh ≤ yh) (w : World) :
  Calls Tryd.prog 36 #[.agg #[.int .i32 xl, .int .i32 xh], .agg #[.int .i32 yl, .int .i32 yh]] w fun e w' => e = .returned (.agg #[.int .i32 (meetI (xl, xh) (yl, yh)).1, .int .i32 (meetI (xl, xh) (yl, yh)).2]) ∧ Below w.heap.size w w' := by
 have d1 : decide (xh < xl) = true := by simpa using hx
 have hf : meetI (xl, xh) (yl, yh) = (1, 0) := by simp [meetI, emp, hx]
 have HF := Lib.hid hf
 clear hf
 go_enter Tryd.func36, Tryd.ntmps36
 go_wp2_with (first | (go_at_call 39; ((first | (with_reducible refine (Calls.extq (isEmpty_any _ _ _)).mono ?_) | (refine (Calls.ext (isEmpty_any _ _ _)).mono ?_)); rintro e _ ⟨rfl, y, rfl⟩)) | (go_at_call 50; ((first | (with_reducible refine (Calls.extq (empty_any _)).mono ?_) | (refine (Calls.ext (empty_any _)).mono ?_)); rintro e _ ⟨rfl, y, rfl⟩)))
 all_goals
  refine bodyPost_ret (v := .agg #[.int .i32 (meetI (xl, xh) (yl, yh)).1, .int .i32 (meetI (xl, xh) (yl, yh)).2]) ?hr rfl ⟨rfl, ?bel⟩
  case hr =>
   simp [results, Tryd.results36, go_sem]
   rw [HF.out]
   constructor <;> (try dsimp only) <;> omega
  case bel =>
   (repeat (first | exact Below.refl _ _ | refine Below.setCell ?_ ?_ _ | refine Ext.below ?_ ?_ _ | refine Below.alloc ?_ ?_ _)) <;> (first | (simp; done) | (simp; omega) | omega)

set_option maxHeartbeats 400000 in
theorem meet_y_lm (xl xh yl yh : Int) (hx : ¬ xh < xl) (hy : yh < yl) (hl : xl < yl) (hh : xh ≤ yh) (w : World) :
  Calls Tryd.prog 36 #[.agg #[.int .i32 xl, .int .i32 xh], .agg #[.int .i32 yl, .int .i32 yh]] w fun e w' => e = .returned (.agg #[.int .i32 (meetI (xl, xh) (yl, yh)).1, .int .i32 (meetI (xl, xh) (yl, yh)).2]) ∧ Below w.heap.size w w' := by
 have d1 : decide (xh < xl) = false := by simpa using hx
 have d2 : decide (yh < yl) = true := by simpa using hy
 have hf : meetI (xl, xh) (yl, yh) = (1, 0) := by simp [meetI, emp, hy]
 have HF := Lib.hid hf
 clear hf
 go_enter Tryd.func36, Tryd.ntmps36
 go_wp2_with (first | (go_at_call 39; ((first | (with_reducible refine (Calls.extq (isEmpty_any _ _ _)).mono ?_) | (refine (Calls.ext (isEmpty_any _ _ _)).mono ?_)); rintro e _ ⟨rfl, y, rfl⟩)) | (go_at_call 50; ((first | (with_reducible refine (Calls.extq (empty_any _)).mono ?_) | (refine (Calls.ext (empty_any _)).mono ?_)); rintro e _ ⟨rfl, y, rfl⟩)))
 all_goals
  refine bodyPost_ret (v := .agg #[.int .i32 (meetI (xl, xh) (yl, yh)).1, .int .i32 (meetI (xl, xh) (yl, yh)).2]) ?hr rfl ⟨rfl, ?bel⟩
  case hr =>
   simp [results, Tryd.results36, go_sem]
   rw [HF.out]
   constructor <;> (try dsimp only) <;> omega
  case bel =>
   (repeat (first | exact Below.refl _ _ | refine Below.setCell ?_ ?_ _ | refine Ext.below ?_ ?_ _ | refine Below.alloc ?_ ?_ _)) <;> (first | (simp; done) | (simp; omega) | omega)

set_option maxHeartbeats 400000 in
theorem meet_n_lm (xl xh yl yh : Int) (hx : ¬ xh < xl) (hy : ¬ yh < yl) (hz : xh < yl) (hl : xl < yl) (hh : xh ≤ yh) (w : World) :
  Calls Tryd.prog 36 #[.agg #[.int .i32 xl, .int .i32 xh], .agg #[.int .i32 yl, .int .i32 yh]] w fun e w' => e = .returned (.agg #[.int .i32 (meetI (xl, xh) (yl, yh)).1, .int .i32 (meetI (xl, xh) (yl, yh)).2]) ∧ Below w.heap.size w w' := by
 have d1 : decide (xh < xl) = false := by simpa using hx
 have d2 : decide (yh < yl) = false := by simpa using hy
 have d3 : decide (xh < yl) = true := by simpa using hz
 have hf : meetI (xl, xh) (yl, yh) = (1, 0) := by simp [meetI, emp]; omega
 have HF := Lib.hid hf
 clear hf
 go_enter Tryd.func36, Tryd.ntmps36
 go_wp2_with (first | (go_at_call 39; ((first | (with_reducible refine (Calls.extq (isEmpty_any _ _ _)).mono ?_) | (refine (Calls.ext (isEmpty_any _ _ _)).mono ?_)); rintro e _ ⟨rfl, y, rfl⟩)) | (go_at_call 50; ((first | (with_reducible refine (Calls.extq (empty_any _)).mono ?_) | (refine (Calls.ext (empty_any _)).mono ?_)); rintro e _ ⟨rfl, y, rfl⟩)))
 all_goals
  refine bodyPost_ret (v := .agg #[.int .i32 (meetI (xl, xh) (yl, yh)).1, .int .i32 (meetI (xl, xh) (yl, yh)).2]) ?hr rfl ⟨rfl, ?bel⟩
  case hr =>
   simp [results, Tryd.results36, go_sem]
   rw [HF.out]
   constructor <;> (try dsimp only) <;> omega
  case bel =>
   (repeat (first | exact Below.refl _ _ | refine Below.setCell ?_ ?_ _ | refine Ext.below ?_ ?_ _ | refine Below.alloc ?_ ?_ _)) <;> (first | (simp; done) | (simp; omega) | omega)

set_option maxHeartbeats 400000 in
theorem meet_z_lm (xl xh yl yh : Int) (hx : ¬ xh < xl) (hy : ¬ yh < yl) (hz : ¬ xh < yl) (hl : xl < yl) (hh : xh ≤ yh) (w : World) :
  Calls Tryd.prog 36 #[.agg #[.int .i32 xl, .int .i32 xh], .agg #[.int .i32 yl, .int .i32 yh]] w fun e w' => e = .returned (.agg #[.int .i32 (meetI (xl, xh) (yl, yh)).1, .int .i32 (meetI (xl, xh) (yl, yh)).2]) ∧ Below w.heap.size w w' := by
 have d1 : decide (xh < xl) = false := by simpa using hx
 have d2 : decide (yh < yl) = false := by simpa using hy
 have d3 : decide (xh < yl) = false := by simpa using hz
 have hf : meetI (xl, xh) (yl, yh) = (yl, xh) := by simp [meetI, emp]; rw [if_neg (by omega)]; congr 1 <;> omega
 have HF := Lib.hid hf
 clear hf
 go_enter Tryd.func36, Tryd.ntmps36
 go_wp2_with (first | (go_at_call 39; ((first | (with_reducible refine (Calls.extq (isEmpty_any _ _ _)).mono ?_) | (refine (Calls.ext (isEmpty_any _ _ _)).mono ?_)); rintro e _ ⟨rfl, y, rfl⟩)) | (go_at_call 50; ((first | (with_reducible refine (Calls.extq (empty_any _)).mono ?_) | (refine (Calls.ext (empty_any _)).mono ?_)); rintro e _ ⟨rfl, y, rfl⟩)))
 all_goals
  refine bodyPost_ret (v := .agg #[.int .i32 (meetI (xl, xh) (yl, yh)).1, .int .i32 (meetI (xl, xh) (yl, yh)).2]) ?hr rfl ⟨rfl, ?bel⟩
  case hr =>
   simp [results, Tryd.results36, go_sem]
   rw [HF.out]
   constructor <;> (try dsimp only) <;> omega
  case bel =>
   (repeat (first | exact Below.refl _ _ | refine Below.setCell ?_ ?_ _ | refine Ext.below ?_ ?_ _ | refine Below.alloc ?_ ?_ _)) <;> (first | (simp; done) | (simp; omega) | omega)

set_option maxHeartbeats 400000 in
theorem meet_x_mh (xl xh yl yh : Int) (hx : xh < xl) (hl : yl ≤ xl) (hh : yh < xh) (w : World) :
  Calls Tryd.prog 36 #[.agg #[.int .i32 xl, .int .i32 xh], .agg #[.int .i32 yl, .int .i32 yh]] w fun e w' => e = .returned (.agg #[.int .i32 (meetI (xl, xh) (yl, yh)).1, .int .i32 (meetI (xl, xh) (yl, yh)).2]) ∧ Below w.heap.size w w' := by
 have d1 : decide (xh < xl) = true := by simpa using hx
 have hf : meetI (xl, xh) (yl, yh) = (1, 0) := by simp [meetI, emp, hx]
 have HF := Lib.hid hf
 clear hf
 go_enter Tryd.func36, Tryd.ntmps36
 go_wp2_with (first | (go_at_call 39; ((first | (with_reducible refine (Calls.extq (isEmpty_any _ _ _)).mono ?_) | (refine (Calls.ext (isEmpty_any _ _ _)).mono ?_)); rintro e _ ⟨rfl, y, rfl⟩)) | (go_at_call 50; ((first | (with_reducible refine (Calls.extq (empty_any _)).mono ?_) | (refine (Calls.ext (empty_any _)).mono ?_)); rintro e _ ⟨rfl, y, rfl⟩)))
 all_goals
  refine bodyPost_ret (v := .agg #[.int .i32 (meetI (xl, xh) (yl, yh)).1, .int .i32 (meetI (xl, xh) (yl, yh)).2]) ?hr rfl ⟨rfl, ?bel⟩
  case hr =>
   simp [results, Tryd.results36, go_sem]
   rw [HF.out]
   constructor <;> (try dsimp only) <;> omega
  case bel =>
   (repeat (first | exact Below.refl _ _ | refine Below.setCell ?_ ?_ _ | refine Ext.below ?_ ?_ _ | refine Below.alloc ?_ ?_ _)) <;> (first | (simp; done) | (simp; omega) | omega)

set_option maxHeartbeats 400000 in
theorem meet_y_mh (xl xh yl yh : Int) (hx : ¬ xh < xl) (hy : yh < yl) (hl : yl ≤ xl) (hh : yh < xh) (w : World) :
  Calls Tryd.prog 36 #[.agg #[.int .i32 xl, .int .i32 xh], .agg #[.int .i32 yl, .int .i32 yh]] w fun e w' => e = .returned (.agg #[.int .i32 (meetI (xl, xh) (yl, yh)).1, .int .i32 (meetI (xl, xh) (yl, yh)).2]) ∧ Below w.heap.size w w' := by
 have d1 : decide (xh < xl) = false := by simpa using hx
 have d2 : decide (yh < yl) = true := by simpa using hy
 have hf : meetI (xl, xh) (yl, yh) = (1, 0) := by simp [meetI, emp, hy]
 have HF := Lib.hid hf
 clear hf
 go_enter Tryd.func36, Tryd.ntmps36
 go_wp2_with (first | (go_at_call 39; ((first | (with_reducible refine (Calls.extq (isEmpty_any _ _ _)).mono ?_) | (refine (Calls.ext (isEmpty_any _ _ _)).mono ?_)); rintro e _ ⟨rfl, y, rfl⟩)) | (go_at_call 50; ((first | (with_reducible refine (Calls.extq (empty_any _)).mono ?_) | (refine (Calls.ext (empty_any _)).mono ?_)); rintro e _ ⟨rfl, y, rfl⟩)))
 all_goals
  refine bodyPost_ret (v := .agg #[.int .i32 (meetI (xl, xh) (yl, yh)).1, .int .i32 (meetI (xl, xh) (yl, yh)).2]) ?hr rfl ⟨rfl, ?bel⟩
  case hr =>
   simp [results, Tryd.results36, go_sem]
   rw [HF.out]
   constructor <;> (try dsimp only) <;> omega
  case bel =>
   (repeat (first | exact Below.refl _ _ | refine Below.setCell ?_ ?_ _ | refine Ext.below ?_ ?_ _ | refine Below.alloc ?_ ?_ _)) <;> (first | (simp; done) | (simp; omega) | omega)

set_option maxHeartbeats 400000 in
theorem meet_n_mh (xl xh yl yh : Int) (hx : ¬ xh < xl) (hy : ¬ yh < yl) (hz : yh < xl) (hl : yl ≤ xl) (hh : yh < xh) (w : World) :
  Calls Tryd.prog 36 #[.agg #[.int .i32 xl, .int .i32 xh], .agg #[.int .i32 yl, .int .i32 yh]] w fun e w' => e = .returned (.agg #[.int .i32 (meetI (xl, xh) (yl, yh)).1, .int .i32 (meetI (xl, xh) (yl, yh)).2]) ∧ Below w.heap.size w w' := by
 have d1 : decide (xh < xl) = false := by simpa using hx
 have d2 : decide (yh < yl) = false := by simpa using hy
 have d3 : decide (yh < xl) = true := by simpa using hz
 have hf : meetI (xl, xh) (yl, yh) = (1, 0) := by simp [meetI, emp]; omega
 have HF := Lib.hid hf
 clear hf
 go_enter Tryd.func36, Tryd.ntmps36
 go_wp2_with (first | (go_at_call 39; ((first | (with_reducible refine (Calls.extq (isEmpty_any _ _ _)).mono ?_) | (refine (Calls.ext (isEmpty_any _ _ _)).mono ?_)); rintro e _ ⟨rfl, y, rfl⟩)) | (go_at_call 50; ((first | (with_reducible refine (Calls.extq (empty_any _)).mono ?_) | (refine (Calls.ext (empty_any _)).mono ?_)); rintro e _ ⟨rfl, y, rfl⟩)))
 all_goals
  refine bodyPost_ret (v := .agg #[.int .i32 (meetI (xl, xh) (yl, yh)).1, .int .i32 (meetI (xl, xh) (yl, yh)).2]) ?hr rfl ⟨rfl, ?bel⟩
  case hr =>
   simp [results, Tryd.results36, go_sem]
   rw [HF.out]
   constructor <;> (try dsimp only) <;> omega
  case bel =>
   (repeat (first | exact Below.refl _ _ | refine Below.setCell ?_ ?_ _ | refine Ext.below ?_ ?_ _ | refine Below.alloc ?_ ?_ _)) <;> (first | (simp; done) | (simp; omega) | omega)

set_option maxHeartbeats 400000 in
theorem meet_z_mh (xl xh yl yh : Int) (hx : ¬ xh < xl) (hy : ¬ yh < yl) (hz : ¬ yh < xl) (hl : yl ≤ xl) (hh : yh < xh) (w : World) :
  Calls Tryd.prog 36 #[.agg #[.int .i32 xl, .int .i32 xh], .agg #[.int .i32 yl, .int .i32 yh]] w fun e w' => e = .returned (.agg #[.int .i32 (meetI (xl, xh) (yl, yh)).1, .int .i32 (meetI (xl, xh) (yl, yh)).2]) ∧ Below w.heap.size w w' := by
 have d1 : decide (xh < xl) = false := by simpa using hx
 have d2 : decide (yh < yl) = false := by simpa using hy
 have d3 : decide (yh < xl) = false := by simpa using hz
 have hf : meetI (xl, xh) (yl, yh) = (xl, yh) := by simp [meetI, emp]; rw [if_neg (by omega)]; congr 1 <;> omega
 have HF := Lib.hid hf
 clear hf
 go_enter Tryd.func36, Tryd.ntmps36
 go_wp2_with (first | (go_at_call 39; ((first | (with_reducible refine (Calls.extq (isEmpty_any _ _ _)).mono ?_) | (refine (Calls.ext (isEmpty_any _ _ _)).mono ?_)); rintro e _ ⟨rfl, y, rfl⟩)) | (go_at_call 50; ((first | (with_reducible refine (Calls.extq (empty_any _)).mono ?_) | (refine (Calls.ext (empty_any _)).mono ?_)); rintro e _ ⟨rfl, y, rfl⟩)))
 all_goals
  refine bodyPost_ret (v := .agg #[.int .i32 (meetI (xl, xh) (yl, yh)).1, .int .i32 (meetI (xl, xh) (yl, yh)).2]) ?hr rfl ⟨rfl, ?bel⟩
  case hr =>
   simp [results, Tryd.results36, go_sem]
   rw [HF.out]
   constructor <;> (try dsimp only) <;> omega
  case bel =>
   (repeat (first | exact Below.refl _ _ | refine Below.setCell ?_ ?_ _ | refine Ext.below ?_ ?_ _ | refine Below.alloc ?_ ?_ _)) <;> (first | (simp; done) | (simp; omega) | omega)

set_option maxHeartbeats 400000 in
theorem meet_x_mm (xl xh yl yh : Int) (hx : xh < xl) (hl : yl ≤ xl) (hh : xh ≤ yh) (w : World) :
  Calls Tryd.prog 36 #[.agg #[.int .i32 xl, .int .i32 xh], .agg #[.int .i32 yl, .int .i32 yh]] w fun e w' => e = .returned (.agg #[.int .i32 (meetI (xl, xh) (yl, yh)).1, .int .i32 (meetI (xl, xh) (yl, yh)).2]) ∧ Below w.heap.size w w' := by
 have d1 : decide (xh < xl) = true := by simpa using hx
 have hf : meetI (xl, xh) (yl, yh) = (1, 0) := by simp [meetI, emp, hx]
 have HF := Lib.hid hf
 clear hf
 go_enter Tryd.func36, Tryd.ntmps36
 go_wp2_with (first | (go_at_call 39; ((first | (with_reducible refine (Calls.extq (isEmpty_any _ _ _)).mono ?_) | (refine (Calls.ext (isEmpty_any _ _ _)).mono ?_)); rintro e _ ⟨rfl, y, rfl⟩)) | (go_at_call 50; ((first | (with_reducible refine (Calls.extq (empty_any _)).mono ?_) | (refine (Calls.ext (empty_any _)).mono ?_)); rintro e _ ⟨rfl, y, rfl⟩)))
 all_goals
  refine bodyPost_ret (v := .agg #[.int .i32 (meetI (xl, xh) (yl, yh)).1, .int .i32 (meetI (xl, xh) (yl, yh)).2]) ?hr rfl ⟨rfl, ?bel⟩
  case hr =>
   simp [results, Tryd.results36, go_sem]
   rw [HF.out]
   constructor <;> (try dsimp only) <;> omega
  case bel =>
   (repeat (first | exact Below.refl _ _ | refine Below.setCell ?_ ?_ _ | refine Ext.below ?_ ?_ _ | refine Below.alloc ?_ ?_ _)) <;> (first | (simp; done) | (simp; omega) | omega)

set_option maxHeartbeats 400000 in
theorem meet_z_mm (xl xh yl yh : Int) (hx : ¬ xh < xl) (hy : ¬ yh < yl) (hz : ¬ xh < xl) (hl : yl ≤ xl) (hh : xh ≤ yh) (w : World) :
  Calls Tryd.prog 36 #[.agg #[.int .i32 xl, .int .i32 xh], .agg #[.int .i32 yl, .int .i32 yh]] w fun e w' => e = .returned (.agg #[.int .i32 (meetI (xl, xh) (yl, yh)).1, .int .i32 (meetI (xl, xh) (yl, yh)).2]) ∧ Below w.heap.size w w' := by
 have d1 : decide (xh < xl) = false := by simpa using hx
 have d2 : decide (yh < yl) = false := by simpa using hy
 have d3 : decide (xh < xl) = false := by simpa using hz
 have hf : meetI (xl, xh) (yl, yh) = (xl, xh) := by simp [meetI, emp]; rw [if_neg (by omega)]; congr 1 <;> omega
 have HF := Lib.hid hf
 clear hf
 go_enter Tryd.func36, Tryd.ntmps36
 go_wp2_with (first | (go_at_call 39; ((first | (with_reducible refine (Calls.extq (isEmpty_any _ _ _)).mono ?_) | (refine (Calls.ext (isEmpty_any _ _ _)).mono ?_)); rintro e _ ⟨rfl, y, rfl⟩)) | (go_at_call 50; ((first | (with_reducible refine (Calls.extq (empty_any _)).mono ?_) | (refine (Calls.ext (empty_any _)).mono ?_)); rintro e _ ⟨rfl, y, rfl⟩)))
 all_goals
  refine bodyPost_ret (v := .agg #[.int .i32 (meetI (xl, xh) (yl, yh)).1, .int .i32 (meetI (xl, xh) (yl, yh)).2]) ?hr rfl ⟨rfl, ?bel⟩
  case hr =>
   simp [results, Tryd.results36, go_sem]
   rw [HF.out]
   constructor <;> (try dsimp only) <;> omega
  case bel =>
   (repeat (first | exact Below.refl _ _ | refine Below.setCell ?_ ?_ _ | refine Ext.below ?_ ?_ _ | refine Below.alloc ?_ ?_ _)) <;> (first | (simp; done) | (simp; omega) | omega)

theorem meet_any (xl xh yl yh : Int) (w : World) : Calls Tryd.prog 36 #[.agg #[.int .i32 xl, .int .i32 xh], .agg #[.int .i32 yl, .int .i32 yh]] w fun e w' => e = .returned (.agg #[.int .i32 (meetI (xl, xh) (yl, yh)).1, .int .i32 (meetI (xl, xh) (yl, yh)).2]) ∧ Below w.heap.size w w' := by
 by_cases hl : xl < yl
 ·by_cases hh : yh < xh
  ·by_cases hx : xh < xl
   ·exact meet_x_lh xl xh yl yh hx hl hh w
   ·by_cases hy : yh < yl
    ·exact meet_y_lh xl xh yl yh hx hy hl hh w
    ·by_cases hz : yh < yl
     ·exact absurd hz (by omega)
     ·exact meet_z_lh xl xh yl yh hx hy hz hl hh w
  ·have hh : xh ≤ yh := by omega
   by_cases hx : xh < xl
   ·exact meet_x_lm xl xh yl yh hx hl hh w
   ·by_cases hy : yh < yl
    ·exact meet_y_lm xl xh yl yh hx hy hl hh w
    ·by_cases hz : xh < yl
     ·exact meet_n_lm xl xh yl yh hx hy hz hl hh w
     ·exact meet_z_lm xl xh yl yh hx hy hz hl hh w
 ·have hl : yl ≤ xl := by omega
  by_cases hh : yh < xh
  ·by_cases hx : xh < xl
   ·exact meet_x_mh xl xh yl yh hx hl hh w
   ·by_cases hy : yh < yl
    ·exact meet_y_mh xl xh yl yh hx hy hl hh w
    ·by_cases hz : yh < xl
     ·exact meet_n_mh xl xh yl yh hx hy hz hl hh w
     ·exact meet_z_mh xl xh yl yh hx hy hz hl hh w
  ·have hh : xh ≤ yh := by omega
   by_cases hx : xh < xl
   ·exact meet_x_mm xl xh yl yh hx hl hh w
   ·by_cases hy : yh < yl
    ·exact absurd hy (by omega)
    ·by_cases hz : xh < xl
     ·exact absurd hz (by omega)
     ·exact meet_z_mm xl xh yl yh hx hy hz hl hh w
set_option maxHeartbeats 400000 in
theorem within_x (xl xh yl yh : Int) (hx : xh < xl) (w : World) :
  Calls Tryd.prog 23 #[.agg #[.int .i32 xl, .int .i32 xh], .agg #[.int .i32 yl, .int .i32 yh]] w fun e w' => e = .returned (.bool (withinI (xl, xh) (yl, yh))) ∧ Below w.heap.size w w' := by
 have d1 : decide (xh < xl) = true := by simpa using hx
 go_enter Tryd.func23, Tryd.ntmps23
 go_wp2_with (first | (go_at_call 39; ((first | (with_reducible refine (Calls.extq (isEmpty_any _ _ _)).mono ?_) | (refine (Calls.ext (isEmpty_any _ _ _)).mono ?_)); rintro e _ ⟨rfl, y, rfl⟩)))
 all_goals
  go_ret
  refine ⟨by simp [withinI, emp, *] <;> omega, ?_⟩
  (repeat (first | exact Below.refl _ _ | refine Below.setCell ?_ ?_ _ | refine Ext.below ?_ ?_ _ | refine Below.alloc ?_ ?_ _)) <;> (first | (simp; done) | (simp; omega) | omega)

set_option maxHeartbeats 400000 in
theorem within_y (xl xh yl yh : Int) (hx : ¬ xh < xl) (w : World) :
  Calls Tryd.prog 23 #[.agg #[.int .i32 xl, .int .i32 xh], .agg #[.int .i32 yl, .int .i32 yh]] w fun e w' => e = .returned (.bool (withinI (xl, xh) (yl, yh))) ∧ Below w.heap.size w w' := by
 have d1 : decide (xh < xl) = false := by simpa using hx
 go_enter Tryd.func23, Tryd.ntmps23
 go_wp2_with (first | (go_at_call 39; ((first | (with_reducible refine (Calls.extq (isEmpty_any _ _ _)).mono ?_) | (refine (Calls.ext (isEmpty_any _ _ _)).mono ?_)); rintro e _ ⟨rfl, y, rfl⟩)))
 all_goals
  go_ret
  refine ⟨by simp [withinI, emp, *] <;> omega, ?_⟩
  (repeat (first | exact Below.refl _ _ | refine Below.setCell ?_ ?_ _ | refine Ext.below ?_ ?_ _ | refine Below.alloc ?_ ?_ _)) <;> (first | (simp; done) | (simp; omega) | omega)

theorem within_any (xl xh yl yh : Int) (w : World) : Calls Tryd.prog 23 #[.agg #[.int .i32 xl, .int .i32 xh], .agg #[.int .i32 yl, .int .i32 yh]] w fun e w' => e = .returned (.bool (withinI (xl, xh) (yl, yh))) ∧ Below w.heap.size w w' := by
 by_cases hx : xh < xl
 ·exact within_x xl xh yl yh hx w
 ·exact within_y xl xh yl yh hx w

end Go.Proofs.YtebklpnkcicpjaaDoor

namespace Go.Proofs.YtebklpnkcicpjaaDoor
open Go.RowKit

def nth (l : List Int) (i : Nat) : Int := l.getD i 0
def loL (l : List Int) : Int := l.foldl min (nth l 0)
def hiL (l : List Int) : Int := l.foldl max (nth l 0)
def hullL (l : List Int) : Int × Int := if loL l < -2147483648 ∨ 2147483647 < hiL l then (-2147483648, 2147483647) else (loL l, hiL l)

theorem take_succ_getD {l : List Int} {k : Nat} (h : k < l.length) : l.take (k + 1) = l.take k ++ [nth l k] := by
 rw [List.take_succ_eq_append_getElem h]
 simp [nth, List.getD, h]
theorem foldl_step (f : Int → Int → Int) (l : List Int) (a : Int) (k : Nat) (h : k < l.length) : (l.take (k + 1)).foldl f a = f ((l.take k).foldl f a) (nth l k) := by
 rw [take_succ_getD h, List.foldl_append]
 rfl
theorem min_if (a b : Int) : (if b < a then b else a) = min a b := by split <;> omega
theorem max_if (a b : Int) : (if a < b then b else a) = max a b := by split <;> omega
theorem fold_mono (l : List Int) : ∀ a b : Int, a ≤ b → l.foldl min a ≤ l.foldl max b := by
 induction l with
 | nil => intro a b h; exact h
 | cons x l ih => intro a b h; exact ih _ _ (by omega)
theorem loL_le_hiL (l : List Int) : loL l ≤ hiL l := fold_mono l _ _ (Int.le_refl _)
theorem int_eq {k : IntKind} {a b : Int} (h : a = b) : Value.int k a = Value.int k b := by rw [h]

set_option maxHeartbeats 1000000 in
theorem hull_any (g cap : Nat) (l : List Int) (w : World) (hl : 1 ≤ l.length) (hl' : l.length ≤ 1000) (hg : g < w.heap.size) (hc : ∀ i, i < l.length → w.cell? ⟨g, i, none⟩ = some (.int .i64 (nth l i))) :
  Calls Tryd.prog 85 #[.slice (some ⟨g, 0, none⟩) l.length cap] w fun e w' => e = .returned (.agg #[.int .i32 (hullL l).1, .int .i32 (hullL l).2]) ∧ Below w.heap.size w w' := by
 have c0 := hc 0 (by omega)
 have hlz : ((l.length : Int) == 0) = false := by simpa using (by intro h; subst h; simp at hl : l ≠ [])
 have hl0 : (0 : Int) < (l.length : Int) := by omega
 have HC := Lib.hid hc
 clear hc
 go_enter Tryd.func85, Tryd.ntmps85
 go_wp2_with fail
 refine wp_region_ext (by kernel_rfl) (by kernel_rfl) ?_
 repeat (go_big_quiet_step (fail))
 refine wpQuiet_nil ?_
 rintro _ ⟨x1, rfl⟩
 go_wp2_with fail
 go_loop [3, 4, 19] (fun a b i => ∃ k : Nat, k ≤ l.length ∧ i = .int .i64 k ∧ a = .int .i64 ((l.take k).foldl min (nth l 0)) ∧ b = .int .i64 ((l.take k).foldl max (nth l 0))) (fun _ _ i => l.length - (intOf i).toNat)
 case atStart => exact ⟨0, by omega, rfl, rfl, rfl⟩
 case round =>
  obtain ⟨k, hk, rfl, rfl, rfl⟩ := hrel
  by_cases hlt : k < l.length
  ·have ck := HC.out k hlt
   have s1 := Lib.hid (foldl_step min l (nth l 0) k hlt)
   have s2 := Lib.hid (foldl_step max l (nth l 0) k hlt)
   have hlt' : (k : Int) < (l.length : Int) := by omega
   go_wp2
   all_goals
    go_round
    case rel => exact ⟨k + 1, by omega, by go_num, int_eq (by rw [s1.out]; exact min_if _ _), int_eq (by rw [s2.out]; exact max_if _ _)⟩
    case measure => simp [intOf]; omega
  ·have ek : l.take k = l := List.take_of_length_le (by omega)
   rw [ek]
   have e1 : l.foldl min (nth l 0) = loL l := rfl
   have e2 : l.foldl max (nth l 0) = hiL l := rfl
   rw [e1, e2]
   clear ek e1 e2
   by_cases hlo : loL l < -2147483648
   ·have d1 : decide (loL l < -2147483648) = true := by simpa using hlo
    have hf : hullL l = (-2147483648, 2147483647) := by unfold hullL; rw [if_pos (.inl hlo)]
    have HF := Lib.hid hf
    clear hf
    go_wp2_with fail
    refine (Calls.extq (full_any _)).mono ?_
    rintro e _ ⟨rfl, y, rfl⟩
    go_wp2
    refine bodyPost_ret (v := .agg #[.int .i32 (hullL l).1, .int .i32 (hullL l).2]) ?hr rfl ⟨rfl, ?bel⟩
    case hr =>
     simp [results, Tryd.results85, go_sem]
     rw [HF.out]
     constructor <;> rfl
    case bel =>
     (repeat (first | exact Below.refl _ _ | refine Below.setCell ?_ ?_ _ | refine Ext.below ?_ ?_ _ | refine Below.alloc ?_ ?_ _)) <;> (first | (simp; done) | (simp; omega) | omega)
   ·have d1 : decide (loL l < -2147483648) = false := by simpa using hlo
    by_cases hhi : 2147483647 < hiL l
    ·have d2 : decide (2147483647 < hiL l) = true := by simpa using hhi
     have hf : hullL l = (-2147483648, 2147483647) := by unfold hullL; rw [if_pos (.inr hhi)]
     have HF := Lib.hid hf
     clear hf
     go_wp2_with fail
     refine (Calls.extq (full_any _)).mono ?_
     rintro e _ ⟨rfl, y, rfl⟩
     go_wp2
     refine bodyPost_ret (v := .agg #[.int .i32 (hullL l).1, .int .i32 (hullL l).2]) ?hr rfl ⟨rfl, ?bel⟩
     case hr =>
      simp [results, Tryd.results85, go_sem]
      rw [HF.out]
      constructor <;> rfl
     case bel =>
      (repeat (first | exact Below.refl _ _ | refine Below.setCell ?_ ?_ _ | refine Ext.below ?_ ?_ _ | refine Below.alloc ?_ ?_ _)) <;> (first | (simp; done) | (simp; omega) | omega)
    ·have d2 : decide (2147483647 < hiL l) = false := by simpa using hhi
     have hf : hullL l = (loL l, hiL l) := by unfold hullL; rw [if_neg (by omega)]
     have hle := loL_le_hiL l
     have HF := Lib.hid hf
     clear hf
     go_wp2
     refine bodyPost_ret (v := .agg #[.int .i32 (hullL l).1, .int .i32 (hullL l).2]) ?hr rfl ⟨rfl, ?bel⟩
     case hr =>
      simp [results, Tryd.results85, go_sem]
      rw [HF.out]
      constructor <;> rfl
     case bel =>
      (repeat (first | exact Below.refl _ _ | refine Below.setCell ?_ ?_ _ | refine Ext.below ?_ ?_ _ | refine Below.alloc ?_ ?_ _)) <;> (first | (simp; done) | (simp; omega) | omega)

end Go.Proofs.YtebklpnkcicpjaaDoor

namespace Go.Proofs.YtebklpnkcicpjaaDoor
open Go.RowKit

theorem info2 : (Tryd.prog.info? 2).map (fun i => (i.zero, i.size, i.bytes)) = some (some (.int .i64 0), 1, 8) := by kernel_rfl
theorem ix0 (a b : Value) (w : World) : (Instr.index 157 (.agg #[a, b]) (.int .i64 0)).run Tryd.prog w = .ok a w := by kernel_rfl
theorem ix1 (a b : Value) (w : World) : (Instr.index 157 (.agg #[a, b]) (.int .i64 1)).run Tryd.prog w = .ok b w := by kernel_rfl

theorem Ext.base_le {W0 : World} (y : Ext W0) (o : Obj) : W0.heap.size ≤ (y.w.alloc o).heap.size := Nat.le_trans y.h.size (by simp)

theorem mul_word {x y : Int} (h1 : -2147483648 ≤ x) (h2 : x ≤ 2147483647) (h3 : -2147483648 ≤ y) (h4 : y ≤ 2147483647) : -4611686018427387904 ≤ x * y ∧ x * y ≤ 4611686018427387904 := by
 have hn : (x * y).natAbs ≤ 2147483648 * 2147483648 := by
  rw [Int.natAbs_mul]
  exact Nat.mul_le_mul (by omega) (by omega)
 omega

theorem own_ints {w : World} {B cap0 : Nat} {v : Value} {l : List Int} (hcap : cap0 = l.length) (h : w.ownsRow B 2 1 v cap0 (l.map (Value.int .i64))) (hl : 1 ≤ l.length) :
  ∃ g cap, v = .slice (some ⟨g, 0, none⟩) l.length cap ∧ g < w.heap.size ∧ ∀ i, i < l.length → w.cell? ⟨g, i, none⟩ = some (.int .i64 (nth l i)) := by
 subst hcap
 rcases h.2 with ⟨_, h0⟩ | ⟨g, cap, cur, hv, _, hg, hn, _, hsz, ht⟩
 ·omega
 ·refine ⟨g, cap, hv, ?_, fun i hi => ?_⟩
  ·rcases Nat.lt_or_ge g w.heap.size with h' | h'
   ·exact h'
   ·rw [Array.getElem?_eq_none h'] at hg; cases hg
  ·rw [Nat.mul_one] at ht
   have e : cur.toList[i]? = some (.int .i64 (nth l i)) := by
    have := congrArg (fun x => x[i]?) ht
    simp only [List.getElem?_take, hi, if_true] at this
    rw [this]
    simp [nth, List.getD, hi]
   simp [World.cell?, hg]
   simpa using e

theorem ext_grown {W0 : World} (y : Ext W0) {o : Obj} {w' : World} {e : TypeId} {size n : Nat} {v : Value} {xs : List Value} (hown : y.w.ownsRow W0.heap.size e size v n xs) (hg : (y.w.alloc o).grownBy w' v.ownBlock) : ∃ y' : Ext W0, y'.w = w' := by
 refine ⟨⟨w', (y.h.alloc y.h.size o).grown hg ?_ ?_⟩, rfl⟩
 ·have := y.h.size; simp <;> omega
 ·intro k hk
  rcases hown.2 with ⟨rfl, _⟩ | ⟨g, cap, cur, rfl, hb, _⟩
  ·cases hk
  ·cases hk; exact hb

set_option maxHeartbeats 2000000 in
theorem linear_6 (xl xh yl yh : Int) (w : World) (hx1 : -2147483648 ≤ xl) (hx2 : xl ≤ 2147483647) (hx3 : -2147483648 ≤ xh) (hx4 : xh ≤ 2147483647) (hy1 : -2147483648 ≤ yl) (hy2 : yl ≤ 2147483647) (hy3 : -2147483648 ≤ yh) (hy4 : yh ≤ 2147483647) :
  Calls Tryd.prog 66 #[.int .u8 6, .agg #[.int .i32 xl, .int .i32 xh], .agg #[.int .i32 yl, .int .i32 yh]] w fun e w' => e = .returned (.agg #[.int .i32 (hullL [xl + yl, xl + yh, xh + yl, xh + yh]).1, .int .i32 (hullL [xl + yl, xl + yh, xh + yl, xh + yh]).2]) ∧ Below w.heap.size w w' := by
 obtain ⟨i0, hi, hz0, hz1, hz2⟩ := info_parts info2
 have i0f := ix0
 have i1f := ix1
 go_enter Tryd.func66, Tryd.ntmps66
 go_wp2_with fail
 obtain ⟨y0, hy0⟩ : ∃ y0 : Ext (((w.alloc (Obj.cells #[Value.int IntKind.i32 xl, Value.int IntKind.i32 xh] 25)).alloc (Obj.cells #[Value.int IntKind.i32 yl, Value.int IntKind.i32 yh] 25)).alloc (Obj.cells #[Value.int IntKind.i32 0, Value.int IntKind.i32 0] 25)), (((w.alloc (Obj.cells #[Value.int IntKind.i32 xl, Value.int IntKind.i32 xh] 25)).alloc (Obj.cells #[Value.int IntKind.i32 yl, Value.int IntKind.i32 yh] 25)).alloc (Obj.cells #[Value.int IntKind.i32 0, Value.int IntKind.i32 0] 25)) = y0.w := ⟨⟨_, Below.refl _ _⟩, rfl⟩
 have hown0 : y0.w.ownsRow (World.heap (((w.alloc (Obj.cells #[Value.int IntKind.i32 xl, Value.int IntKind.i32 xh] 25)).alloc (Obj.cells #[Value.int IntKind.i32 yl, Value.int IntKind.i32 yh] 25)).alloc (Obj.cells #[Value.int IntKind.i32 0, Value.int IntKind.i32 0] 25))).size 2 1 (.slice none 0 0) 0 [] := ⟨rfl, .inl ⟨rfl, rfl⟩⟩
 rw [hy0]
 clear hy0
 refine wp_loop_rounds 3 ?_
 rw [rounds_succ]
 go_wp2_with fail
 refine wp_loop_rounds 3 ?_
 rw [rounds_succ]
 go_wp2_with (at_builtin; refine wpList_append_own _ rfl (.tmp 41) (.tmp 45) 156 rfl (World.heap (((w.alloc (Obj.cells #[Value.int IntKind.i32 xl, Value.int IntKind.i32 xh] 25)).alloc (Obj.cells #[Value.int IntKind.i32 yl, Value.int IntKind.i32 yh] 25)).alloc (Obj.cells #[Value.int IntKind.i32 0, Value.int IntKind.i32 0] 25))).size 2 i0 (.int .i64 0) 1 8 Tryd.underlying156 hi hz0 hz1 hz2 rfl (by decide) _ _ _ rfl (hown0.alloc _) ⟨y0.w.heap.size, 0, none⟩ 1 1 [.int .i64 (xl + yl)] rfl rfl (cell_one_new _ _ _) (by simp [Value.oneCell']) (by unfold maxLen; omega) (by omega) (Ext.base_le y0 _) ?_; intro v1 w1 hown1 hgrow _)
 obtain ⟨y1, rfl⟩ := ext_grown y0 hown0 hgrow
 clear hgrow
 go_wp2_with fail
 rw [rounds_succ]
 go_wp2_with (at_builtin; refine wpList_append_own _ rfl (.tmp 41) (.tmp 45) 156 rfl (World.heap (((w.alloc (Obj.cells #[Value.int IntKind.i32 xl, Value.int IntKind.i32 xh] 25)).alloc (Obj.cells #[Value.int IntKind.i32 yl, Value.int IntKind.i32 yh] 25)).alloc (Obj.cells #[Value.int IntKind.i32 0, Value.int IntKind.i32 0] 25))).size 2 i0 (.int .i64 0) 1 8 Tryd.underlying156 hi hz0 hz1 hz2 rfl (by decide) _ _ _ rfl (hown1.alloc _) ⟨y1.w.heap.size, 0, none⟩ 1 1 [.int .i64 (xl + yh)] rfl rfl (cell_one_new _ _ _) (by simp [Value.oneCell']) (by unfold maxLen; omega) (by omega) (Ext.base_le y1 _) ?_; intro v2 w1 hown2 hgrow _)
 obtain ⟨y2, rfl⟩ := ext_grown y1 hown1 hgrow
 clear hgrow
 go_wp2_with fail
 rw [rounds_succ]
 go_wp2_with fail
 rw [rounds_succ]
 go_wp2_with fail
 refine wp_loop_rounds 3 ?_
 rw [rounds_succ]
 go_wp2_with (at_builtin; refine wpList_append_own _ rfl (.tmp 41) (.tmp 45) 156 rfl (World.heap (((w.alloc (Obj.cells #[Value.int IntKind.i32 xl, Value.int IntKind.i32 xh] 25)).alloc (Obj.cells #[Value.int IntKind.i32 yl, Value.int IntKind.i32 yh] 25)).alloc (Obj.cells #[Value.int IntKind.i32 0, Value.int IntKind.i32 0] 25))).size 2 i0 (.int .i64 0) 1 8 Tryd.underlying156 hi hz0 hz1 hz2 rfl (by decide) _ _ _ rfl (hown2.alloc _) ⟨y2.w.heap.size, 0, none⟩ 1 1 [.int .i64 (xh + yl)] rfl rfl (cell_one_new _ _ _) (by simp [Value.oneCell']) (by unfold maxLen; omega) (by omega) (Ext.base_le y2 _) ?_; intro v3 w1 hown3 hgrow _)
 obtain ⟨y3, rfl⟩ := ext_grown y2 hown2 hgrow
 clear hgrow
 go_wp2_with fail
 rw [rounds_succ]
 go_wp2_with (at_builtin; refine wpList_append_own _ rfl (.tmp 41) (.tmp 45) 156 rfl (World.heap (((w.alloc (Obj.cells #[Value.int IntKind.i32 xl, Value.int IntKind.i32 xh] 25)).alloc (Obj.cells #[Value.int IntKind.i32 yl, Value.int IntKind.i32 yh] 25)).alloc (Obj.cells #[Value.int IntKind.i32 0, Value.int IntKind.i32 0] 25))).size 2 i0 (.int .i64 0) 1 8 Tryd.underlying156 hi hz0 hz1 hz2 rfl (by decide) _ _ _ rfl (hown3.alloc _) ⟨y3.w.heap.size, 0, none⟩ 1 1 [.int .i64 (xh + yh)] rfl rfl (cell_one_new _ _ _) (by simp [Value.oneCell']) (by unfold maxLen; omega) (by omega) (Ext.base_le y3 _) ?_; intro v4 w1 hown4 hgrow _)
 obtain ⟨y4, rfl⟩ := ext_grown y3 hown3 hgrow
 clear hgrow
 go_wp2_with fail
 rw [rounds_succ]
 go_wp2_with fail
 rw [rounds_succ]
 go_wp2_with fail
 obtain ⟨g, cap, hv, hg, hc⟩ := own_ints (l := [xl + yl, xl + yh, xh + yl, xh + yh]) rfl (by simpa using hown4) (by simp)
 rw [hv]
 clear hv hown0 hown1 hown2 hown3 hown4
 refine (Calls.extq (hull_any g cap [xl + yl, xl + yh, xh + yl, xh + yh] y4.w (by simp) (by simp) hg hc)).mono ?_
 rintro e _ ⟨rfl, y5, rfl⟩
 clear hc
 go_wp2
 all_goals
  refine bodyPost_ret (v := .agg #[.int .i32 (hullL [xl + yl, xl + yh, xh + yl, xh + yh]).1, .int .i32 (hullL [xl + yl, xl + yh, xh + yl, xh + yh]).2]) ?hr rfl ⟨rfl, ?bel⟩
  case hr =>
   simp [results, Tryd.results66, go_sem]
  case bel =>
   (repeat (first | exact Below.refl _ _ | refine Below.setCell ?_ ?_ _ | refine Ext.below ?_ ?_ _ | refine Below.alloc ?_ ?_ _)) <;> (first | (simp; done) | (simp; omega) | omega)
set_option maxHeartbeats 2000000 in
theorem linear_7 (xl xh yl yh : Int) (w : World) (hx1 : -2147483648 ≤ xl) (hx2 : xl ≤ 2147483647) (hx3 : -2147483648 ≤ xh) (hx4 : xh ≤ 2147483647) (hy1 : -2147483648 ≤ yl) (hy2 : yl ≤ 2147483647) (hy3 : -2147483648 ≤ yh) (hy4 : yh ≤ 2147483647) :
  Calls Tryd.prog 66 #[.int .u8 7, .agg #[.int .i32 xl, .int .i32 xh], .agg #[.int .i32 yl, .int .i32 yh]] w fun e w' => e = .returned (.agg #[.int .i32 (hullL [xl - yl, xl - yh, xh - yl, xh - yh]).1, .int .i32 (hullL [xl - yl, xl - yh, xh - yl, xh - yh]).2]) ∧ Below w.heap.size w w' := by
 obtain ⟨i0, hi, hz0, hz1, hz2⟩ := info_parts info2
 have i0f := ix0
 have i1f := ix1
 go_enter Tryd.func66, Tryd.ntmps66
 go_wp2_with fail
 obtain ⟨y0, hy0⟩ : ∃ y0 : Ext (((w.alloc (Obj.cells #[Value.int IntKind.i32 xl, Value.int IntKind.i32 xh] 25)).alloc (Obj.cells #[Value.int IntKind.i32 yl, Value.int IntKind.i32 yh] 25)).alloc (Obj.cells #[Value.int IntKind.i32 0, Value.int IntKind.i32 0] 25)), (((w.alloc (Obj.cells #[Value.int IntKind.i32 xl, Value.int IntKind.i32 xh] 25)).alloc (Obj.cells #[Value.int IntKind.i32 yl, Value.int IntKind.i32 yh] 25)).alloc (Obj.cells #[Value.int IntKind.i32 0, Value.int IntKind.i32 0] 25)) = y0.w := ⟨⟨_, Below.refl _ _⟩, rfl⟩
 have hown0 : y0.w.ownsRow (World.heap (((w.alloc (Obj.cells #[Value.int IntKind.i32 xl, Value.int IntKind.i32 xh] 25)).alloc (Obj.cells #[Value.int IntKind.i32 yl, Value.int IntKind.i32 yh] 25)).alloc (Obj.cells #[Value.int IntKind.i32 0, Value.int IntKind.i32 0] 25))).size 2 1 (.slice none 0 0) 0 [] := ⟨rfl, .inl ⟨rfl, rfl⟩⟩
 rw [hy0]
 clear hy0
 refine wp_loop_rounds 3 ?_
 rw [rounds_succ]
 go_wp2_with fail
 refine wp_loop_rounds 3 ?_
 rw [rounds_succ]
 go_wp2_with (at_builtin; refine wpList_append_own _ rfl (.tmp 49) (.tmp 53) 156 rfl (World.heap (((w.alloc (Obj.cells #[Value.int IntKind.i32 xl, Value.int IntKind.i32 xh] 25)).alloc (Obj.cells #[Value.int IntKind.i32 yl, Value.int IntKind.i32 yh] 25)).alloc (Obj.cells #[Value.int IntKind.i32 0, Value.int IntKind.i32 0] 25))).size 2 i0 (.int .i64 0) 1 8 Tryd.underlying156 hi hz0 hz1 hz2 rfl (by decide) _ _ _ rfl (hown0.alloc _) ⟨y0.w.heap.size, 0, none⟩ 1 1 [.int .i64 (xl - yl)] rfl rfl (cell_one_new _ _ _) (by simp [Value.oneCell']) (by unfold maxLen; omega) (by omega) (Ext.base_le y0 _) ?_; intro v1 w1 hown1 hgrow _)
 obtain ⟨y1, rfl⟩ := ext_grown y0 hown0 hgrow
 clear hgrow
 go_wp2_with fail
 rw [rounds_succ]
 go_wp2_with (at_builtin; refine wpList_append_own _ rfl (.tmp 49) (.tmp 53) 156 rfl (World.heap (((w.alloc (Obj.cells #[Value.int IntKind.i32 xl, Value.int IntKind.i32 xh] 25)).alloc (Obj.cells #[Value.int IntKind.i32 yl, Value.int IntKind.i32 yh] 25)).alloc (Obj.cells #[Value.int IntKind.i32 0, Value.int IntKind.i32 0] 25))).size 2 i0 (.int .i64 0) 1 8 Tryd.underlying156 hi hz0 hz1 hz2 rfl (by decide) _ _ _ rfl (hown1.alloc _) ⟨y1.w.heap.size, 0, none⟩ 1 1 [.int .i64 (xl - yh)] rfl rfl (cell_one_new _ _ _) (by simp [Value.oneCell']) (by unfold maxLen; omega) (by omega) (Ext.base_le y1 _) ?_; intro v2 w1 hown2 hgrow _)
 obtain ⟨y2, rfl⟩ := ext_grown y1 hown1 hgrow
 clear hgrow
 go_wp2_with fail
 rw [rounds_succ]
 go_wp2_with fail
 rw [rounds_succ]
 go_wp2_with fail
 refine wp_loop_rounds 3 ?_
 rw [rounds_succ]
 go_wp2_with (at_builtin; refine wpList_append_own _ rfl (.tmp 49) (.tmp 53) 156 rfl (World.heap (((w.alloc (Obj.cells #[Value.int IntKind.i32 xl, Value.int IntKind.i32 xh] 25)).alloc (Obj.cells #[Value.int IntKind.i32 yl, Value.int IntKind.i32 yh] 25)).alloc (Obj.cells #[Value.int IntKind.i32 0, Value.int IntKind.i32 0] 25))).size 2 i0 (.int .i64 0) 1 8 Tryd.underlying156 hi hz0 hz1 hz2 rfl (by decide) _ _ _ rfl (hown2.alloc _) ⟨y2.w.heap.size, 0, none⟩ 1 1 [.int .i64 (xh - yl)] rfl rfl (cell_one_new _ _ _) (by simp [Value.oneCell']) (by unfold maxLen; omega) (by omega) (Ext.base_le y2 _) ?_; intro v3 w1 hown3 hgrow _)
 obtain ⟨y3, rfl⟩ := ext_grown y2 hown2 hgrow
 clear hgrow
 go_wp2_with fail
 rw [rounds_succ]
 go_wp2_with (at_builtin; refine wpList_append_own _ rfl (.tmp 49) (.tmp 53) 156 rfl (World.heap (((w.alloc (Obj.cells #[Value.int IntKind.i32 xl, Value.int IntKind.i32 xh] 25)).alloc (Obj.cells #[Value.int IntKind.i32 yl, Value.int IntKind.i32 yh] 25)).alloc (Obj.cells #[Value.int IntKind.i32 0, Value.int IntKind.i32 0] 25))).size 2 i0 (.int .i64 0) 1 8 Tryd.underlying156 hi hz0 hz1 hz2 rfl (by decide) _ _ _ rfl (hown3.alloc _) ⟨y3.w.heap.size, 0, none⟩ 1 1 [.int .i64 (xh - yh)] rfl rfl (cell_one_new _ _ _) (by simp [Value.oneCell']) (by unfold maxLen; omega) (by omega) (Ext.base_le y3 _) ?_; intro v4 w1 hown4 hgrow _)
 obtain ⟨y4, rfl⟩ := ext_grown y3 hown3 hgrow
 clear hgrow
 go_wp2_with fail
 rw [rounds_succ]
 go_wp2_with fail
 rw [rounds_succ]
 go_wp2_with fail
 obtain ⟨g, cap, hv, hg, hc⟩ := own_ints (l := [xl - yl, xl - yh, xh - yl, xh - yh]) rfl (by simpa using hown4) (by simp)
 rw [hv]
 clear hv hown0 hown1 hown2 hown3 hown4
 refine (Calls.extq (hull_any g cap [xl - yl, xl - yh, xh - yl, xh - yh] y4.w (by simp) (by simp) hg hc)).mono ?_
 rintro e _ ⟨rfl, y5, rfl⟩
 clear hc
 go_wp2
 all_goals
  refine bodyPost_ret (v := .agg #[.int .i32 (hullL [xl - yl, xl - yh, xh - yl, xh - yh]).1, .int .i32 (hullL [xl - yl, xl - yh, xh - yl, xh - yh]).2]) ?hr rfl ⟨rfl, ?bel⟩
  case hr =>
   simp [results, Tryd.results66, go_sem]
  case bel =>
   (repeat (first | exact Below.refl _ _ | refine Below.setCell ?_ ?_ _ | refine Ext.below ?_ ?_ _ | refine Below.alloc ?_ ?_ _)) <;> (first | (simp; done) | (simp; omega) | omega)
set_option maxHeartbeats 2000000 in
theorem linear_8 (xl xh yl yh : Int) (w : World) (hx1 : -2147483648 ≤ xl) (hx2 : xl ≤ 2147483647) (hx3 : -2147483648 ≤ xh) (hx4 : xh ≤ 2147483647) (hy1 : -2147483648 ≤ yl) (hy2 : yl ≤ 2147483647) (hy3 : -2147483648 ≤ yh) (hy4 : yh ≤ 2147483647) :
  Calls Tryd.prog 66 #[.int .u8 8, .agg #[.int .i32 xl, .int .i32 xh], .agg #[.int .i32 yl, .int .i32 yh]] w fun e w' => e = .returned (.agg #[.int .i32 (hullL [xl * yl, xl * yh, xh * yl, xh * yh]).1, .int .i32 (hullL [xl * yl, xl * yh, xh * yl, xh * yh]).2]) ∧ Below w.heap.size w w' := by
 obtain ⟨i0, hi, hz0, hz1, hz2⟩ := info_parts info2
 have i0f := ix0
 have i1f := ix1
 obtain ⟨p0, q0⟩ := mul_word (x := xl) (y := yl) (by omega) (by omega) (by omega) (by omega)
 obtain ⟨p1, q1⟩ := mul_word (x := xl) (y := yh) (by omega) (by omega) (by omega) (by omega)
 obtain ⟨p2, q2⟩ := mul_word (x := xh) (y := yl) (by omega) (by omega) (by omega) (by omega)
 obtain ⟨p3, q3⟩ := mul_word (x := xh) (y := yh) (by omega) (by omega) (by omega) (by omega)
 go_enter Tryd.func66, Tryd.ntmps66
 go_wp2_with fail
 obtain ⟨y0, hy0⟩ : ∃ y0 : Ext (((w.alloc (Obj.cells #[Value.int IntKind.i32 xl, Value.int IntKind.i32 xh] 25)).alloc (Obj.cells #[Value.int IntKind.i32 yl, Value.int IntKind.i32 yh] 25)).alloc (Obj.cells #[Value.int IntKind.i32 0, Value.int IntKind.i32 0] 25)), (((w.alloc (Obj.cells #[Value.int IntKind.i32 xl, Value.int IntKind.i32 xh] 25)).alloc (Obj.cells #[Value.int IntKind.i32 yl, Value.int IntKind.i32 yh] 25)).alloc (Obj.cells #[Value.int IntKind.i32 0, Value.int IntKind.i32 0] 25)) = y0.w := ⟨⟨_, Below.refl _ _⟩, rfl⟩
 have hown0 : y0.w.ownsRow (World.heap (((w.alloc (Obj.cells #[Value.int IntKind.i32 xl, Value.int IntKind.i32 xh] 25)).alloc (Obj.cells #[Value.int IntKind.i32 yl, Value.int IntKind.i32 yh] 25)).alloc (Obj.cells #[Value.int IntKind.i32 0, Value.int IntKind.i32 0] 25))).size 2 1 (.slice none 0 0) 0 [] := ⟨rfl, .inl ⟨rfl, rfl⟩⟩
 rw [hy0]
 clear hy0
 refine wp_loop_rounds 3 ?_
 rw [rounds_succ]
 go_wp2_with fail
 refine wp_loop_rounds 3 ?_
 rw [rounds_succ]
 go_wp2_with (at_builtin; refine wpList_append_own _ rfl (.tmp 33) (.tmp 37) 156 rfl (World.heap (((w.alloc (Obj.cells #[Value.int IntKind.i32 xl, Value.int IntKind.i32 xh] 25)).alloc (Obj.cells #[Value.int IntKind.i32 yl, Value.int IntKind.i32 yh] 25)).alloc (Obj.cells #[Value.int IntKind.i32 0, Value.int IntKind.i32 0] 25))).size 2 i0 (.int .i64 0) 1 8 Tryd.underlying156 hi hz0 hz1 hz2 rfl (by decide) _ _ _ rfl (hown0.alloc _) ⟨y0.w.heap.size, 0, none⟩ 1 1 [.int .i64 (xl * yl)] rfl rfl (cell_one_new _ _ _) (by simp [Value.oneCell']) (by unfold maxLen; omega) (by omega) (Ext.base_le y0 _) ?_; intro v1 w1 hown1 hgrow _)
 obtain ⟨y1, rfl⟩ := ext_grown y0 hown0 hgrow
 clear hgrow
 go_wp2_with fail
 rw [rounds_succ]
 go_wp2_with (at_builtin; refine wpList_append_own _ rfl (.tmp 33) (.tmp 37) 156 rfl (World.heap (((w.alloc (Obj.cells #[Value.int IntKind.i32 xl, Value.int IntKind.i32 xh] 25)).alloc (Obj.cells #[Value.int IntKind.i32 yl, Value.int IntKind.i32 yh] 25)).alloc (Obj.cells #[Value.int IntKind.i32 0, Value.int IntKind.i32 0] 25))).size 2 i0 (.int .i64 0) 1 8 Tryd.underlying156 hi hz0 hz1 hz2 rfl (by decide) _ _ _ rfl (hown1.alloc _) ⟨y1.w.heap.size, 0, none⟩ 1 1 [.int .i64 (xl * yh)] rfl rfl (cell_one_new _ _ _) (by simp [Value.oneCell']) (by unfold maxLen; omega) (by omega) (Ext.base_le y1 _) ?_; intro v2 w1 hown2 hgrow _)
 obtain ⟨y2, rfl⟩ := ext_grown y1 hown1 hgrow
 clear hgrow
 go_wp2_with fail
 rw [rounds_succ]
 go_wp2_with fail
 rw [rounds_succ]
 go_wp2_with fail
 refine wp_loop_rounds 3 ?_
 rw [rounds_succ]
 go_wp2_with (at_builtin; refine wpList_append_own _ rfl (.tmp 33) (.tmp 37) 156 rfl (World.heap (((w.alloc (Obj.cells #[Value.int IntKind.i32 xl, Value.int IntKind.i32 xh] 25)).alloc (Obj.cells #[Value.int IntKind.i32 yl, Value.int IntKind.i32 yh] 25)).alloc (Obj.cells #[Value.int IntKind.i32 0, Value.int IntKind.i32 0] 25))).size 2 i0 (.int .i64 0) 1 8 Tryd.underlying156 hi hz0 hz1 hz2 rfl (by decide) _ _ _ rfl (hown2.alloc _) ⟨y2.w.heap.size, 0, none⟩ 1 1 [.int .i64 (xh * yl)] rfl rfl (cell_one_new _ _ _) (by simp [Value.oneCell']) (by unfold maxLen; omega) (by omega) (Ext.base_le y2 _) ?_; intro v3 w1 hown3 hgrow _)
 obtain ⟨y3, rfl⟩ := ext_grown y2 hown2 hgrow
 clear hgrow
 go_wp2_with fail
 rw [rounds_succ]
 go_wp2_with (at_builtin; refine wpList_append_own _ rfl (.tmp 33) (.tmp 37) 156 rfl (World.heap (((w.alloc (Obj.cells #[Value.int IntKind.i32 xl, Value.int IntKind.i32 xh] 25)).alloc (Obj.cells #[Value.int IntKind.i32 yl, Value.int IntKind.i32 yh] 25)).alloc (Obj.cells #[Value.int IntKind.i32 0, Value.int IntKind.i32 0] 25))).size 2 i0 (.int .i64 0) 1 8 Tryd.underlying156 hi hz0 hz1 hz2 rfl (by decide) _ _ _ rfl (hown3.alloc _) ⟨y3.w.heap.size, 0, none⟩ 1 1 [.int .i64 (xh * yh)] rfl rfl (cell_one_new _ _ _) (by simp [Value.oneCell']) (by unfold maxLen; omega) (by omega) (Ext.base_le y3 _) ?_; intro v4 w1 hown4 hgrow _)
 obtain ⟨y4, rfl⟩ := ext_grown y3 hown3 hgrow
 clear hgrow
 go_wp2_with fail
 rw [rounds_succ]
 go_wp2_with fail
 rw [rounds_succ]
 go_wp2_with fail
 obtain ⟨g, cap, hv, hg, hc⟩ := own_ints (l := [xl * yl, xl * yh, xh * yl, xh * yh]) rfl (by simpa using hown4) (by simp)
 rw [hv]
 clear hv hown0 hown1 hown2 hown3 hown4
 refine (Calls.extq (hull_any g cap [xl * yl, xl * yh, xh * yl, xh * yh] y4.w (by simp) (by simp) hg hc)).mono ?_
 rintro e _ ⟨rfl, y5, rfl⟩
 clear hc
 go_wp2
 all_goals
  refine bodyPost_ret (v := .agg #[.int .i32 (hullL [xl * yl, xl * yh, xh * yl, xh * yh]).1, .int .i32 (hullL [xl * yl, xl * yh, xh * yl, xh * yh]).2]) ?hr rfl ⟨rfl, ?bel⟩
  case hr =>
   simp [results, Tryd.results66, go_sem]
  case bel =>
   (repeat (first | exact Below.refl _ _ | refine Below.setCell ?_ ?_ _ | refine Ext.below ?_ ?_ _ | refine Below.alloc ?_ ?_ _)) <;> (first | (simp; done) | (simp; omega) | omega)

end Go.Proofs.YtebklpnkcicpjaaDoor

namespace Go.Proofs.YtebklpnkcicpjaaDoor
open Go.RowKit

theorem eqIn_int {P : Program} (d : Nat) {t : TypeId} {k : IntKind} (h : P.underlying t = some (.int k)) (a b : Int) (w : World) : (Op.equalIn (d + 1) t (.int k a) (.int k b)).run P w = .ok (a == b) w := by
 simp [Op.equalIn, run_underlying h]
theorem part0 (a b : Int) (w : World) : (part 21 #[.int .i32 a, .int .i32 b] 0).run Tryd.prog w = .ok (.int .i32 a) w := by kernel_rfl
theorem part1 (a b : Int) (w : World) : (part 21 #[.int .i32 a, .int .i32 b] 1).run Tryd.prog w = .ok (.int .i32 b) w := by kernel_rfl
theorem eqIn_iv (d : Nat) (a b c e : Int) (w : World) : (Op.equalIn (d + 1 + 1) 25 (.agg #[.int .i32 a, .int .i32 b]) (.agg #[.int .i32 c, .int .i32 e])).run Tryd.prog w = .ok (a == c && b == e) w := by
 rw [Op.equalIn]
 simp [run_underlying Tryd.underlying25, eqIn_int d Tryd.underlying21, part0, part1, Sem.run_bind]
 by_cases h1 : a = c <;> by_cases h2 : b = e <;> simp [h1, h2]
theorem eq_iv (a b c d : Int) (w : World) : (binOp .eql 25 (.agg #[.int .i32 a, .int .i32 b]) (.agg #[.int .i32 c, .int .i32 d])).run Tryd.prog w = .ok (.bool (a == c && b == d)) w := by
 simp only [binOp]
 simp [Op.equal, Op.maxDepth, eqIn_iv 9998]
end Go.Proofs.YtebklpnkcicpjaaDoor

namespace Go.Proofs.YtebklpnkcicpjaaDoor
open Go.RowKit

def modM (y : Int × Int) : Int := max (max (max (-y.1) y.1) (-y.2)) y.2 - 1
def modI (x y : Int × Int) : Int × Int := if y.1 = 0 ∧ y.2 = 0 then (1, 0) else (if x.1 < 0 then max x.1 (-modM y) else 0, if 0 < x.2 then min x.2 (modM y) else 0)

theorem max4 (a b c d : Int) (w : World) : (Builtin.max_ #[2, 2, 2, 2] 2 #[.int .i64 a, .int .i64 b, .int .i64 c, .int .i64 d]).run Tryd.prog w = .ok (.int .i64 (max (max (max a b) c) d)) w := by
 have m2 : ∀ (x y : Int) (w : World), (Builtin.max2 (.int .i64 x) (.int .i64 y)).run Tryd.prog w = .ok (.int .i64 (max x y)) w := by
  intro x y w
  simp only [Builtin.max2]
  by_cases h : x < y
  ·simp [h]; omega
  ·simp [h]; omega
 simp [Builtin.max_, m2]

set_option maxHeartbeats 1000000 in
theorem modulo_zero (xl xh : Int) (w : World) :
  Calls Tryd.prog 68 #[.agg #[.int .i32 xl, .int .i32 xh], .agg #[.int .i32 0, .int .i32 0]] w fun e w' => e = .returned (.agg #[.int .i32 (modI (xl, xh) (0, 0)).1, .int .i32 (modI (xl, xh) (0, 0)).2]) ∧ Below w.heap.size w w' := by
 have HF := Lib.hid (show modI (xl, xh) (0, 0) = (1, 0) from rfl)
 have he := eq_iv
 go_enter Tryd.func68, Tryd.ntmps68
 go_wp2_with fail
 refine wp_region_ext (by kernel_rfl) (by kernel_rfl) ?_
 repeat (go_big_quiet_step (exact Calls.extq (of_any _ _)))
 refine wpQuiet_nil ?_
 rintro _ ⟨x1, rfl⟩
 go_wp2_with fail
 refine (Calls.extq (empty_any _)).mono ?_
 rintro e _ ⟨rfl, y, rfl⟩
 go_wp2
 all_goals
  refine bodyPost_ret (v := .agg #[.int .i32 (modI (xl, xh) (0, 0)).1, .int .i32 (modI (xl, xh) (0, 0)).2]) ?hr rfl ⟨rfl, ?bel⟩
  case hr =>
   simp [results, Tryd.results68, go_sem]
   rw [HF.out]
   constructor <;> rfl
  case bel =>
   (repeat (first | exact Below.refl _ _ | refine Below.setCell ?_ ?_ _ | refine Ext.below ?_ ?_ _ | refine Below.alloc ?_ ?_ _)) <;> (first | (simp; done) | (simp; omega) | omega)
set_option maxHeartbeats 1000000 in
theorem modulo_some (xl xh yl yh : Int) (w : World) (hx1 : -2147483648 ≤ xl) (hx2 : xl ≤ 2147483647) (hx3 : -2147483648 ≤ xh) (hx4 : xh ≤ 2147483647) (hy1 : -2147483648 ≤ yl) (hy2 : yl ≤ 2147483647) (hy3 : -2147483648 ≤ yh) (hy4 : yh ≤ 2147483647) (hy0 : yl ≤ yh) (hne : (yl == 0 && yh == 0) = false) :
  Calls Tryd.prog 68 #[.agg #[.int .i32 xl, .int .i32 xh], .agg #[.int .i32 yl, .int .i32 yh]] w fun e w' => e = .returned (.agg #[.int .i32 (modI (xl, xh) (yl, yh)).1, .int .i32 (modI (xl, xh) (yl, yh)).2]) ∧ Below w.heap.size w w' := by
 have hz : ¬ (yl = 0 ∧ yh = 0) := by simpa using hne
 have hf : modI (xl, xh) (yl, yh) = (if xl < 0 then max xl (-modM (yl, yh)) else 0, if 0 < xh then min xh (modM (yl, yh)) else 0) := by unfold modI; rw [if_neg hz]
 have hm : max (max (max (-yl) yl) (-yh)) yh - 1 = modM (yl, yh) := rfl
 have HF := Lib.hid hf
 have hM0 : 0 ≤ modM (yl, yh) := by rw [← hm]; omega
 have hM1 : modM (yl, yh) ≤ 2147483647 := by rw [← hm]; omega
 have he := eq_iv
 have h4 := max4
 have HM := Lib.hid hm
 clear hz hf hm
 go_enter Tryd.func68, Tryd.ntmps68
 go_wp2_with fail
 refine wp_region_ext (by kernel_rfl) (by kernel_rfl) ?_
 repeat (go_big_quiet_step (exact Calls.extq (of_any _ _)))
 refine wpQuiet_nil ?_
 rintro _ ⟨x1, rfl⟩
 go_wp2_with fail
 all_goals
  refine bodyPost_ret (v := .agg #[.int .i32 (modI (xl, xh) (yl, yh)).1, .int .i32 (modI (xl, xh) (yl, yh)).2]) ?hr rfl ⟨rfl, ?bel⟩
  case hr =>
   simp [results, Tryd.results68, go_sem]
   rw [HF.out]
   have hm := HM.out
   constructor <;> dsimp only <;> split <;> omega
  case bel =>
   (repeat (first | exact Below.refl _ _ | refine Below.setCell ?_ ?_ _ | refine Ext.below ?_ ?_ _ | refine Below.alloc ?_ ?_ _)) <;> (first | (simp; done) | (simp; omega) | omega)
theorem modulo_any (xl xh yl yh : Int) (w : World) (hx1 : -2147483648 ≤ xl) (hx2 : xl ≤ 2147483647) (hx3 : -2147483648 ≤ xh) (hx4 : xh ≤ 2147483647) (hy1 : -2147483648 ≤ yl) (hy2 : yl ≤ 2147483647) (hy3 : -2147483648 ≤ yh) (hy4 : yh ≤ 2147483647) (hy0 : yl ≤ yh) :
  Calls Tryd.prog 68 #[.agg #[.int .i32 xl, .int .i32 xh], .agg #[.int .i32 yl, .int .i32 yh]] w fun e w' => e = .returned (.agg #[.int .i32 (modI (xl, xh) (yl, yh)).1, .int .i32 (modI (xl, xh) (yl, yh)).2]) ∧ Below w.heap.size w w' := by
 by_cases h0 : yl = 0 ∧ yh = 0
 ·obtain ⟨rfl, rfl⟩ := h0
  exact modulo_zero xl xh w
 ·exact modulo_some xl xh yl yh w hx1 hx2 hx3 hx4 hy1 hy2 hy3 hy4 hy0 (by simpa using h0)

end Go.Proofs.YtebklpnkcicpjaaDoor

namespace Go.Proofs.YtebklpnkcicpjaaDoor
open Go.RowKit

set_option maxRecDepth 100000 in
set_option maxHeartbeats 1000000 in
theorem apply_6_n (xl xh yl yh : Int) (w : World) (hx1 : -2147483648 ≤ xl) (hx2 : xl ≤ 2147483647) (hx3 : -2147483648 ≤ xh) (hx4 : xh ≤ 2147483647) (hy1 : -2147483648 ≤ yl) (hy2 : yl ≤ 2147483647) (hy3 : -2147483648 ≤ yh) (hy4 : yh ≤ 2147483647) (hxe : xl ≤ xh) (hye : yl ≤ yh) (hs : (xl == xh) = false) :
  Calls Tryd.prog 47 #[.int .u8 6, .agg #[.int .i32 xl, .int .i32 xh], .agg #[.int .i32 yl, .int .i32 yh]] w fun e w' => e = .returned (.agg #[.int .i32 (hullL [xl + yl, xl + yh, xh + yl, xh + yh]).1, .int .i32 (hullL [xl + yl, xl + yh, xh + yl, xh + yh]).2]) ∧ Below w.heap.size w w' := by
 have d1 : decide (xh < xl) = false := by simp; omega
 have d2 : decide (yh < yl) = false := by simp; omega
 go_enter Tryd.func47, Tryd.ntmps47
 go_wp2_with (first | (go_at_call 39; ((first | (with_reducible refine (Calls.extq (isEmpty_any _ _ _)).mono ?_) | (refine (Calls.ext (isEmpty_any _ _ _)).mono ?_)); rintro e _ ⟨rfl, y, rfl⟩)) | (go_at_call 64; ((first | (with_reducible refine (Calls.extq (single_any _ _ _)).mono ?_) | (refine (Calls.ext (single_any _ _ _)).mono ?_)); rintro e _ ⟨rfl, y, rfl⟩)) | (go_at_call 66; ((first | (with_reducible refine (Calls.extq (linear_6 _ _ _ _ _ hx1 hx2 hx3 hx4 hy1 hy2 hy3 hy4)).mono ?_) | (refine (Calls.ext (linear_6 _ _ _ _ _ hx1 hx2 hx3 hx4 hy1 hy2 hy3 hy4)).mono ?_)); rintro e _ ⟨rfl, y, rfl⟩)))
 all_goals
  refine bodyPost_ret (v := .agg #[.int .i32 (hullL [xl + yl, xl + yh, xh + yl, xh + yh]).1, .int .i32 (hullL [xl + yl, xl + yh, xh + yl, xh + yh]).2]) ?hr rfl ⟨rfl, ?bel⟩
  case hr =>
   simp [results, Tryd.results47, go_sem]
  case bel =>
   (repeat (first | exact Below.refl _ _ | refine Below.setCell ?_ ?_ _ | refine Ext.below ?_ ?_ _ | refine Below.alloc ?_ ?_ _)) <;> (first | (simp; done) | (simp; omega) | omega)
set_option maxRecDepth 100000 in
set_option maxHeartbeats 1000000 in
theorem apply_6_s (xl xh yl yh : Int) (w : World) (hx1 : -2147483648 ≤ xl) (hx2 : xl ≤ 2147483647) (hx3 : -2147483648 ≤ xh) (hx4 : xh ≤ 2147483647) (hy1 : -2147483648 ≤ yl) (hy2 : yl ≤ 2147483647) (hy3 : -2147483648 ≤ yh) (hy4 : yh ≤ 2147483647) (hxe : xl ≤ xh) (hye : yl ≤ yh) (hs : (xl == xh) = true) (hs' : (yl == yh) = false) :
  Calls Tryd.prog 47 #[.int .u8 6, .agg #[.int .i32 xl, .int .i32 xh], .agg #[.int .i32 yl, .int .i32 yh]] w fun e w' => e = .returned (.agg #[.int .i32 (hullL [xl + yl, xl + yh, xh + yl, xh + yh]).1, .int .i32 (hullL [xl + yl, xl + yh, xh + yl, xh + yh]).2]) ∧ Below w.heap.size w w' := by
 have d1 : decide (xh < xl) = false := by simp; omega
 have d2 : decide (yh < yl) = false := by simp; omega
 go_enter Tryd.func47, Tryd.ntmps47
 go_wp2_with (first | (go_at_call 39; ((first | (with_reducible refine (Calls.extq (isEmpty_any _ _ _)).mono ?_) | (refine (Calls.ext (isEmpty_any _ _ _)).mono ?_)); rintro e _ ⟨rfl, y, rfl⟩)) | (go_at_call 64; ((first | (with_reducible refine (Calls.extq (single_any _ _ _)).mono ?_) | (refine (Calls.ext (single_any _ _ _)).mono ?_)); rintro e _ ⟨rfl, y, rfl⟩)) | (go_at_call 66; ((first | (with_reducible refine (Calls.extq (linear_6 _ _ _ _ _ hx1 hx2 hx3 hx4 hy1 hy2 hy3 hy4)).mono ?_) | (refine (Calls.ext (linear_6 _ _ _ _ _ hx1 hx2 hx3 hx4 hy1 hy2 hy3 hy4)).mono ?_)); rintro e _ ⟨rfl, y, rfl⟩)))
 all_goals
  refine bodyPost_ret (v := .agg #[.int .i32 (hullL [xl + yl, xl + yh, xh + yl, xh + yh]).1, .int .i32 (hullL [xl + yl, xl + yh, xh + yl, xh + yh]).2]) ?hr rfl ⟨rfl, ?bel⟩
  case hr =>
   simp [results, Tryd.results47, go_sem]
  case bel =>
   (repeat (first | exact Below.refl _ _ | refine Below.setCell ?_ ?_ _ | refine Ext.below ?_ ?_ _ | refine Below.alloc ?_ ?_ _)) <;> (first | (simp; done) | (simp; omega) | omega)
theorem apply_6 (xl xh yl yh : Int) (w : World) (hx1 : -2147483648 ≤ xl) (hx2 : xl ≤ 2147483647) (hx3 : -2147483648 ≤ xh) (hx4 : xh ≤ 2147483647) (hy1 : -2147483648 ≤ yl) (hy2 : yl ≤ 2147483647) (hy3 : -2147483648 ≤ yh) (hy4 : yh ≤ 2147483647) (hxe : xl ≤ xh) (hye : yl ≤ yh) (hs : ¬ (xl = xh ∧ yl = yh)) :
  Calls Tryd.prog 47 #[.int .u8 6, .agg #[.int .i32 xl, .int .i32 xh], .agg #[.int .i32 yl, .int .i32 yh]] w fun e w' => e = .returned (.agg #[.int .i32 (hullL [xl + yl, xl + yh, xh + yl, xh + yh]).1, .int .i32 (hullL [xl + yl, xl + yh, xh + yl, xh + yh]).2]) ∧ Below w.heap.size w w' := by
 by_cases h : xl = xh
 ·exact apply_6_s xl xh yl yh w hx1 hx2 hx3 hx4 hy1 hy2 hy3 hy4 hxe hye (by simpa using h) (by simp; omega)
 ·exact apply_6_n xl xh yl yh w hx1 hx2 hx3 hx4 hy1 hy2 hy3 hy4 hxe hye (by simpa using h)

set_option maxRecDepth 100000 in
set_option maxHeartbeats 1000000 in
theorem apply_7_n (xl xh yl yh : Int) (w : World) (hx1 : -2147483648 ≤ xl) (hx2 : xl ≤ 2147483647) (hx3 : -2147483648 ≤ xh) (hx4 : xh ≤ 2147483647) (hy1 : -2147483648 ≤ yl) (hy2 : yl ≤ 2147483647) (hy3 : -2147483648 ≤ yh) (hy4 : yh ≤ 2147483647) (hxe : xl ≤ xh) (hye : yl ≤ yh) (hs : (xl == xh) = false) :
  Calls Tryd.prog 47 #[.int .u8 7, .agg #[.int .i32 xl, .int .i32 xh], .agg #[.int .i32 yl, .int .i32 yh]] w fun e w' => e = .returned (.agg #[.int .i32 (hullL [xl - yl, xl - yh, xh - yl, xh - yh]).1, .int .i32 (hullL [xl - yl, xl - yh, xh - yl, xh - yh]).2]) ∧ Below w.heap.size w w' := by
 have d1 : decide (xh < xl) = false := by simp; omega
 have d2 : decide (yh < yl) = false := by simp; omega
 go_enter Tryd.func47, Tryd.ntmps47
 go_wp2_with (first | (go_at_call 39; ((first | (with_reducible refine (Calls.extq (isEmpty_any _ _ _)).mono ?_) | (refine (Calls.ext (isEmpty_any _ _ _)).mono ?_)); rintro e _ ⟨rfl, y, rfl⟩)) | (go_at_call 64; ((first | (with_reducible refine (Calls.extq (single_any _ _ _)).mono ?_) | (refine (Calls.ext (single_any _ _ _)).mono ?_)); rintro e _ ⟨rfl, y, rfl⟩)) | (go_at_call 66; ((first | (with_reducible refine (Calls.extq (linear_7 _ _ _ _ _ hx1 hx2 hx3 hx4 hy1 hy2 hy3 hy4)).mono ?_) | (refine (Calls.ext (linear_7 _ _ _ _ _ hx1 hx2 hx3 hx4 hy1 hy2 hy3 hy4)).mono ?_)); rintro e _ ⟨rfl, y, rfl⟩)))
 all_goals
  refine bodyPost_ret (v := .agg #[.int .i32 (hullL [xl - yl, xl - yh, xh - yl, xh - yh]).1, .int .i32 (hullL [xl - yl, xl - yh, xh - yl, xh - yh]).2]) ?hr rfl ⟨rfl, ?bel⟩
  case hr =>
   simp [results, Tryd.results47, go_sem]
  case bel =>
   (repeat (first | exact Below.refl _ _ | refine Below.setCell ?_ ?_ _ | refine Ext.below ?_ ?_ _ | refine Below.alloc ?_ ?_ _)) <;> (first | (simp; done) | (simp; omega) | omega)
set_option maxRecDepth 100000 in
set_option maxHeartbeats 1000000 in
theorem apply_7_s (xl xh yl yh : Int) (w : World) (hx1 : -2147483648 ≤ xl) (hx2 : xl ≤ 2147483647) (hx3 : -2147483648 ≤ xh) (hx4 : xh ≤ 2147483647) (hy1 : -2147483648 ≤ yl) (hy2 : yl ≤ 2147483647) (hy3 : -2147483648 ≤ yh) (hy4 : yh ≤ 2147483647) (hxe : xl ≤ xh) (hye : yl ≤ yh) (hs : (xl == xh) = true) (hs' : (yl == yh) = false) :
  Calls Tryd.prog 47 #[.int .u8 7, .agg #[.int .i32 xl, .int .i32 xh], .agg #[.int .i32 yl, .int .i32 yh]] w fun e w' => e = .returned (.agg #[.int .i32 (hullL [xl - yl, xl - yh, xh - yl, xh - yh]).1, .int .i32 (hullL [xl - yl, xl - yh, xh - yl, xh - yh]).2]) ∧ Below w.heap.size w w' := by
 have d1 : decide (xh < xl) = false := by simp; omega
 have d2 : decide (yh < yl) = false := by simp; omega
 go_enter Tryd.func47, Tryd.ntmps47
 go_wp2_with (first | (go_at_call 39; ((first | (with_reducible refine (Calls.extq (isEmpty_any _ _ _)).mono ?_) | (refine (Calls.ext (isEmpty_any _ _ _)).mono ?_)); rintro e _ ⟨rfl, y, rfl⟩)) | (go_at_call 64; ((first | (with_reducible refine (Calls.extq (single_any _ _ _)).mono ?_) | (refine (Calls.ext (single_any _ _ _)).mono ?_)); rintro e _ ⟨rfl, y, rfl⟩)) | (go_at_call 66; ((first | (with_reducible refine (Calls.extq (linear_7 _ _ _ _ _ hx1 hx2 hx3 hx4 hy1 hy2 hy3 hy4)).mono ?_) | (refine (Calls.ext (linear_7 _ _ _ _ _ hx1 hx2 hx3 hx4 hy1 hy2 hy3 hy4)).mono ?_)); rintro e _ ⟨rfl, y, rfl⟩)))
 all_goals
  refine bodyPost_ret (v := .agg #[.int .i32 (hullL [xl - yl, xl - yh, xh - yl, xh - yh]).1, .int .i32 (hullL [xl - yl, xl - yh, xh - yl, xh - yh]).2]) ?hr rfl ⟨rfl, ?bel⟩
  case hr =>
   simp [results, Tryd.results47, go_sem]
  case bel =>
   (repeat (first | exact Below.refl _ _ | refine Below.setCell ?_ ?_ _ | refine Ext.below ?_ ?_ _ | refine Below.alloc ?_ ?_ _)) <;> (first | (simp; done) | (simp; omega) | omega)
theorem apply_7 (xl xh yl yh : Int) (w : World) (hx1 : -2147483648 ≤ xl) (hx2 : xl ≤ 2147483647) (hx3 : -2147483648 ≤ xh) (hx4 : xh ≤ 2147483647) (hy1 : -2147483648 ≤ yl) (hy2 : yl ≤ 2147483647) (hy3 : -2147483648 ≤ yh) (hy4 : yh ≤ 2147483647) (hxe : xl ≤ xh) (hye : yl ≤ yh) (hs : ¬ (xl = xh ∧ yl = yh)) :
  Calls Tryd.prog 47 #[.int .u8 7, .agg #[.int .i32 xl, .int .i32 xh], .agg #[.int .i32 yl, .int .i32 yh]] w fun e w' => e = .returned (.agg #[.int .i32 (hullL [xl - yl, xl - yh, xh - yl, xh - yh]).1, .int .i32 (hullL [xl - yl, xl - yh, xh - yl, xh - yh]).2]) ∧ Below w.heap.size w w' := by
 by_cases h : xl = xh
 ·exact apply_7_s xl xh yl yh w hx1 hx2 hx3 hx4 hy1 hy2 hy3 hy4 hxe hye (by simpa using h) (by simp; omega)
 ·exact apply_7_n xl xh yl yh w hx1 hx2 hx3 hx4 hy1 hy2 hy3 hy4 hxe hye (by simpa using h)

set_option maxRecDepth 100000 in
set_option maxHeartbeats 1000000 in
theorem apply_8_n (xl xh yl yh : Int) (w : World) (hx1 : -2147483648 ≤ xl) (hx2 : xl ≤ 2147483647) (hx3 : -2147483648 ≤ xh) (hx4 : xh ≤ 2147483647) (hy1 : -2147483648 ≤ yl) (hy2 : yl ≤ 2147483647) (hy3 : -2147483648 ≤ yh) (hy4 : yh ≤ 2147483647) (hxe : xl ≤ xh) (hye : yl ≤ yh) (hs : (xl == xh) = false) :
  Calls Tryd.prog 47 #[.int .u8 8, .agg #[.int .i32 xl, .int .i32 xh], .agg #[.int .i32 yl, .int .i32 yh]] w fun e w' => e = .returned (.agg #[.int .i32 (hullL [xl * yl, xl * yh, xh * yl, xh * yh]).1, .int .i32 (hullL [xl * yl, xl * yh, xh * yl, xh * yh]).2]) ∧ Below w.heap.size w w' := by
 have d1 : decide (xh < xl) = false := by simp; omega
 have d2 : decide (yh < yl) = false := by simp; omega
 go_enter Tryd.func47, Tryd.ntmps47
 go_wp2_with (first | (go_at_call 39; ((first | (with_reducible refine (Calls.extq (isEmpty_any _ _ _)).mono ?_) | (refine (Calls.ext (isEmpty_any _ _ _)).mono ?_)); rintro e _ ⟨rfl, y, rfl⟩)) | (go_at_call 64; ((first | (with_reducible refine (Calls.extq (single_any _ _ _)).mono ?_) | (refine (Calls.ext (single_any _ _ _)).mono ?_)); rintro e _ ⟨rfl, y, rfl⟩)) | (go_at_call 66; ((first | (with_reducible refine (Calls.extq (linear_8 _ _ _ _ _ hx1 hx2 hx3 hx4 hy1 hy2 hy3 hy4)).mono ?_) | (refine (Calls.ext (linear_8 _ _ _ _ _ hx1 hx2 hx3 hx4 hy1 hy2 hy3 hy4)).mono ?_)); rintro e _ ⟨rfl, y, rfl⟩)))
 all_goals
  refine bodyPost_ret (v := .agg #[.int .i32 (hullL [xl * yl, xl * yh, xh * yl, xh * yh]).1, .int .i32 (hullL [xl * yl, xl * yh, xh * yl, xh * yh]).2]) ?hr rfl ⟨rfl, ?bel⟩
  case hr =>
   simp [results, Tryd.results47, go_sem]
  case bel =>
   (repeat (first | exact Below.refl _ _ | refine Below.setCell ?_ ?_ _ | refine Ext.below ?_ ?_ _ | refine Below.alloc ?_ ?_ _)) <;> (first | (simp; done) | (simp; omega) | omega)
set_option maxRecDepth 100000 in
set_option maxHeartbeats 1000000 in
theorem apply_8_s (xl xh yl yh : Int) (w : World) (hx1 : -2147483648 ≤ xl) (hx2 : xl ≤ 2147483647) (hx3 : -2147483648 ≤ xh) (hx4 : xh ≤ 2147483647) (hy1 : -2147483648 ≤ yl) (hy2 : yl ≤ 2147483647) (hy3 : -2147483648 ≤ yh) (hy4 : yh ≤ 2147483647) (hxe : xl ≤ xh) (hye : yl ≤ yh) (hs : (xl == xh) = true) (hs' : (yl == yh) = false) :
  Calls Tryd.prog 47 #[.int .u8 8, .agg #[.int .i32 xl, .int .i32 xh], .agg #[.int .i32 yl, .int .i32 yh]] w fun e w' => e = .returned (.agg #[.int .i32 (hullL [xl * yl, xl * yh, xh * yl, xh * yh]).1, .int .i32 (hullL [xl * yl, xl * yh, xh * yl, xh * yh]).2]) ∧ Below w.heap.size w w' := by
 have d1 : decide (xh < xl) = false := by simp; omega
 have d2 : decide (yh < yl) = false := by simp; omega
 go_enter Tryd.func47, Tryd.ntmps47
 go_wp2_with (first | (go_at_call 39; ((first | (with_reducible refine (Calls.extq (isEmpty_any _ _ _)).mono ?_) | (refine (Calls.ext (isEmpty_any _ _ _)).mono ?_)); rintro e _ ⟨rfl, y, rfl⟩)) | (go_at_call 64; ((first | (with_reducible refine (Calls.extq (single_any _ _ _)).mono ?_) | (refine (Calls.ext (single_any _ _ _)).mono ?_)); rintro e _ ⟨rfl, y, rfl⟩)) | (go_at_call 66; ((first | (with_reducible refine (Calls.extq (linear_8 _ _ _ _ _ hx1 hx2 hx3 hx4 hy1 hy2 hy3 hy4)).mono ?_) | (refine (Calls.ext (linear_8 _ _ _ _ _ hx1 hx2 hx3 hx4 hy1 hy2 hy3 hy4)).mono ?_)); rintro e _ ⟨rfl, y, rfl⟩)))
 all_goals
  refine bodyPost_ret (v := .agg #[.int .i32 (hullL [xl * yl, xl * yh, xh * yl, xh * yh]).1, .int .i32 (hullL [xl * yl, xl * yh, xh * yl, xh * yh]).2]) ?hr rfl ⟨rfl, ?bel⟩
  case hr =>
   simp [results, Tryd.results47, go_sem]
  case bel =>
   (repeat (first | exact Below.refl _ _ | refine Below.setCell ?_ ?_ _ | refine Ext.below ?_ ?_ _ | refine Below.alloc ?_ ?_ _)) <;> (first | (simp; done) | (simp; omega) | omega)
theorem apply_8 (xl xh yl yh : Int) (w : World) (hx1 : -2147483648 ≤ xl) (hx2 : xl ≤ 2147483647) (hx3 : -2147483648 ≤ xh) (hx4 : xh ≤ 2147483647) (hy1 : -2147483648 ≤ yl) (hy2 : yl ≤ 2147483647) (hy3 : -2147483648 ≤ yh) (hy4 : yh ≤ 2147483647) (hxe : xl ≤ xh) (hye : yl ≤ yh) (hs : ¬ (xl = xh ∧ yl = yh)) :
  Calls Tryd.prog 47 #[.int .u8 8, .agg #[.int .i32 xl, .int .i32 xh], .agg #[.int .i32 yl, .int .i32 yh]] w fun e w' => e = .returned (.agg #[.int .i32 (hullL [xl * yl, xl * yh, xh * yl, xh * yh]).1, .int .i32 (hullL [xl * yl, xl * yh, xh * yl, xh * yh]).2]) ∧ Below w.heap.size w w' := by
 by_cases h : xl = xh
 ·exact apply_8_s xl xh yl yh w hx1 hx2 hx3 hx4 hy1 hy2 hy3 hy4 hxe hye (by simpa using h) (by simp; omega)
 ·exact apply_8_n xl xh yl yh w hx1 hx2 hx3 hx4 hy1 hy2 hy3 hy4 hxe hye (by simpa using h)

set_option maxRecDepth 100000 in
set_option maxHeartbeats 1000000 in
theorem apply_10_n (xl xh yl yh : Int) (w : World) (hx1 : -2147483648 ≤ xl) (hx2 : xl ≤ 2147483647) (hx3 : -2147483648 ≤ xh) (hx4 : xh ≤ 2147483647) (hy1 : -2147483648 ≤ yl) (hy2 : yl ≤ 2147483647) (hy3 : -2147483648 ≤ yh) (hy4 : yh ≤ 2147483647) (hxe : xl ≤ xh) (hye : yl ≤ yh) (hs : (xl == xh) = false) :
  Calls Tryd.prog 47 #[.int .u8 10, .agg #[.int .i32 xl, .int .i32 xh], .agg #[.int .i32 yl, .int .i32 yh]] w fun e w' => e = .returned (.agg #[.int .i32 (modI (xl, xh) (yl, yh)).1, .int .i32 (modI (xl, xh) (yl, yh)).2]) ∧ Below w.heap.size w w' := by
 have d1 : decide (xh < xl) = false := by simp; omega
 have d2 : decide (yh < yl) = false := by simp; omega
 go_enter Tryd.func47, Tryd.ntmps47
 go_wp2_with (first | (go_at_call 39; ((first | (with_reducible refine (Calls.extq (isEmpty_any _ _ _)).mono ?_) | (refine (Calls.ext (isEmpty_any _ _ _)).mono ?_)); rintro e _ ⟨rfl, y, rfl⟩)) | (go_at_call 64; ((first | (with_reducible refine (Calls.extq (single_any _ _ _)).mono ?_) | (refine (Calls.ext (single_any _ _ _)).mono ?_)); rintro e _ ⟨rfl, y, rfl⟩)) | (go_at_call 68; ((first | (with_reducible refine (Calls.extq (modulo_any _ _ _ _ _ hx1 hx2 hx3 hx4 hy1 hy2 hy3 hy4 hye)).mono ?_) | (refine (Calls.ext (modulo_any _ _ _ _ _ hx1 hx2 hx3 hx4 hy1 hy2 hy3 hy4 hye)).mono ?_)); rintro e _ ⟨rfl, y, rfl⟩)))
 all_goals
  refine bodyPost_ret (v := .agg #[.int .i32 (modI (xl, xh) (yl, yh)).1, .int .i32 (modI (xl, xh) (yl, yh)).2]) ?hr rfl ⟨rfl, ?bel⟩
  case hr =>
   simp [results, Tryd.results47, go_sem]
  case bel =>
   (repeat (first | exact Below.refl _ _ | refine Below.setCell ?_ ?_ _ | refine Ext.below ?_ ?_ _ | refine Below.alloc ?_ ?_ _)) <;> (first | (simp; done) | (simp; omega) | omega)
set_option maxRecDepth 100000 in
set_option maxHeartbeats 1000000 in
theorem apply_10_s (xl xh yl yh : Int) (w : World) (hx1 : -2147483648 ≤ xl) (hx2 : xl ≤ 2147483647) (hx3 : -2147483648 ≤ xh) (hx4 : xh ≤ 2147483647) (hy1 : -2147483648 ≤ yl) (hy2 : yl ≤ 2147483647) (hy3 : -2147483648 ≤ yh) (hy4 : yh ≤ 2147483647) (hxe : xl ≤ xh) (hye : yl ≤ yh) (hs : (xl == xh) = true) (hs' : (yl == yh) = false) :
  Calls Tryd.prog 47 #[.int .u8 10, .agg #[.int .i32 xl, .int .i32 xh], .agg #[.int .i32 yl, .int .i32 yh]] w fun e w' => e = .returned (.agg #[.int .i32 (modI (xl, xh) (yl, yh)).1, .int .i32 (modI (xl, xh) (yl, yh)).2]) ∧ Below w.heap.size w w' := by
 have d1 : decide (xh < xl) = false := by simp; omega
 have d2 : decide (yh < yl) = false := by simp; omega
 go_enter Tryd.func47, Tryd.ntmps47
 go_wp2_with (first | (go_at_call 39; ((first | (with_reducible refine (Calls.extq (isEmpty_any _ _ _)).mono ?_) | (refine (Calls.ext (isEmpty_any _ _ _)).mono ?_)); rintro e _ ⟨rfl, y, rfl⟩)) | (go_at_call 64; ((first | (with_reducible refine (Calls.extq (single_any _ _ _)).mono ?_) | (refine (Calls.ext (single_any _ _ _)).mono ?_)); rintro e _ ⟨rfl, y, rfl⟩)) | (go_at_call 68; ((first | (with_reducible refine (Calls.extq (modulo_any _ _ _ _ _ hx1 hx2 hx3 hx4 hy1 hy2 hy3 hy4 hye)).mono ?_) | (refine (Calls.ext (modulo_any _ _ _ _ _ hx1 hx2 hx3 hx4 hy1 hy2 hy3 hy4 hye)).mono ?_)); rintro e _ ⟨rfl, y, rfl⟩)))
 all_goals
  refine bodyPost_ret (v := .agg #[.int .i32 (modI (xl, xh) (yl, yh)).1, .int .i32 (modI (xl, xh) (yl, yh)).2]) ?hr rfl ⟨rfl, ?bel⟩
  case hr =>
   simp [results, Tryd.results47, go_sem]
  case bel =>
   (repeat (first | exact Below.refl _ _ | refine Below.setCell ?_ ?_ _ | refine Ext.below ?_ ?_ _ | refine Below.alloc ?_ ?_ _)) <;> (first | (simp; done) | (simp; omega) | omega)
theorem apply_10 (xl xh yl yh : Int) (w : World) (hx1 : -2147483648 ≤ xl) (hx2 : xl ≤ 2147483647) (hx3 : -2147483648 ≤ xh) (hx4 : xh ≤ 2147483647) (hy1 : -2147483648 ≤ yl) (hy2 : yl ≤ 2147483647) (hy3 : -2147483648 ≤ yh) (hy4 : yh ≤ 2147483647) (hxe : xl ≤ xh) (hye : yl ≤ yh) (hs : ¬ (xl = xh ∧ yl = yh)) :
  Calls Tryd.prog 47 #[.int .u8 10, .agg #[.int .i32 xl, .int .i32 xh], .agg #[.int .i32 yl, .int .i32 yh]] w fun e w' => e = .returned (.agg #[.int .i32 (modI (xl, xh) (yl, yh)).1, .int .i32 (modI (xl, xh) (yl, yh)).2]) ∧ Below w.heap.size w w' := by
 by_cases h : xl = xh
 ·exact apply_10_s xl xh yl yh w hx1 hx2 hx3 hx4 hy1 hy2 hy3 hy4 hxe hye (by simpa using h) (by simp; omega)
 ·exact apply_10_n xl xh yl yh w hx1 hx2 hx3 hx4 hy1 hy2 hy3 hy4 hxe hye (by simpa using h)

theorem ret_pair {q p : Int × Int} (h : q = p) : Ending.returned (.agg #[.int .i32 q.1, .int .i32 q.2]) = .returned (.agg #[.int .i32 p.1, .int .i32 p.2]) := by rw [h]

end Go.Proofs.YtebklpnkcicpjaaDoor

namespace Go.Proofs.YtebklpnkcicpjaaDoor
open Go.RowKit

theorem Ext.ne1 {w0 : World} (x : Ext w0) (b : Nat) (hb : b < w0.heap.size) : (b = x.w.heap.size) = False := by have := x.h.size; simp; omega
theorem Ext.ne2 {w0 : World} (x : Ext w0) (b : Nat) (hb : b < w0.heap.size) : (x.w.heap.size = b) = False := by have := x.h.size; simp; omega
theorem Ext.ge {w0 : World} {o : Obj} (x : Ext (w0.alloc o)) : w0.heap.size + 1 ≤ x.w.heap.size := by simp
attribute [simp] Ext.ne1 Ext.ne2

def Keeps (W0 w' : World) : Prop := Below W0.heap.size W0 w'
theorem Keeps.cell {W0 w' : World} (h : Keeps W0 w') (b o : Nat) (hb : b < W0.heap.size) : w'.cell? ⟨b, o, none⟩ = W0.cell? ⟨b, o, none⟩ := Below.cell (p := ⟨b, o, none⟩) h hb
theorem Keeps.alloc {W0 w' : World} (h : Keeps W0 w') (o : Obj) : Keeps W0 (w'.alloc o) := Below.alloc h h.size o
theorem Keeps.ext {W0 w' : World} (h : Keeps W0 w') (y : Ext w') : Keeps W0 y.w := Ext.below h h.size y
theorem Keeps.set {W0 w' : World} (h : Keeps W0 w') {g j : Nat} (hg : W0.heap.size ≤ g) (v : Value) : Keeps W0 (w'.setCell ⟨g, j, none⟩ v) := Below.setCell h hg v
theorem Keeps.drew {W0 w' : World} (h : Keeps W0 w') : Keeps W0 w'.drew := Below.drew h
theorem ks_of {w w' : World} {a b c : Obj} (h : Keeps (((w.alloc a).alloc b).alloc c) w') : w.heap.size + 1 + 1 + 1 ≤ w'.heap.size := by
 have := h.size
 simpa using this
theorem keeps_both {n : Nat} {W0 w' : World} (hn : n = W0.heap.size) (h : Keeps W0 w') : (∀ b o, b < n → w'.cell? ⟨b, o, none⟩ = W0.cell? ⟨b, o, none⟩) ∧ Keeps W0 w' :=
 ⟨fun b o hb => h.cell b o (by omega), h⟩

theorem lit_of {P : Program} {f : FuncId} {args : Array Value} {w : World} {b c : Bool} (h : Calls P f args w fun e w' => e = .returned (.bool b) ∧ Below w.heap.size w w') (hb : b = c) :
  Calls P f args w fun e w' => e = .returned (.bool c) ∧ Below w.heap.size w w' := hb ▸ h

end Go.Proofs.YtebklpnkcicpjaaDoor


