/-
  What is proved here: what Join, Meet, Within and Widen return.
-/
import Derived.Test.YtjkjcnamlankoaaIvSmall
namespace Go.Proofs.Ytjkjcnamlankoaa
open Go.RowKit

/-- No member. -/
def emp (x : Int × Int) : Bool := decide (x.2 < x.1)
def joinI (x y : Int × Int) : Int × Int := if emp x then (if emp y then (1, 0) else y) else if emp y then x else (min x.1 y.1, max x.2 y.2)
def meetI (x y : Int × Int) : Int × Int := if emp x || emp y || decide (min x.2 y.2 < max x.1 y.1) then (1, 0) else (max x.1 y.1, min x.2 y.2)
def withinI (x y : Int × Int) : Bool := emp x || (decide (y.1 ≤ x.1) && decide (x.2 ≤ y.2))
def widenI (x y : Int × Int) : Int × Int := if emp x then (if emp y then (1, 0) else y) else if emp y then x else (if y.1 < x.1 then -2147483648 else x.1, if x.2 < y.2 then 2147483647 else x.2)

set_option maxHeartbeats 1000000 in
theorem join_any (xl xh yl yh : Int) (w : World) :
    Calls Try.prog 25 #[.agg #[.int .i32 xl, .int .i32 xh], .agg #[.int .i32 yl, .int .i32 yh]] w fun e w' => e = .returned (.agg #[.int .i32 (joinI (xl, xh) (yl, yh)).1, .int .i32 (joinI (xl, xh) (yl, yh)).2]) ∧ Below w.heap.size w w' := by
  by_cases hx : xh < xl
  · have d1 : decide (xh < xl) = true := by simpa using hx
    by_cases hy : yh < yl
    · have d2 : decide (yh < yl) = true := by simpa using hy
      have hf : joinI (xl, xh) (yl, yh) = (1, 0) := by simp [joinI, emp, hx, hy]
      have HF := Lib.hid hf
      clear hf
      go_enter Try.func25, Try.ntmps25
      go_wp2_with (first | (go_at_call 19; ((first | (with_reducible refine (Calls.extq (isEmpty_any _ _ _)).mono ?_) | (refine (Calls.ext (isEmpty_any _ _ _)).mono ?_)); rintro e _ ⟨rfl, y, rfl⟩)) | (go_at_call 22; ((first | (with_reducible refine (Calls.extq (empty_any _)).mono ?_) | (refine (Calls.ext (empty_any _)).mono ?_)); rintro e _ ⟨rfl, y, rfl⟩)))
      all_goals
        refine bodyPost_ret (v := .agg #[.int .i32 (joinI (xl, xh) (yl, yh)).1, .int .i32 (joinI (xl, xh) (yl, yh)).2]) ?hr rfl ⟨rfl, ?bel⟩
        case hr =>
          simp [results, Try.results25, go_sem]
          rw [HF.out]
          constructor <;> (try dsimp only) <;> omega
        case bel =>
          (repeat (first | exact Below.refl _ _ | refine Below.setCell ?_ ?_ _ | refine Ext.below ?_ ?_ _ | refine Below.alloc ?_ ?_ _)) <;> (first | (simp; done) | (simp; omega) | omega)
    · have d2 : decide (yh < yl) = false := by simpa using hy
      have hf : joinI (xl, xh) (yl, yh) = (yl, yh) := by simp [joinI, emp, hx, hy]
      have HF := Lib.hid hf
      clear hf
      go_enter Try.func25, Try.ntmps25
      go_wp2_with (first | (go_at_call 19; ((first | (with_reducible refine (Calls.extq (isEmpty_any _ _ _)).mono ?_) | (refine (Calls.ext (isEmpty_any _ _ _)).mono ?_)); rintro e _ ⟨rfl, y, rfl⟩)) | (go_at_call 22; ((first | (with_reducible refine (Calls.extq (empty_any _)).mono ?_) | (refine (Calls.ext (empty_any _)).mono ?_)); rintro e _ ⟨rfl, y, rfl⟩)))
      all_goals
        refine bodyPost_ret (v := .agg #[.int .i32 (joinI (xl, xh) (yl, yh)).1, .int .i32 (joinI (xl, xh) (yl, yh)).2]) ?hr rfl ⟨rfl, ?bel⟩
        case hr =>
          simp [results, Try.results25, go_sem]
          rw [HF.out]
          constructor <;> (try dsimp only) <;> omega
        case bel =>
          (repeat (first | exact Below.refl _ _ | refine Below.setCell ?_ ?_ _ | refine Ext.below ?_ ?_ _ | refine Below.alloc ?_ ?_ _)) <;> (first | (simp; done) | (simp; omega) | omega)
  · have d1 : decide (xh < xl) = false := by simpa using hx
    by_cases hy : yh < yl
    · have d2 : decide (yh < yl) = true := by simpa using hy
      have hf : joinI (xl, xh) (yl, yh) = (xl, xh) := by simp [joinI, emp, hx, hy]
      have HF := Lib.hid hf
      clear hf
      go_enter Try.func25, Try.ntmps25
      go_wp2_with (first | (go_at_call 19; ((first | (with_reducible refine (Calls.extq (isEmpty_any _ _ _)).mono ?_) | (refine (Calls.ext (isEmpty_any _ _ _)).mono ?_)); rintro e _ ⟨rfl, y, rfl⟩)) | (go_at_call 22; ((first | (with_reducible refine (Calls.extq (empty_any _)).mono ?_) | (refine (Calls.ext (empty_any _)).mono ?_)); rintro e _ ⟨rfl, y, rfl⟩)))
      all_goals
        refine bodyPost_ret (v := .agg #[.int .i32 (joinI (xl, xh) (yl, yh)).1, .int .i32 (joinI (xl, xh) (yl, yh)).2]) ?hr rfl ⟨rfl, ?bel⟩
        case hr =>
          simp [results, Try.results25, go_sem]
          rw [HF.out]
          constructor <;> (try dsimp only) <;> omega
        case bel =>
          (repeat (first | exact Below.refl _ _ | refine Below.setCell ?_ ?_ _ | refine Ext.below ?_ ?_ _ | refine Below.alloc ?_ ?_ _)) <;> (first | (simp; done) | (simp; omega) | omega)
    · have d2 : decide (yh < yl) = false := by simpa using hy
      have hf : joinI (xl, xh) (yl, yh) = (min xl yl, max xh yh) := by simp [joinI, emp, hx, hy]
      have HF := Lib.hid hf
      clear hf
      go_enter Try.func25, Try.ntmps25
      go_wp2_with (first | (go_at_call 19; ((first | (with_reducible refine (Calls.extq (isEmpty_any _ _ _)).mono ?_) | (refine (Calls.ext (isEmpty_any _ _ _)).mono ?_)); rintro e _ ⟨rfl, y, rfl⟩)) | (go_at_call 22; ((first | (with_reducible refine (Calls.extq (empty_any _)).mono ?_) | (refine (Calls.ext (empty_any _)).mono ?_)); rintro e _ ⟨rfl, y, rfl⟩)))
      all_goals
        refine bodyPost_ret (v := .agg #[.int .i32 (joinI (xl, xh) (yl, yh)).1, .int .i32 (joinI (xl, xh) (yl, yh)).2]) ?hr rfl ⟨rfl, ?bel⟩
        case hr =>
          simp [results, Try.results25, go_sem]
          rw [HF.out]
          constructor <;> (try dsimp only) <;> omega
        case bel =>
          (repeat (first | exact Below.refl _ _ | refine Below.setCell ?_ ?_ _ | refine Ext.below ?_ ?_ _ | refine Below.alloc ?_ ?_ _)) <;> (first | (simp; done) | (simp; omega) | omega)

set_option maxHeartbeats 400000 in
theorem widen_xy (xl xh yl yh : Int) (hx : xh < xl) (hy : yh < yl) (w : World) :
    Calls Try.prog 27 #[.agg #[.int .i32 xl, .int .i32 xh], .agg #[.int .i32 yl, .int .i32 yh]] w fun e w' => e = .returned (.agg #[.int .i32 (widenI (xl, xh) (yl, yh)).1, .int .i32 (widenI (xl, xh) (yl, yh)).2]) ∧ Below w.heap.size w w' := by
  have d1 : decide (xh < xl) = true := by simpa using hx
  have d2 : decide (yh < yl) = true := by simpa using hy
  have hf : widenI (xl, xh) (yl, yh) = (1, 0) := by simp [widenI, emp, hx, hy]
  have HF := Lib.hid hf
  clear hf
  go_enter Try.func27, Try.ntmps27
  go_wp2_with (first | (go_at_call 19; ((first | (with_reducible refine (Calls.extq (isEmpty_any _ _ _)).mono ?_) | (refine (Calls.ext (isEmpty_any _ _ _)).mono ?_)); rintro e _ ⟨rfl, y, rfl⟩)) | (go_at_call 22; ((first | (with_reducible refine (Calls.extq (empty_any _)).mono ?_) | (refine (Calls.ext (empty_any _)).mono ?_)); rintro e _ ⟨rfl, y, rfl⟩)))
  all_goals
    refine bodyPost_ret (v := .agg #[.int .i32 (widenI (xl, xh) (yl, yh)).1, .int .i32 (widenI (xl, xh) (yl, yh)).2]) ?hr rfl ⟨rfl, ?bel⟩
    case hr =>
      simp [results, Try.results27, go_sem]
      rw [HF.out]
      constructor <;> (try dsimp only) <;> omega
    case bel =>
      (repeat (first | exact Below.refl _ _ | refine Below.setCell ?_ ?_ _ | refine Ext.below ?_ ?_ _ | refine Below.alloc ?_ ?_ _)) <;> (first | (simp; done) | (simp; omega) | omega)

set_option maxHeartbeats 400000 in
theorem widen_x (xl xh yl yh : Int) (hx : xh < xl) (hy : ¬ yh < yl) (w : World) :
    Calls Try.prog 27 #[.agg #[.int .i32 xl, .int .i32 xh], .agg #[.int .i32 yl, .int .i32 yh]] w fun e w' => e = .returned (.agg #[.int .i32 (widenI (xl, xh) (yl, yh)).1, .int .i32 (widenI (xl, xh) (yl, yh)).2]) ∧ Below w.heap.size w w' := by
  have d1 : decide (xh < xl) = true := by simpa using hx
  have d2 : decide (yh < yl) = false := by simpa using hy
  have hf : widenI (xl, xh) (yl, yh) = (yl, yh) := by simp [widenI, emp, hx, hy]
  have HF := Lib.hid hf
  clear hf
  go_enter Try.func27, Try.ntmps27
  go_wp2_with (first | (go_at_call 19; ((first | (with_reducible refine (Calls.extq (isEmpty_any _ _ _)).mono ?_) | (refine (Calls.ext (isEmpty_any _ _ _)).mono ?_)); rintro e _ ⟨rfl, y, rfl⟩)) | (go_at_call 22; ((first | (with_reducible refine (Calls.extq (empty_any _)).mono ?_) | (refine (Calls.ext (empty_any _)).mono ?_)); rintro e _ ⟨rfl, y, rfl⟩)))
  all_goals
    refine bodyPost_ret (v := .agg #[.int .i32 (widenI (xl, xh) (yl, yh)).1, .int .i32 (widenI (xl, xh) (yl, yh)).2]) ?hr rfl ⟨rfl, ?bel⟩
    case hr =>
      simp [results, Try.results27, go_sem]
      rw [HF.out]
      constructor <;> (try dsimp only) <;> omega
    case bel =>
      (repeat (first | exact Below.refl _ _ | refine Below.setCell ?_ ?_ _ | refine Ext.below ?_ ?_ _ | refine Below.alloc ?_ ?_ _)) <;> (first | (simp; done) | (simp; omega) | omega)

set_option maxHeartbeats 400000 in
theorem widen_y (xl xh yl yh : Int) (hx : ¬ xh < xl) (hy : yh < yl) (w : World) :
    Calls Try.prog 27 #[.agg #[.int .i32 xl, .int .i32 xh], .agg #[.int .i32 yl, .int .i32 yh]] w fun e w' => e = .returned (.agg #[.int .i32 (widenI (xl, xh) (yl, yh)).1, .int .i32 (widenI (xl, xh) (yl, yh)).2]) ∧ Below w.heap.size w w' := by
  have d1 : decide (xh < xl) = false := by simpa using hx
  have d2 : decide (yh < yl) = true := by simpa using hy
  have hf : widenI (xl, xh) (yl, yh) = (xl, xh) := by simp [widenI, emp, hx, hy]
  have HF := Lib.hid hf
  clear hf
  go_enter Try.func27, Try.ntmps27
  go_wp2_with (first | (go_at_call 19; ((first | (with_reducible refine (Calls.extq (isEmpty_any _ _ _)).mono ?_) | (refine (Calls.ext (isEmpty_any _ _ _)).mono ?_)); rintro e _ ⟨rfl, y, rfl⟩)) | (go_at_call 22; ((first | (with_reducible refine (Calls.extq (empty_any _)).mono ?_) | (refine (Calls.ext (empty_any _)).mono ?_)); rintro e _ ⟨rfl, y, rfl⟩)))
  all_goals
    refine bodyPost_ret (v := .agg #[.int .i32 (widenI (xl, xh) (yl, yh)).1, .int .i32 (widenI (xl, xh) (yl, yh)).2]) ?hr rfl ⟨rfl, ?bel⟩
    case hr =>
      simp [results, Try.results27, go_sem]
      rw [HF.out]
      constructor <;> (try dsimp only) <;> omega
    case bel =>
      (repeat (first | exact Below.refl _ _ | refine Below.setCell ?_ ?_ _ | refine Ext.below ?_ ?_ _ | refine Below.alloc ?_ ?_ _)) <;> (first | (simp; done) | (simp; omega) | omega)

set_option maxHeartbeats 400000 in
theorem widen_lh (xl xh yl yh : Int) (hx : ¬ xh < xl) (hy : ¬ yh < yl) (hl : yl < xl) (hh : xh < yh) (w : World) :
    Calls Try.prog 27 #[.agg #[.int .i32 xl, .int .i32 xh], .agg #[.int .i32 yl, .int .i32 yh]] w fun e w' => e = .returned (.agg #[.int .i32 (widenI (xl, xh) (yl, yh)).1, .int .i32 (widenI (xl, xh) (yl, yh)).2]) ∧ Below w.heap.size w w' := by
  have d1 : decide (xh < xl) = false := by simpa using hx
  have d2 : decide (yh < yl) = false := by simpa using hy
  have hf : widenI (xl, xh) (yl, yh) = (-2147483648, 2147483647) := by simp [widenI, emp, hx, hy, hl, hh]
  have HF := Lib.hid hf
  clear hf
  go_enter Try.func27, Try.ntmps27
  go_wp2_with fail
  refine (Calls.ext (isEmpty_any _ _ _)).mono ?_
  rintro e _ ⟨rfl, y1, rfl⟩
  go_wp2_with fail
  refine (Calls.extq (isEmpty_any _ _ _)).mono ?_
  rintro e _ ⟨rfl, y2, rfl⟩
  go_wp2_with fail
  refine (Calls.extq (isEmpty_any _ _ _)).mono ?_
  rintro e _ ⟨rfl, y3, rfl⟩
  have hz1 : w.heap.size < y3.w.heap.size := Nat.lt_of_lt_of_le (by simp <;> omega) y3.h.size
  have hz2 : w.heap.size + 1 < y3.w.heap.size := Nat.lt_of_lt_of_le (by simp <;> omega) y3.h.size
  have hz3 : w.heap.size + 1 + 1 < y3.w.heap.size := Nat.lt_of_lt_of_le (by simp <;> omega) y3.h.size
  go_wp2
  all_goals
    refine bodyPost_ret (v := .agg #[.int .i32 (widenI (xl, xh) (yl, yh)).1, .int .i32 (widenI (xl, xh) (yl, yh)).2]) ?hr rfl ⟨rfl, ?bel⟩
    case hr =>
      simp [results, Try.results27, go_sem]
      rw [HF.out]
      constructor <;> (try dsimp only) <;> omega
    case bel =>
      (repeat (first | exact Below.refl _ _ | refine Below.setCell ?_ ?_ _ | refine Ext.below ?_ ?_ _ | refine Below.alloc ?_ ?_ _)) <;> (first | (simp; done) | (simp; omega) | omega)

set_option maxHeartbeats 400000 in
theorem widen_lm (xl xh yl yh : Int) (hx : ¬ xh < xl) (hy : ¬ yh < yl) (hl : yl < xl) (hh : ¬ xh < yh) (w : World) :
    Calls Try.prog 27 #[.agg #[.int .i32 xl, .int .i32 xh], .agg #[.int .i32 yl, .int .i32 yh]] w fun e w' => e = .returned (.agg #[.int .i32 (widenI (xl, xh) (yl, yh)).1, .int .i32 (widenI (xl, xh) (yl, yh)).2]) ∧ Below w.heap.size w w' := by
  have d1 : decide (xh < xl) = false := by simpa using hx
  have d2 : decide (yh < yl) = false := by simpa using hy
  have hf : widenI (xl, xh) (yl, yh) = (-2147483648, xh) := by simp [widenI, emp, hx, hy, hl, hh]
  have HF := Lib.hid hf
  clear hf
  go_enter Try.func27, Try.ntmps27
  go_wp2_with fail
  refine (Calls.ext (isEmpty_any _ _ _)).mono ?_
  rintro e _ ⟨rfl, y1, rfl⟩
  go_wp2_with fail
  refine (Calls.extq (isEmpty_any _ _ _)).mono ?_
  rintro e _ ⟨rfl, y2, rfl⟩
  go_wp2_with fail
  refine (Calls.extq (isEmpty_any _ _ _)).mono ?_
  rintro e _ ⟨rfl, y3, rfl⟩
  have hz1 : w.heap.size < y3.w.heap.size := Nat.lt_of_lt_of_le (by simp <;> omega) y3.h.size
  have hz2 : w.heap.size + 1 < y3.w.heap.size := Nat.lt_of_lt_of_le (by simp <;> omega) y3.h.size
  have hz3 : w.heap.size + 1 + 1 < y3.w.heap.size := Nat.lt_of_lt_of_le (by simp <;> omega) y3.h.size
  go_wp2
  all_goals
    refine bodyPost_ret (v := .agg #[.int .i32 (widenI (xl, xh) (yl, yh)).1, .int .i32 (widenI (xl, xh) (yl, yh)).2]) ?hr rfl ⟨rfl, ?bel⟩
    case hr =>
      simp [results, Try.results27, go_sem]
      rw [HF.out]
      constructor <;> (try dsimp only) <;> omega
    case bel =>
      (repeat (first | exact Below.refl _ _ | refine Below.setCell ?_ ?_ _ | refine Ext.below ?_ ?_ _ | refine Below.alloc ?_ ?_ _)) <;> (first | (simp; done) | (simp; omega) | omega)

set_option maxHeartbeats 400000 in
theorem widen_mh (xl xh yl yh : Int) (hx : ¬ xh < xl) (hy : ¬ yh < yl) (hl : ¬ yl < xl) (hh : xh < yh) (w : World) :
    Calls Try.prog 27 #[.agg #[.int .i32 xl, .int .i32 xh], .agg #[.int .i32 yl, .int .i32 yh]] w fun e w' => e = .returned (.agg #[.int .i32 (widenI (xl, xh) (yl, yh)).1, .int .i32 (widenI (xl, xh) (yl, yh)).2]) ∧ Below w.heap.size w w' := by
  have d1 : decide (xh < xl) = false := by simpa using hx
  have d2 : decide (yh < yl) = false := by simpa using hy
  have hf : widenI (xl, xh) (yl, yh) = (xl, 2147483647) := by simp [widenI, emp, hx, hy, hl, hh]
  have HF := Lib.hid hf
  clear hf
  go_enter Try.func27, Try.ntmps27
  go_wp2_with fail
  refine (Calls.ext (isEmpty_any _ _ _)).mono ?_
  rintro e _ ⟨rfl, y1, rfl⟩
  go_wp2_with fail
  refine (Calls.extq (isEmpty_any _ _ _)).mono ?_
  rintro e _ ⟨rfl, y2, rfl⟩
  go_wp2_with fail
  refine (Calls.extq (isEmpty_any _ _ _)).mono ?_
  rintro e _ ⟨rfl, y3, rfl⟩
  have hz1 : w.heap.size < y3.w.heap.size := Nat.lt_of_lt_of_le (by simp <;> omega) y3.h.size
  have hz2 : w.heap.size + 1 < y3.w.heap.size := Nat.lt_of_lt_of_le (by simp <;> omega) y3.h.size
  have hz3 : w.heap.size + 1 + 1 < y3.w.heap.size := Nat.lt_of_lt_of_le (by simp <;> omega) y3.h.size
  go_wp2
  all_goals
    refine bodyPost_ret (v := .agg #[.int .i32 (widenI (xl, xh) (yl, yh)).1, .int .i32 (widenI (xl, xh) (yl, yh)).2]) ?hr rfl ⟨rfl, ?bel⟩
    case hr =>
      simp [results, Try.results27, go_sem]
      rw [HF.out]
      constructor <;> (try dsimp only) <;> omega
    case bel =>
      (repeat (first | exact Below.refl _ _ | refine Below.setCell ?_ ?_ _ | refine Ext.below ?_ ?_ _ | refine Below.alloc ?_ ?_ _)) <;> (first | (simp; done) | (simp; omega) | omega)

set_option maxHeartbeats 400000 in
theorem widen_mm (xl xh yl yh : Int) (hx : ¬ xh < xl) (hy : ¬ yh < yl) (hl : ¬ yl < xl) (hh : ¬ xh < yh) (w : World) :
    Calls Try.prog 27 #[.agg #[.int .i32 xl, .int .i32 xh], .agg #[.int .i32 yl, .int .i32 yh]] w fun e w' => e = .returned (.agg #[.int .i32 (widenI (xl, xh) (yl, yh)).1, .int .i32 (widenI (xl, xh) (yl, yh)).2]) ∧ Below w.heap.size w w' := by
  have d1 : decide (xh < xl) = false := by simpa using hx
  have d2 : decide (yh < yl) = false := by simpa using hy
  have hf : widenI (xl, xh) (yl, yh) = (xl, xh) := by simp [widenI, emp, hx, hy, hl, hh]
  have HF := Lib.hid hf
  clear hf
  go_enter Try.func27, Try.ntmps27
  go_wp2_with fail
  refine (Calls.ext (isEmpty_any _ _ _)).mono ?_
  rintro e _ ⟨rfl, y1, rfl⟩
  go_wp2_with fail
  refine (Calls.extq (isEmpty_any _ _ _)).mono ?_
  rintro e _ ⟨rfl, y2, rfl⟩
  go_wp2_with fail
  refine (Calls.extq (isEmpty_any _ _ _)).mono ?_
  rintro e _ ⟨rfl, y3, rfl⟩
  have hz1 : w.heap.size < y3.w.heap.size := Nat.lt_of_lt_of_le (by simp <;> omega) y3.h.size
  have hz2 : w.heap.size + 1 < y3.w.heap.size := Nat.lt_of_lt_of_le (by simp <;> omega) y3.h.size
  have hz3 : w.heap.size + 1 + 1 < y3.w.heap.size := Nat.lt_of_lt_of_le (by simp <;> omega) y3.h.size
  go_wp2
  all_goals
    refine bodyPost_ret (v := .agg #[.int .i32 (widenI (xl, xh) (yl, yh)).1, .int .i32 (widenI (xl, xh) (yl, yh)).2]) ?hr rfl ⟨rfl, ?bel⟩
    case hr =>
      simp [results, Try.results27, go_sem]
      rw [HF.out]
      constructor <;> (try dsimp only) <;> omega
    case bel =>
      (repeat (first | exact Below.refl _ _ | refine Below.setCell ?_ ?_ _ | refine Ext.below ?_ ?_ _ | refine Below.alloc ?_ ?_ _)) <;> (first | (simp; done) | (simp; omega) | omega)

theorem widen_any (xl xh yl yh : Int) (w : World) : Calls Try.prog 27 #[.agg #[.int .i32 xl, .int .i32 xh], .agg #[.int .i32 yl, .int .i32 yh]] w fun e w' => e = .returned (.agg #[.int .i32 (widenI (xl, xh) (yl, yh)).1, .int .i32 (widenI (xl, xh) (yl, yh)).2]) ∧ Below w.heap.size w w' := by
  by_cases hx : xh < xl
  · by_cases hy : yh < yl
    · exact widen_xy xl xh yl yh hx hy w
    · exact widen_x xl xh yl yh hx hy w
  · by_cases hy : yh < yl
    · exact widen_y xl xh yl yh hx hy w
    · by_cases hl : yl < xl
      · by_cases hh : xh < yh
        · exact widen_lh xl xh yl yh hx hy hl hh w
        · exact widen_lm xl xh yl yh hx hy hl hh w
      · by_cases hh : xh < yh
        · exact widen_mh xl xh yl yh hx hy hl hh w
        · exact widen_mm xl xh yl yh hx hy hl hh w

set_option maxHeartbeats 400000 in
theorem meet_x_lh (xl xh yl yh : Int) (hx : xh < xl) (hl : xl < yl) (hh : yh < xh) (w : World) :
    Calls Try.prog 26 #[.agg #[.int .i32 xl, .int .i32 xh], .agg #[.int .i32 yl, .int .i32 yh]] w fun e w' => e = .returned (.agg #[.int .i32 (meetI (xl, xh) (yl, yh)).1, .int .i32 (meetI (xl, xh) (yl, yh)).2]) ∧ Below w.heap.size w w' := by
  have d1 : decide (xh < xl) = true := by simpa using hx
  have hf : meetI (xl, xh) (yl, yh) = (1, 0) := by simp [meetI, emp, hx]
  have HF := Lib.hid hf
  clear hf
  go_enter Try.func26, Try.ntmps26
  go_wp2_with (first | (go_at_call 19; ((first | (with_reducible refine (Calls.extq (isEmpty_any _ _ _)).mono ?_) | (refine (Calls.ext (isEmpty_any _ _ _)).mono ?_)); rintro e _ ⟨rfl, y, rfl⟩)) | (go_at_call 22; ((first | (with_reducible refine (Calls.extq (empty_any _)).mono ?_) | (refine (Calls.ext (empty_any _)).mono ?_)); rintro e _ ⟨rfl, y, rfl⟩)))
  all_goals
    refine bodyPost_ret (v := .agg #[.int .i32 (meetI (xl, xh) (yl, yh)).1, .int .i32 (meetI (xl, xh) (yl, yh)).2]) ?hr rfl ⟨rfl, ?bel⟩
    case hr =>
      simp [results, Try.results26, go_sem]
      rw [HF.out]
      constructor <;> (try dsimp only) <;> omega
    case bel =>
      (repeat (first | exact Below.refl _ _ | refine Below.setCell ?_ ?_ _ | refine Ext.below ?_ ?_ _ | refine Below.alloc ?_ ?_ _)) <;> (first | (simp; done) | (simp; omega) | omega)

set_option maxHeartbeats 400000 in
theorem meet_y_lh (xl xh yl yh : Int) (hx : ¬ xh < xl) (hy : yh < yl) (hl : xl < yl) (hh : yh < xh) (w : World) :
    Calls Try.prog 26 #[.agg #[.int .i32 xl, .int .i32 xh], .agg #[.int .i32 yl, .int .i32 yh]] w fun e w' => e = .returned (.agg #[.int .i32 (meetI (xl, xh) (yl, yh)).1, .int .i32 (meetI (xl, xh) (yl, yh)).2]) ∧ Below w.heap.size w w' := by
  have d1 : decide (xh < xl) = false := by simpa using hx
  have d2 : decide (yh < yl) = true := by simpa using hy
  have hf : meetI (xl, xh) (yl, yh) = (1, 0) := by simp [meetI, emp, hy]
  have HF := Lib.hid hf
  clear hf
  go_enter Try.func26, Try.ntmps26
  go_wp2_with (first | (go_at_call 19; ((first | (with_reducible refine (Calls.extq (isEmpty_any _ _ _)).mono ?_) | (refine (Calls.ext (isEmpty_any _ _ _)).mono ?_)); rintro e _ ⟨rfl, y, rfl⟩)) | (go_at_call 22; ((first | (with_reducible refine (Calls.extq (empty_any _)).mono ?_) | (refine (Calls.ext (empty_any _)).mono ?_)); rintro e _ ⟨rfl, y, rfl⟩)))
  all_goals
    refine bodyPost_ret (v := .agg #[.int .i32 (meetI (xl, xh) (yl, yh)).1, .int .i32 (meetI (xl, xh) (yl, yh)).2]) ?hr rfl ⟨rfl, ?bel⟩
    case hr =>
      simp [results, Try.results26, go_sem]
      rw [HF.out]
      constructor <;> (try dsimp only) <;> omega
    case bel =>
      (repeat (first | exact Below.refl _ _ | refine Below.setCell ?_ ?_ _ | refine Ext.below ?_ ?_ _ | refine Below.alloc ?_ ?_ _)) <;> (first | (simp; done) | (simp; omega) | omega)

set_option maxHeartbeats 400000 in
theorem meet_z_lh (xl xh yl yh : Int) (hx : ¬ xh < xl) (hy : ¬ yh < yl) (hz : ¬ yh < yl) (hl : xl < yl) (hh : yh < xh) (w : World) :
    Calls Try.prog 26 #[.agg #[.int .i32 xl, .int .i32 xh], .agg #[.int .i32 yl, .int .i32 yh]] w fun e w' => e = .returned (.agg #[.int .i32 (meetI (xl, xh) (yl, yh)).1, .int .i32 (meetI (xl, xh) (yl, yh)).2]) ∧ Below w.heap.size w w' := by
  have d1 : decide (xh < xl) = false := by simpa using hx
  have d2 : decide (yh < yl) = false := by simpa using hy
  have d3 : decide (yh < yl) = false := by simpa using hz
  have hf : meetI (xl, xh) (yl, yh) = (yl, yh) := by simp [meetI, emp]; rw [if_neg (by omega)]; congr 1 <;> omega
  have HF := Lib.hid hf
  clear hf
  go_enter Try.func26, Try.ntmps26
  go_wp2_with (first | (go_at_call 19; ((first | (with_reducible refine (Calls.extq (isEmpty_any _ _ _)).mono ?_) | (refine (Calls.ext (isEmpty_any _ _ _)).mono ?_)); rintro e _ ⟨rfl, y, rfl⟩)) | (go_at_call 22; ((first | (with_reducible refine (Calls.extq (empty_any _)).mono ?_) | (refine (Calls.ext (empty_any _)).mono ?_)); rintro e _ ⟨rfl, y, rfl⟩)))
  all_goals
    refine bodyPost_ret (v := .agg #[.int .i32 (meetI (xl, xh) (yl, yh)).1, .int .i32 (meetI (xl, xh) (yl, yh)).2]) ?hr rfl ⟨rfl, ?bel⟩
    case hr =>
      simp [results, Try.results26, go_sem]
      rw [HF.out]
      constructor <;> (try dsimp only) <;> omega
    case bel =>
      (repeat (first | exact Below.refl _ _ | refine Below.setCell ?_ ?_ _ | refine Ext.below ?_ ?_ _ | refine Below.alloc ?_ ?_ _)) <;> (first | (simp; done) | (simp; omega) | omega)

set_option maxHeartbeats 400000 in
theorem meet_x_lm (xl xh yl yh : Int) (hx : xh < xl) (hl : xl < yl) (hh : xh ≤ yh) (w : World) :
    Calls Try.prog 26 #[.agg #[.int .i32 xl, .int .i32 xh], .agg #[.int .i32 yl, .int .i32 yh]] w fun e w' => e = .returned (.agg #[.int .i32 (meetI (xl, xh) (yl, yh)).1, .int .i32 (meetI (xl, xh) (yl, yh)).2]) ∧ Below w.heap.size w w' := by
  have d1 : decide (xh < xl) = true := by simpa using hx
  have hf : meetI (xl, xh) (yl, yh) = (1, 0) := by simp [meetI, emp, hx]
  have HF := Lib.hid hf
  clear hf
  go_enter Try.func26, Try.ntmps26
  go_wp2_with (first | (go_at_call 19; ((first | (with_reducible refine (Calls.extq (isEmpty_any _ _ _)).mono ?_) | (refine (Calls.ext (isEmpty_any _ _ _)).mono ?_)); rintro e _ ⟨rfl, y, rfl⟩)) | (go_at_call 22; ((first | (with_reducible refine (Calls.extq (empty_any _)).mono ?_) | (refine (Calls.ext (empty_any _)).mono ?_)); rintro e _ ⟨rfl, y, rfl⟩)))
  all_goals
    refine bodyPost_ret (v := .agg #[.int .i32 (meetI (xl, xh) (yl, yh)).1, .int .i32 (meetI (xl, xh) (yl, yh)).2]) ?hr rfl ⟨rfl, ?bel⟩
    case hr =>
      simp [results, Try.results26, go_sem]
      rw [HF.out]
      constructor <;> (try dsimp only) <;> omega
    case bel =>
      (repeat (first | exact Below.refl _ _ | refine Below.setCell ?_ ?_ _ | refine Ext.below ?_ ?_ _ | refine Below.alloc ?_ ?_ _)) <;> (first | (simp; done) | (simp; omega) | omega)

set_option maxHeartbeats 400000 in
theorem meet_y_lm (xl xh yl yh : Int) (hx : ¬ xh < xl) (hy : yh < yl) (hl : xl < yl) (hh : xh ≤ yh) (w : World) :
    Calls Try.prog 26 #[.agg #[.int .i32 xl, .int .i32 xh], .agg #[.int .i32 yl, .int .i32 yh]] w fun e w' => e = .returned (.agg #[.int .i32 (meetI (xl, xh) (yl, yh)).1, .int .i32 (meetI (xl, xh) (yl, yh)).2]) ∧ Below w.heap.size w w' := by
  have d1 : decide (xh < xl) = false := by simpa using hx
  have d2 : decide (yh < yl) = true := by simpa using hy
  have hf : meetI (xl, xh) (yl, yh) = (1, 0) := by simp [meetI, emp, hy]
  have HF := Lib.hid hf
  clear hf
  go_enter Try.func26, Try.ntmps26
  go_wp2_with (first | (go_at_call 19; ((first | (with_reducible refine (Calls.extq (isEmpty_any _ _ _)).mono ?_) | (refine (Calls.ext (isEmpty_any _ _ _)).mono ?_)); rintro e _ ⟨rfl, y, rfl⟩)) | (go_at_call 22; ((first | (with_reducible refine (Calls.extq (empty_any _)).mono ?_) | (refine (Calls.ext (empty_any _)).mono ?_)); rintro e _ ⟨rfl, y, rfl⟩)))
  all_goals
    refine bodyPost_ret (v := .agg #[.int .i32 (meetI (xl, xh) (yl, yh)).1, .int .i32 (meetI (xl, xh) (yl, yh)).2]) ?hr rfl ⟨rfl, ?bel⟩
    case hr =>
      simp [results, Try.results26, go_sem]
      rw [HF.out]
      constructor <;> (try dsimp only) <;> omega
    case bel =>
      (repeat (first | exact Below.refl _ _ | refine Below.setCell ?_ ?_ _ | refine Ext.below ?_ ?_ _ | refine Below.alloc ?_ ?_ _)) <;> (first | (simp; done) | (simp; omega) | omega)

set_option maxHeartbeats 400000 in
theorem meet_n_lm (xl xh yl yh : Int) (hx : ¬ xh < xl) (hy : ¬ yh < yl) (hz : xh < yl) (hl : xl < yl) (hh : xh ≤ yh) (w : World) :
    Calls Try.prog 26 #[.agg #[.int .i32 xl, .int .i32 xh], .agg #[.int .i32 yl, .int .i32 yh]] w fun e w' => e = .returned (.agg #[.int .i32 (meetI (xl, xh) (yl, yh)).1, .int .i32 (meetI (xl, xh) (yl, yh)).2]) ∧ Below w.heap.size w w' := by
  have d1 : decide (xh < xl) = false := by simpa using hx
  have d2 : decide (yh < yl) = false := by simpa using hy
  have d3 : decide (xh < yl) = true := by simpa using hz
  have hf : meetI (xl, xh) (yl, yh) = (1, 0) := by simp [meetI, emp]; omega
  have HF := Lib.hid hf
  clear hf
  go_enter Try.func26, Try.ntmps26
  go_wp2_with (first | (go_at_call 19; ((first | (with_reducible refine (Calls.extq (isEmpty_any _ _ _)).mono ?_) | (refine (Calls.ext (isEmpty_any _ _ _)).mono ?_)); rintro e _ ⟨rfl, y, rfl⟩)) | (go_at_call 22; ((first | (with_reducible refine (Calls.extq (empty_any _)).mono ?_) | (refine (Calls.ext (empty_any _)).mono ?_)); rintro e _ ⟨rfl, y, rfl⟩)))
  all_goals
    refine bodyPost_ret (v := .agg #[.int .i32 (meetI (xl, xh) (yl, yh)).1, .int .i32 (meetI (xl, xh) (yl, yh)).2]) ?hr rfl ⟨rfl, ?bel⟩
    case hr =>
      simp [results, Try.results26, go_sem]
      rw [HF.out]
      constructor <;> (try dsimp only) <;> omega
    case bel =>
      (repeat (first | exact Below.refl _ _ | refine Below.setCell ?_ ?_ _ | refine Ext.below ?_ ?_ _ | refine Below.alloc ?_ ?_ _)) <;> (first | (simp; done) | (simp; omega) | omega)

set_option maxHeartbeats 400000 in
theorem meet_z_lm (xl xh yl yh : Int) (hx : ¬ xh < xl) (hy : ¬ yh < yl) (hz : ¬ xh < yl) (hl : xl < yl) (hh : xh ≤ yh) (w : World) :
    Calls Try.prog 26 #[.agg #[.int .i32 xl, .int .i32 xh], .agg #[.int .i32 yl, .int .i32 yh]] w fun e w' => e = .returned (.agg #[.int .i32 (meetI (xl, xh) (yl, yh)).1, .int .i32 (meetI (xl, xh) (yl, yh)).2]) ∧ Below w.heap.size w w' := by
  have d1 : decide (xh < xl) = false := by simpa using hx
  have d2 : decide (yh < yl) = false := by simpa using hy
  have d3 : decide (xh < yl) = false := by simpa using hz
  have hf : meetI (xl, xh) (yl, yh) = (yl, xh) := by simp [meetI, emp]; rw [if_neg (by omega)]; congr 1 <;> omega
  have HF := Lib.hid hf
  clear hf
  go_enter Try.func26, Try.ntmps26
  go_wp2_with (first | (go_at_call 19; ((first | (with_reducible refine (Calls.extq (isEmpty_any _ _ _)).mono ?_) | (refine (Calls.ext (isEmpty_any _ _ _)).mono ?_)); rintro e _ ⟨rfl, y, rfl⟩)) | (go_at_call 22; ((first | (with_reducible refine (Calls.extq (empty_any _)).mono ?_) | (refine (Calls.ext (empty_any _)).mono ?_)); rintro e _ ⟨rfl, y, rfl⟩)))
  all_goals
    refine bodyPost_ret (v := .agg #[.int .i32 (meetI (xl, xh) (yl, yh)).1, .int .i32 (meetI (xl, xh) (yl, yh)).2]) ?hr rfl ⟨rfl, ?bel⟩
    case hr =>
      simp [results, Try.results26, go_sem]
      rw [HF.out]
      constructor <;> (try dsimp only) <;> omega
    case bel =>
      (repeat (first | exact Below.refl _ _ | refine Below.setCell ?_ ?_ _ | refine Ext.below ?_ ?_ _ | refine Below.alloc ?_ ?_ _)) <;> (first | (simp; done) | (simp; omega) | omega)

set_option maxHeartbeats 400000 in
theorem meet_x_mh (xl xh yl yh : Int) (hx : xh < xl) (hl : yl ≤ xl) (hh : yh < xh) (w : World) :
    Calls Try.prog 26 #[.agg #[.int .i32 xl, .int .i32 xh], .agg #[.int .i32 yl, .int .i32 yh]] w fun e w' => e = .returned (.agg #[.int .i32 (meetI (xl, xh) (yl, yh)).1, .int .i32 (meetI (xl, xh) (yl, yh)).2]) ∧ Below w.heap.size w w' := by
  have d1 : decide (xh < xl) = true := by simpa using hx
  have hf : meetI (xl, xh) (yl, yh) = (1, 0) := by simp [meetI, emp, hx]
  have HF := Lib.hid hf
  clear hf
  go_enter Try.func26, Try.ntmps26
  go_wp2_with (first | (go_at_call 19; ((first | (with_reducible refine (Calls.extq (isEmpty_any _ _ _)).mono ?_) | (refine (Calls.ext (isEmpty_any _ _ _)).mono ?_)); rintro e _ ⟨rfl, y, rfl⟩)) | (go_at_call 22; ((first | (with_reducible refine (Calls.extq (empty_any _)).mono ?_) | (refine (Calls.ext (empty_any _)).mono ?_)); rintro e _ ⟨rfl, y, rfl⟩)))
  all_goals
    refine bodyPost_ret (v := .agg #[.int .i32 (meetI (xl, xh) (yl, yh)).1, .int .i32 (meetI (xl, xh) (yl, yh)).2]) ?hr rfl ⟨rfl, ?bel⟩
    case hr =>
      simp [results, Try.results26, go_sem]
      rw [HF.out]
      constructor <;> (try dsimp only) <;> omega
    case bel =>
      (repeat (first | exact Below.refl _ _ | refine Below.setCell ?_ ?_ _ | refine Ext.below ?_ ?_ _ | refine Below.alloc ?_ ?_ _)) <;> (first | (simp; done) | (simp; omega) | omega)

set_option maxHeartbeats 400000 in
theorem meet_y_mh (xl xh yl yh : Int) (hx : ¬ xh < xl) (hy : yh < yl) (hl : yl ≤ xl) (hh : yh < xh) (w : World) :
    Calls Try.prog 26 #[.agg #[.int .i32 xl, .int .i32 xh], .agg #[.int .i32 yl, .int .i32 yh]] w fun e w' => e = .returned (.agg #[.int .i32 (meetI (xl, xh) (yl, yh)).1, .int .i32 (meetI (xl, xh) (yl, yh)).2]) ∧ Below w.heap.size w w' := by
  have d1 : decide (xh < xl) = false := by simpa using hx
  have d2 : decide (yh < yl) = true := by simpa using hy
  have hf : meetI (xl, xh) (yl, yh) = (1, 0) := by simp [meetI, emp, hy]
  have HF := Lib.hid hf
  clear hf
  go_enter Try.func26, Try.ntmps26
  go_wp2_with (first | (go_at_call 19; ((first | (with_reducible refine (Calls.extq (isEmpty_any _ _ _)).mono ?_) | (refine (Calls.ext (isEmpty_any _ _ _)).mono ?_)); rintro e _ ⟨rfl, y, rfl⟩)) | (go_at_call 22; ((first | (with_reducible refine (Calls.extq (empty_any _)).mono ?_) | (refine (Calls.ext (empty_any _)).mono ?_)); rintro e _ ⟨rfl, y, rfl⟩)))
  all_goals
    refine bodyPost_ret (v := .agg #[.int .i32 (meetI (xl, xh) (yl, yh)).1, .int .i32 (meetI (xl, xh) (yl, yh)).2]) ?hr rfl ⟨rfl, ?bel⟩
    case hr =>
      simp [results, Try.results26, go_sem]
      rw [HF.out]
      constructor <;> (try dsimp only) <;> omega
    case bel =>
      (repeat (first | exact Below.refl _ _ | refine Below.setCell ?_ ?_ _ | refine Ext.below ?_ ?_ _ | refine Below.alloc ?_ ?_ _)) <;> (first | (simp; done) | (simp; omega) | omega)

set_option maxHeartbeats 400000 in
theorem meet_n_mh (xl xh yl yh : Int) (hx : ¬ xh < xl) (hy : ¬ yh < yl) (hz : yh < xl) (hl : yl ≤ xl) (hh : yh < xh) (w : World) :
    Calls Try.prog 26 #[.agg #[.int .i32 xl, .int .i32 xh], .agg #[.int .i32 yl, .int .i32 yh]] w fun e w' => e = .returned (.agg #[.int .i32 (meetI (xl, xh) (yl, yh)).1, .int .i32 (meetI (xl, xh) (yl, yh)).2]) ∧ Below w.heap.size w w' := by
  have d1 : decide (xh < xl) = false := by simpa using hx
  have d2 : decide (yh < yl) = false := by simpa using hy
  have d3 : decide (yh < xl) = true := by simpa using hz
  have hf : meetI (xl, xh) (yl, yh) = (1, 0) := by simp [meetI, emp]; omega
  have HF := Lib.hid hf
  clear hf
  go_enter Try.func26, Try.ntmps26
  go_wp2_with (first | (go_at_call 19; ((first | (with_reducible refine (Calls.extq (isEmpty_any _ _ _)).mono ?_) | (refine (Calls.ext (isEmpty_any _ _ _)).mono ?_)); rintro e _ ⟨rfl, y, rfl⟩)) | (go_at_call 22; ((first | (with_reducible refine (Calls.extq (empty_any _)).mono ?_) | (refine (Calls.ext (empty_any _)).mono ?_)); rintro e _ ⟨rfl, y, rfl⟩)))
  all_goals
    refine bodyPost_ret (v := .agg #[.int .i32 (meetI (xl, xh) (yl, yh)).1, .int .i32 (meetI (xl, xh) (yl, yh)).2]) ?hr rfl ⟨rfl, ?bel⟩
    case hr =>
      simp [results, Try.results26, go_sem]
      rw [HF.out]
      constructor <;> (try dsimp only) <;> omega
    case bel =>
      (repeat (first | exact Below.refl _ _ | refine Below.setCell ?_ ?_ _ | refine Ext.below ?_ ?_ _ | refine Below.alloc ?_ ?_ _)) <;> (first | (simp; done) | (simp; omega) | omega)

set_option maxHeartbeats 400000 in
theorem meet_z_mh (xl xh yl yh : Int) (hx : ¬ xh < xl) (hy : ¬ yh < yl) (hz : ¬ yh < xl) (hl : yl ≤ xl) (hh : yh < xh) (w : World) :
    Calls Try.prog 26 #[.agg #[.int .i32 xl, .int .i32 xh], .agg #[.int .i32 yl, .int .i32 yh]] w fun e w' => e = .returned (.agg #[.int .i32 (meetI (xl, xh) (yl, yh)).1, .int .i32 (meetI (xl, xh) (yl, yh)).2]) ∧ Below w.heap.size w w' := by
  have d1 : decide (xh < xl) = false := by simpa using hx
  have d2 : decide (yh < yl) = false := by simpa using hy
  have d3 : decide (yh < xl) = false := by simpa using hz
  have hf : meetI (xl, xh) (yl, yh) = (xl, yh) := by simp [meetI, emp]; rw [if_neg (by omega)]; congr 1 <;> omega
  have HF := Lib.hid hf
  clear hf
  go_enter Try.func26, Try.ntmps26
  go_wp2_with (first | (go_at_call 19; ((first | (with_reducible refine (Calls.extq (isEmpty_any _ _ _)).mono ?_) | (refine (Calls.ext (isEmpty_any _ _ _)).mono ?_)); rintro e _ ⟨rfl, y, rfl⟩)) | (go_at_call 22; ((first | (with_reducible refine (Calls.extq (empty_any _)).mono ?_) | (refine (Calls.ext (empty_any _)).mono ?_)); rintro e _ ⟨rfl, y, rfl⟩)))
  all_goals
    refine bodyPost_ret (v := .agg #[.int .i32 (meetI (xl, xh) (yl, yh)).1, .int .i32 (meetI (xl, xh) (yl, yh)).2]) ?hr rfl ⟨rfl, ?bel⟩
    case hr =>
      simp [results, Try.results26, go_sem]
      rw [HF.out]
      constructor <;> (try dsimp only) <;> omega
    case bel =>
      (repeat (first | exact Below.refl _ _ | refine Below.setCell ?_ ?_ _ | refine Ext.below ?_ ?_ _ | refine Below.alloc ?_ ?_ _)) <;> (first | (simp; done) | (simp; omega) | omega)

set_option maxHeartbeats 400000 in
theorem meet_x_mm (xl xh yl yh : Int) (hx : xh < xl) (hl : yl ≤ xl) (hh : xh ≤ yh) (w : World) :
    Calls Try.prog 26 #[.agg #[.int .i32 xl, .int .i32 xh], .agg #[.int .i32 yl, .int .i32 yh]] w fun e w' => e = .returned (.agg #[.int .i32 (meetI (xl, xh) (yl, yh)).1, .int .i32 (meetI (xl, xh) (yl, yh)).2]) ∧ Below w.heap.size w w' := by
  have d1 : decide (xh < xl) = true := by simpa using hx
  have hf : meetI (xl, xh) (yl, yh) = (1, 0) := by simp [meetI, emp, hx]
  have HF := Lib.hid hf
  clear hf
  go_enter Try.func26, Try.ntmps26
  go_wp2_with (first | (go_at_call 19; ((first | (with_reducible refine (Calls.extq (isEmpty_any _ _ _)).mono ?_) | (refine (Calls.ext (isEmpty_any _ _ _)).mono ?_)); rintro e _ ⟨rfl, y, rfl⟩)) | (go_at_call 22; ((first | (with_reducible refine (Calls.extq (empty_any _)).mono ?_) | (refine (Calls.ext (empty_any _)).mono ?_)); rintro e _ ⟨rfl, y, rfl⟩)))
  all_goals
    refine bodyPost_ret (v := .agg #[.int .i32 (meetI (xl, xh) (yl, yh)).1, .int .i32 (meetI (xl, xh) (yl, yh)).2]) ?hr rfl ⟨rfl, ?bel⟩
    case hr =>
      simp [results, Try.results26, go_sem]
      rw [HF.out]
      constructor <;> (try dsimp only) <;> omega
    case bel =>
      (repeat (first | exact Below.refl _ _ | refine Below.setCell ?_ ?_ _ | refine Ext.below ?_ ?_ _ | refine Below.alloc ?_ ?_ _)) <;> (first | (simp; done) | (simp; omega) | omega)

set_option maxHeartbeats 400000 in
theorem meet_z_mm (xl xh yl yh : Int) (hx : ¬ xh < xl) (hy : ¬ yh < yl) (hz : ¬ xh < xl) (hl : yl ≤ xl) (hh : xh ≤ yh) (w : World) :
    Calls Try.prog 26 #[.agg #[.int .i32 xl, .int .i32 xh], .agg #[.int .i32 yl, .int .i32 yh]] w fun e w' => e = .returned (.agg #[.int .i32 (meetI (xl, xh) (yl, yh)).1, .int .i32 (meetI (xl, xh) (yl, yh)).2]) ∧ Below w.heap.size w w' := by
  have d1 : decide (xh < xl) = false := by simpa using hx
  have d2 : decide (yh < yl) = false := by simpa using hy
  have d3 : decide (xh < xl) = false := by simpa using hz
  have hf : meetI (xl, xh) (yl, yh) = (xl, xh) := by simp [meetI, emp]; rw [if_neg (by omega)]; congr 1 <;> omega
  have HF := Lib.hid hf
  clear hf
  go_enter Try.func26, Try.ntmps26
  go_wp2_with (first | (go_at_call 19; ((first | (with_reducible refine (Calls.extq (isEmpty_any _ _ _)).mono ?_) | (refine (Calls.ext (isEmpty_any _ _ _)).mono ?_)); rintro e _ ⟨rfl, y, rfl⟩)) | (go_at_call 22; ((first | (with_reducible refine (Calls.extq (empty_any _)).mono ?_) | (refine (Calls.ext (empty_any _)).mono ?_)); rintro e _ ⟨rfl, y, rfl⟩)))
  all_goals
    refine bodyPost_ret (v := .agg #[.int .i32 (meetI (xl, xh) (yl, yh)).1, .int .i32 (meetI (xl, xh) (yl, yh)).2]) ?hr rfl ⟨rfl, ?bel⟩
    case hr =>
      simp [results, Try.results26, go_sem]
      rw [HF.out]
      constructor <;> (try dsimp only) <;> omega
    case bel =>
      (repeat (first | exact Below.refl _ _ | refine Below.setCell ?_ ?_ _ | refine Ext.below ?_ ?_ _ | refine Below.alloc ?_ ?_ _)) <;> (first | (simp; done) | (simp; omega) | omega)

theorem meet_any (xl xh yl yh : Int) (w : World) : Calls Try.prog 26 #[.agg #[.int .i32 xl, .int .i32 xh], .agg #[.int .i32 yl, .int .i32 yh]] w fun e w' => e = .returned (.agg #[.int .i32 (meetI (xl, xh) (yl, yh)).1, .int .i32 (meetI (xl, xh) (yl, yh)).2]) ∧ Below w.heap.size w w' := by
  by_cases hl : xl < yl
  · by_cases hh : yh < xh
    · by_cases hx : xh < xl
      · exact meet_x_lh xl xh yl yh hx hl hh w
      · by_cases hy : yh < yl
        · exact meet_y_lh xl xh yl yh hx hy hl hh w
        · by_cases hz : yh < yl
          · exact absurd hz (by omega)
          · exact meet_z_lh xl xh yl yh hx hy hz hl hh w
    · have hh : xh ≤ yh := by omega
      by_cases hx : xh < xl
      · exact meet_x_lm xl xh yl yh hx hl hh w
      · by_cases hy : yh < yl
        · exact meet_y_lm xl xh yl yh hx hy hl hh w
        · by_cases hz : xh < yl
          · exact meet_n_lm xl xh yl yh hx hy hz hl hh w
          · exact meet_z_lm xl xh yl yh hx hy hz hl hh w
  · have hl : yl ≤ xl := by omega
    by_cases hh : yh < xh
    · by_cases hx : xh < xl
      · exact meet_x_mh xl xh yl yh hx hl hh w
      · by_cases hy : yh < yl
        · exact meet_y_mh xl xh yl yh hx hy hl hh w
        · by_cases hz : yh < xl
          · exact meet_n_mh xl xh yl yh hx hy hz hl hh w
          · exact meet_z_mh xl xh yl yh hx hy hz hl hh w
    · have hh : xh ≤ yh := by omega
      by_cases hx : xh < xl
      · exact meet_x_mm xl xh yl yh hx hl hh w
      · by_cases hy : yh < yl
        · exact absurd hy (by omega)
        · by_cases hz : xh < xl
          · exact absurd hz (by omega)
          · exact meet_z_mm xl xh yl yh hx hy hz hl hh w
set_option maxHeartbeats 400000 in
theorem within_x (xl xh yl yh : Int) (hx : xh < xl) (w : World) :
    Calls Try.prog 24 #[.agg #[.int .i32 xl, .int .i32 xh], .agg #[.int .i32 yl, .int .i32 yh]] w fun e w' => e = .returned (.bool (withinI (xl, xh) (yl, yh))) ∧ Below w.heap.size w w' := by
  have d1 : decide (xh < xl) = true := by simpa using hx
  go_enter Try.func24, Try.ntmps24
  go_wp2_with (first | (go_at_call 19; ((first | (with_reducible refine (Calls.extq (isEmpty_any _ _ _)).mono ?_) | (refine (Calls.ext (isEmpty_any _ _ _)).mono ?_)); rintro e _ ⟨rfl, y, rfl⟩)))
  all_goals
    go_ret
    refine ⟨by simp [withinI, emp, *] <;> omega, ?_⟩
    (repeat (first | exact Below.refl _ _ | refine Below.setCell ?_ ?_ _ | refine Ext.below ?_ ?_ _ | refine Below.alloc ?_ ?_ _)) <;> (first | (simp; done) | (simp; omega) | omega)

set_option maxHeartbeats 400000 in
theorem within_y (xl xh yl yh : Int) (hx : ¬ xh < xl) (w : World) :
    Calls Try.prog 24 #[.agg #[.int .i32 xl, .int .i32 xh], .agg #[.int .i32 yl, .int .i32 yh]] w fun e w' => e = .returned (.bool (withinI (xl, xh) (yl, yh))) ∧ Below w.heap.size w w' := by
  have d1 : decide (xh < xl) = false := by simpa using hx
  go_enter Try.func24, Try.ntmps24
  go_wp2_with (first | (go_at_call 19; ((first | (with_reducible refine (Calls.extq (isEmpty_any _ _ _)).mono ?_) | (refine (Calls.ext (isEmpty_any _ _ _)).mono ?_)); rintro e _ ⟨rfl, y, rfl⟩)))
  all_goals
    go_ret
    refine ⟨by simp [withinI, emp, *] <;> omega, ?_⟩
    (repeat (first | exact Below.refl _ _ | refine Below.setCell ?_ ?_ _ | refine Ext.below ?_ ?_ _ | refine Below.alloc ?_ ?_ _)) <;> (first | (simp; done) | (simp; omega) | omega)

theorem within_any (xl xh yl yh : Int) (w : World) : Calls Try.prog 24 #[.agg #[.int .i32 xl, .int .i32 xh], .agg #[.int .i32 yl, .int .i32 yh]] w fun e w' => e = .returned (.bool (withinI (xl, xh) (yl, yh))) ∧ Below w.heap.size w w' := by
  by_cases hx : xh < xl
  · exact within_x xl xh yl yh hx w
  · exact within_y xl xh yl yh hx w

end Go.Proofs.Ytjkjcnamlankoaa
