/-
  What is proved here: what Apply returns for sums, differences, products and remainders of intervals that are not both single; awake returns true.
-/
import Derived.Test.YtjkjcnamlankoaaIvMod
namespace Go.Proofs.Ytjkjcnamlankoaa
open Go.RowKit

set_option maxRecDepth 100000 in
set_option maxHeartbeats 1000000 in
theorem apply_6_n (xl xh yl yh : Int) (w : World) (hx1 : -2147483648 ≤ xl) (hx2 : xl ≤ 2147483647) (hx3 : -2147483648 ≤ xh) (hx4 : xh ≤ 2147483647) (hy1 : -2147483648 ≤ yl) (hy2 : yl ≤ 2147483647) (hy3 : -2147483648 ≤ yh) (hy4 : yh ≤ 2147483647) (hxe : xl ≤ xh) (hye : yl ≤ yh) (hs : (xl == xh) = false) :
    Calls Try.prog 11 #[.int .u8 6, .agg #[.int .i32 xl, .int .i32 xh], .agg #[.int .i32 yl, .int .i32 yh]] w fun e w' => e = .returned (.agg #[.int .i32 (hullL [xl + yl, xl + yh, xh + yl, xh + yh]).1, .int .i32 (hullL [xl + yl, xl + yh, xh + yl, xh + yh]).2]) ∧ Below w.heap.size w w' := by
  have d1 : decide (xh < xl) = false := by simp; omega
  have d2 : decide (yh < yl) = false := by simp; omega
  go_enter Try.func11, Try.ntmps11
  go_wp2_with (first | (go_at_call 19; ((first | (with_reducible refine (Calls.extq (isEmpty_any _ _ _)).mono ?_) | (refine (Calls.ext (isEmpty_any _ _ _)).mono ?_)); rintro e _ ⟨rfl, y, rfl⟩)) | (go_at_call 28; ((first | (with_reducible refine (Calls.extq (single_any _ _ _)).mono ?_) | (refine (Calls.ext (single_any _ _ _)).mono ?_)); rintro e _ ⟨rfl, y, rfl⟩)) | (go_at_call 29; ((first | (with_reducible refine (Calls.extq (linear_6 _ _ _ _ _ hx1 hx2 hx3 hx4 hy1 hy2 hy3 hy4)).mono ?_) | (refine (Calls.ext (linear_6 _ _ _ _ _ hx1 hx2 hx3 hx4 hy1 hy2 hy3 hy4)).mono ?_)); rintro e _ ⟨rfl, y, rfl⟩)))
  all_goals
    refine bodyPost_ret (v := .agg #[.int .i32 (hullL [xl + yl, xl + yh, xh + yl, xh + yh]).1, .int .i32 (hullL [xl + yl, xl + yh, xh + yl, xh + yh]).2]) ?hr rfl ⟨rfl, ?bel⟩
    case hr =>
      simp [results, Try.results11, go_sem]
    case bel =>
      (repeat (first | exact Below.refl _ _ | refine Below.setCell ?_ ?_ _ | refine Ext.below ?_ ?_ _ | refine Below.alloc ?_ ?_ _)) <;> (first | (simp; done) | (simp; omega) | omega)
set_option maxRecDepth 100000 in
set_option maxHeartbeats 1000000 in
theorem apply_6_s (xl xh yl yh : Int) (w : World) (hx1 : -2147483648 ≤ xl) (hx2 : xl ≤ 2147483647) (hx3 : -2147483648 ≤ xh) (hx4 : xh ≤ 2147483647) (hy1 : -2147483648 ≤ yl) (hy2 : yl ≤ 2147483647) (hy3 : -2147483648 ≤ yh) (hy4 : yh ≤ 2147483647) (hxe : xl ≤ xh) (hye : yl ≤ yh) (hs : (xl == xh) = true) (hs' : (yl == yh) = false) :
    Calls Try.prog 11 #[.int .u8 6, .agg #[.int .i32 xl, .int .i32 xh], .agg #[.int .i32 yl, .int .i32 yh]] w fun e w' => e = .returned (.agg #[.int .i32 (hullL [xl + yl, xl + yh, xh + yl, xh + yh]).1, .int .i32 (hullL [xl + yl, xl + yh, xh + yl, xh + yh]).2]) ∧ Below w.heap.size w w' := by
  have d1 : decide (xh < xl) = false := by simp; omega
  have d2 : decide (yh < yl) = false := by simp; omega
  go_enter Try.func11, Try.ntmps11
  go_wp2_with (first | (go_at_call 19; ((first | (with_reducible refine (Calls.extq (isEmpty_any _ _ _)).mono ?_) | (refine (Calls.ext (isEmpty_any _ _ _)).mono ?_)); rintro e _ ⟨rfl, y, rfl⟩)) | (go_at_call 28; ((first | (with_reducible refine (Calls.extq (single_any _ _ _)).mono ?_) | (refine (Calls.ext (single_any _ _ _)).mono ?_)); rintro e _ ⟨rfl, y, rfl⟩)) | (go_at_call 29; ((first | (with_reducible refine (Calls.extq (linear_6 _ _ _ _ _ hx1 hx2 hx3 hx4 hy1 hy2 hy3 hy4)).mono ?_) | (refine (Calls.ext (linear_6 _ _ _ _ _ hx1 hx2 hx3 hx4 hy1 hy2 hy3 hy4)).mono ?_)); rintro e _ ⟨rfl, y, rfl⟩)))
  all_goals
    refine bodyPost_ret (v := .agg #[.int .i32 (hullL [xl + yl, xl + yh, xh + yl, xh + yh]).1, .int .i32 (hullL [xl + yl, xl + yh, xh + yl, xh + yh]).2]) ?hr rfl ⟨rfl, ?bel⟩
    case hr =>
      simp [results, Try.results11, go_sem]
    case bel =>
      (repeat (first | exact Below.refl _ _ | refine Below.setCell ?_ ?_ _ | refine Ext.below ?_ ?_ _ | refine Below.alloc ?_ ?_ _)) <;> (first | (simp; done) | (simp; omega) | omega)
theorem apply_6 (xl xh yl yh : Int) (w : World) (hx1 : -2147483648 ≤ xl) (hx2 : xl ≤ 2147483647) (hx3 : -2147483648 ≤ xh) (hx4 : xh ≤ 2147483647) (hy1 : -2147483648 ≤ yl) (hy2 : yl ≤ 2147483647) (hy3 : -2147483648 ≤ yh) (hy4 : yh ≤ 2147483647) (hxe : xl ≤ xh) (hye : yl ≤ yh) (hs : ¬ (xl = xh ∧ yl = yh)) :
    Calls Try.prog 11 #[.int .u8 6, .agg #[.int .i32 xl, .int .i32 xh], .agg #[.int .i32 yl, .int .i32 yh]] w fun e w' => e = .returned (.agg #[.int .i32 (hullL [xl + yl, xl + yh, xh + yl, xh + yh]).1, .int .i32 (hullL [xl + yl, xl + yh, xh + yl, xh + yh]).2]) ∧ Below w.heap.size w w' := by
  by_cases h : xl = xh
  · exact apply_6_s xl xh yl yh w hx1 hx2 hx3 hx4 hy1 hy2 hy3 hy4 hxe hye (by simpa using h) (by simp; omega)
  · exact apply_6_n xl xh yl yh w hx1 hx2 hx3 hx4 hy1 hy2 hy3 hy4 hxe hye (by simpa using h)

set_option maxRecDepth 100000 in
set_option maxHeartbeats 1000000 in
theorem apply_7_n (xl xh yl yh : Int) (w : World) (hx1 : -2147483648 ≤ xl) (hx2 : xl ≤ 2147483647) (hx3 : -2147483648 ≤ xh) (hx4 : xh ≤ 2147483647) (hy1 : -2147483648 ≤ yl) (hy2 : yl ≤ 2147483647) (hy3 : -2147483648 ≤ yh) (hy4 : yh ≤ 2147483647) (hxe : xl ≤ xh) (hye : yl ≤ yh) (hs : (xl == xh) = false) :
    Calls Try.prog 11 #[.int .u8 7, .agg #[.int .i32 xl, .int .i32 xh], .agg #[.int .i32 yl, .int .i32 yh]] w fun e w' => e = .returned (.agg #[.int .i32 (hullL [xl - yl, xl - yh, xh - yl, xh - yh]).1, .int .i32 (hullL [xl - yl, xl - yh, xh - yl, xh - yh]).2]) ∧ Below w.heap.size w w' := by
  have d1 : decide (xh < xl) = false := by simp; omega
  have d2 : decide (yh < yl) = false := by simp; omega
  go_enter Try.func11, Try.ntmps11
  go_wp2_with (first | (go_at_call 19; ((first | (with_reducible refine (Calls.extq (isEmpty_any _ _ _)).mono ?_) | (refine (Calls.ext (isEmpty_any _ _ _)).mono ?_)); rintro e _ ⟨rfl, y, rfl⟩)) | (go_at_call 28; ((first | (with_reducible refine (Calls.extq (single_any _ _ _)).mono ?_) | (refine (Calls.ext (single_any _ _ _)).mono ?_)); rintro e _ ⟨rfl, y, rfl⟩)) | (go_at_call 29; ((first | (with_reducible refine (Calls.extq (linear_7 _ _ _ _ _ hx1 hx2 hx3 hx4 hy1 hy2 hy3 hy4)).mono ?_) | (refine (Calls.ext (linear_7 _ _ _ _ _ hx1 hx2 hx3 hx4 hy1 hy2 hy3 hy4)).mono ?_)); rintro e _ ⟨rfl, y, rfl⟩)))
  all_goals
    refine bodyPost_ret (v := .agg #[.int .i32 (hullL [xl - yl, xl - yh, xh - yl, xh - yh]).1, .int .i32 (hullL [xl - yl, xl - yh, xh - yl, xh - yh]).2]) ?hr rfl ⟨rfl, ?bel⟩
    case hr =>
      simp [results, Try.results11, go_sem]
    case bel =>
      (repeat (first | exact Below.refl _ _ | refine Below.setCell ?_ ?_ _ | refine Ext.below ?_ ?_ _ | refine Below.alloc ?_ ?_ _)) <;> (first | (simp; done) | (simp; omega) | omega)
set_option maxRecDepth 100000 in
set_option maxHeartbeats 1000000 in
theorem apply_7_s (xl xh yl yh : Int) (w : World) (hx1 : -2147483648 ≤ xl) (hx2 : xl ≤ 2147483647) (hx3 : -2147483648 ≤ xh) (hx4 : xh ≤ 2147483647) (hy1 : -2147483648 ≤ yl) (hy2 : yl ≤ 2147483647) (hy3 : -2147483648 ≤ yh) (hy4 : yh ≤ 2147483647) (hxe : xl ≤ xh) (hye : yl ≤ yh) (hs : (xl == xh) = true) (hs' : (yl == yh) = false) :
    Calls Try.prog 11 #[.int .u8 7, .agg #[.int .i32 xl, .int .i32 xh], .agg #[.int .i32 yl, .int .i32 yh]] w fun e w' => e = .returned (.agg #[.int .i32 (hullL [xl - yl, xl - yh, xh - yl, xh - yh]).1, .int .i32 (hullL [xl - yl, xl - yh, xh - yl, xh - yh]).2]) ∧ Below w.heap.size w w' := by
  have d1 : decide (xh < xl) = false := by simp; omega
  have d2 : decide (yh < yl) = false := by simp; omega
  go_enter Try.func11, Try.ntmps11
  go_wp2_with (first | (go_at_call 19; ((first | (with_reducible refine (Calls.extq (isEmpty_any _ _ _)).mono ?_) | (refine (Calls.ext (isEmpty_any _ _ _)).mono ?_)); rintro e _ ⟨rfl, y, rfl⟩)) | (go_at_call 28; ((first | (with_reducible refine (Calls.extq (single_any _ _ _)).mono ?_) | (refine (Calls.ext (single_any _ _ _)).mono ?_)); rintro e _ ⟨rfl, y, rfl⟩)) | (go_at_call 29; ((first | (with_reducible refine (Calls.extq (linear_7 _ _ _ _ _ hx1 hx2 hx3 hx4 hy1 hy2 hy3 hy4)).mono ?_) | (refine (Calls.ext (linear_7 _ _ _ _ _ hx1 hx2 hx3 hx4 hy1 hy2 hy3 hy4)).mono ?_)); rintro e _ ⟨rfl, y, rfl⟩)))
  all_goals
    refine bodyPost_ret (v := .agg #[.int .i32 (hullL [xl - yl, xl - yh, xh - yl, xh - yh]).1, .int .i32 (hullL [xl - yl, xl - yh, xh - yl, xh - yh]).2]) ?hr rfl ⟨rfl, ?bel⟩
    case hr =>
      simp [results, Try.results11, go_sem]
    case bel =>
      (repeat (first | exact Below.refl _ _ | refine Below.setCell ?_ ?_ _ | refine Ext.below ?_ ?_ _ | refine Below.alloc ?_ ?_ _)) <;> (first | (simp; done) | (simp; omega) | omega)
theorem apply_7 (xl xh yl yh : Int) (w : World) (hx1 : -2147483648 ≤ xl) (hx2 : xl ≤ 2147483647) (hx3 : -2147483648 ≤ xh) (hx4 : xh ≤ 2147483647) (hy1 : -2147483648 ≤ yl) (hy2 : yl ≤ 2147483647) (hy3 : -2147483648 ≤ yh) (hy4 : yh ≤ 2147483647) (hxe : xl ≤ xh) (hye : yl ≤ yh) (hs : ¬ (xl = xh ∧ yl = yh)) :
    Calls Try.prog 11 #[.int .u8 7, .agg #[.int .i32 xl, .int .i32 xh], .agg #[.int .i32 yl, .int .i32 yh]] w fun e w' => e = .returned (.agg #[.int .i32 (hullL [xl - yl, xl - yh, xh - yl, xh - yh]).1, .int .i32 (hullL [xl - yl, xl - yh, xh - yl, xh - yh]).2]) ∧ Below w.heap.size w w' := by
  by_cases h : xl = xh
  · exact apply_7_s xl xh yl yh w hx1 hx2 hx3 hx4 hy1 hy2 hy3 hy4 hxe hye (by simpa using h) (by simp; omega)
  · exact apply_7_n xl xh yl yh w hx1 hx2 hx3 hx4 hy1 hy2 hy3 hy4 hxe hye (by simpa using h)

set_option maxRecDepth 100000 in
set_option maxHeartbeats 1000000 in
theorem apply_8_n (xl xh yl yh : Int) (w : World) (hx1 : -2147483648 ≤ xl) (hx2 : xl ≤ 2147483647) (hx3 : -2147483648 ≤ xh) (hx4 : xh ≤ 2147483647) (hy1 : -2147483648 ≤ yl) (hy2 : yl ≤ 2147483647) (hy3 : -2147483648 ≤ yh) (hy4 : yh ≤ 2147483647) (hxe : xl ≤ xh) (hye : yl ≤ yh) (hs : (xl == xh) = false) :
    Calls Try.prog 11 #[.int .u8 8, .agg #[.int .i32 xl, .int .i32 xh], .agg #[.int .i32 yl, .int .i32 yh]] w fun e w' => e = .returned (.agg #[.int .i32 (hullL [xl * yl, xl * yh, xh * yl, xh * yh]).1, .int .i32 (hullL [xl * yl, xl * yh, xh * yl, xh * yh]).2]) ∧ Below w.heap.size w w' := by
  have d1 : decide (xh < xl) = false := by simp; omega
  have d2 : decide (yh < yl) = false := by simp; omega
  go_enter Try.func11, Try.ntmps11
  go_wp2_with (first | (go_at_call 19; ((first | (with_reducible refine (Calls.extq (isEmpty_any _ _ _)).mono ?_) | (refine (Calls.ext (isEmpty_any _ _ _)).mono ?_)); rintro e _ ⟨rfl, y, rfl⟩)) | (go_at_call 28; ((first | (with_reducible refine (Calls.extq (single_any _ _ _)).mono ?_) | (refine (Calls.ext (single_any _ _ _)).mono ?_)); rintro e _ ⟨rfl, y, rfl⟩)) | (go_at_call 29; ((first | (with_reducible refine (Calls.extq (linear_8 _ _ _ _ _ hx1 hx2 hx3 hx4 hy1 hy2 hy3 hy4)).mono ?_) | (refine (Calls.ext (linear_8 _ _ _ _ _ hx1 hx2 hx3 hx4 hy1 hy2 hy3 hy4)).mono ?_)); rintro e _ ⟨rfl, y, rfl⟩)))
  all_goals
    refine bodyPost_ret (v := .agg #[.int .i32 (hullL [xl * yl, xl * yh, xh * yl, xh * yh]).1, .int .i32 (hullL [xl * yl, xl * yh, xh * yl, xh * yh]).2]) ?hr rfl ⟨rfl, ?bel⟩
    case hr =>
      simp [results, Try.results11, go_sem]
    case bel =>
      (repeat (first | exact Below.refl _ _ | refine Below.setCell ?_ ?_ _ | refine Ext.below ?_ ?_ _ | refine Below.alloc ?_ ?_ _)) <;> (first | (simp; done) | (simp; omega) | omega)
set_option maxRecDepth 100000 in
set_option maxHeartbeats 1000000 in
theorem apply_8_s (xl xh yl yh : Int) (w : World) (hx1 : -2147483648 ≤ xl) (hx2 : xl ≤ 2147483647) (hx3 : -2147483648 ≤ xh) (hx4 : xh ≤ 2147483647) (hy1 : -2147483648 ≤ yl) (hy2 : yl ≤ 2147483647) (hy3 : -2147483648 ≤ yh) (hy4 : yh ≤ 2147483647) (hxe : xl ≤ xh) (hye : yl ≤ yh) (hs : (xl == xh) = true) (hs' : (yl == yh) = false) :
    Calls Try.prog 11 #[.int .u8 8, .agg #[.int .i32 xl, .int .i32 xh], .agg #[.int .i32 yl, .int .i32 yh]] w fun e w' => e = .returned (.agg #[.int .i32 (hullL [xl * yl, xl * yh, xh * yl, xh * yh]).1, .int .i32 (hullL [xl * yl, xl * yh, xh * yl, xh * yh]).2]) ∧ Below w.heap.size w w' := by
  have d1 : decide (xh < xl) = false := by simp; omega
  have d2 : decide (yh < yl) = false := by simp; omega
  go_enter Try.func11, Try.ntmps11
  go_wp2_with (first | (go_at_call 19; ((first | (with_reducible refine (Calls.extq (isEmpty_any _ _ _)).mono ?_) | (refine (Calls.ext (isEmpty_any _ _ _)).mono ?_)); rintro e _ ⟨rfl, y, rfl⟩)) | (go_at_call 28; ((first | (with_reducible refine (Calls.extq (single_any _ _ _)).mono ?_) | (refine (Calls.ext (single_any _ _ _)).mono ?_)); rintro e _ ⟨rfl, y, rfl⟩)) | (go_at_call 29; ((first | (with_reducible refine (Calls.extq (linear_8 _ _ _ _ _ hx1 hx2 hx3 hx4 hy1 hy2 hy3 hy4)).mono ?_) | (refine (Calls.ext (linear_8 _ _ _ _ _ hx1 hx2 hx3 hx4 hy1 hy2 hy3 hy4)).mono ?_)); rintro e _ ⟨rfl, y, rfl⟩)))
  all_goals
    refine bodyPost_ret (v := .agg #[.int .i32 (hullL [xl * yl, xl * yh, xh * yl, xh * yh]).1, .int .i32 (hullL [xl * yl, xl * yh, xh * yl, xh * yh]).2]) ?hr rfl ⟨rfl, ?bel⟩
    case hr =>
      simp [results, Try.results11, go_sem]
    case bel =>
      (repeat (first | exact Below.refl _ _ | refine Below.setCell ?_ ?_ _ | refine Ext.below ?_ ?_ _ | refine Below.alloc ?_ ?_ _)) <;> (first | (simp; done) | (simp; omega) | omega)
theorem apply_8 (xl xh yl yh : Int) (w : World) (hx1 : -2147483648 ≤ xl) (hx2 : xl ≤ 2147483647) (hx3 : -2147483648 ≤ xh) (hx4 : xh ≤ 2147483647) (hy1 : -2147483648 ≤ yl) (hy2 : yl ≤ 2147483647) (hy3 : -2147483648 ≤ yh) (hy4 : yh ≤ 2147483647) (hxe : xl ≤ xh) (hye : yl ≤ yh) (hs : ¬ (xl = xh ∧ yl = yh)) :
    Calls Try.prog 11 #[.int .u8 8, .agg #[.int .i32 xl, .int .i32 xh], .agg #[.int .i32 yl, .int .i32 yh]] w fun e w' => e = .returned (.agg #[.int .i32 (hullL [xl * yl, xl * yh, xh * yl, xh * yh]).1, .int .i32 (hullL [xl * yl, xl * yh, xh * yl, xh * yh]).2]) ∧ Below w.heap.size w w' := by
  by_cases h : xl = xh
  · exact apply_8_s xl xh yl yh w hx1 hx2 hx3 hx4 hy1 hy2 hy3 hy4 hxe hye (by simpa using h) (by simp; omega)
  · exact apply_8_n xl xh yl yh w hx1 hx2 hx3 hx4 hy1 hy2 hy3 hy4 hxe hye (by simpa using h)

set_option maxRecDepth 100000 in
set_option maxHeartbeats 1000000 in
theorem apply_10_n (xl xh yl yh : Int) (w : World) (hx1 : -2147483648 ≤ xl) (hx2 : xl ≤ 2147483647) (hx3 : -2147483648 ≤ xh) (hx4 : xh ≤ 2147483647) (hy1 : -2147483648 ≤ yl) (hy2 : yl ≤ 2147483647) (hy3 : -2147483648 ≤ yh) (hy4 : yh ≤ 2147483647) (hxe : xl ≤ xh) (hye : yl ≤ yh) (hs : (xl == xh) = false) :
    Calls Try.prog 11 #[.int .u8 10, .agg #[.int .i32 xl, .int .i32 xh], .agg #[.int .i32 yl, .int .i32 yh]] w fun e w' => e = .returned (.agg #[.int .i32 (modI (xl, xh) (yl, yh)).1, .int .i32 (modI (xl, xh) (yl, yh)).2]) ∧ Below w.heap.size w w' := by
  have d1 : decide (xh < xl) = false := by simp; omega
  have d2 : decide (yh < yl) = false := by simp; omega
  go_enter Try.func11, Try.ntmps11
  go_wp2_with (first | (go_at_call 19; ((first | (with_reducible refine (Calls.extq (isEmpty_any _ _ _)).mono ?_) | (refine (Calls.ext (isEmpty_any _ _ _)).mono ?_)); rintro e _ ⟨rfl, y, rfl⟩)) | (go_at_call 28; ((first | (with_reducible refine (Calls.extq (single_any _ _ _)).mono ?_) | (refine (Calls.ext (single_any _ _ _)).mono ?_)); rintro e _ ⟨rfl, y, rfl⟩)) | (go_at_call 31; ((first | (with_reducible refine (Calls.extq (modulo_any _ _ _ _ _ hx1 hx2 hx3 hx4 hy1 hy2 hy3 hy4 hye)).mono ?_) | (refine (Calls.ext (modulo_any _ _ _ _ _ hx1 hx2 hx3 hx4 hy1 hy2 hy3 hy4 hye)).mono ?_)); rintro e _ ⟨rfl, y, rfl⟩)))
  all_goals
    refine bodyPost_ret (v := .agg #[.int .i32 (modI (xl, xh) (yl, yh)).1, .int .i32 (modI (xl, xh) (yl, yh)).2]) ?hr rfl ⟨rfl, ?bel⟩
    case hr =>
      simp [results, Try.results11, go_sem]
    case bel =>
      (repeat (first | exact Below.refl _ _ | refine Below.setCell ?_ ?_ _ | refine Ext.below ?_ ?_ _ | refine Below.alloc ?_ ?_ _)) <;> (first | (simp; done) | (simp; omega) | omega)
set_option maxRecDepth 100000 in
set_option maxHeartbeats 1000000 in
theorem apply_10_s (xl xh yl yh : Int) (w : World) (hx1 : -2147483648 ≤ xl) (hx2 : xl ≤ 2147483647) (hx3 : -2147483648 ≤ xh) (hx4 : xh ≤ 2147483647) (hy1 : -2147483648 ≤ yl) (hy2 : yl ≤ 2147483647) (hy3 : -2147483648 ≤ yh) (hy4 : yh ≤ 2147483647) (hxe : xl ≤ xh) (hye : yl ≤ yh) (hs : (xl == xh) = true) (hs' : (yl == yh) = false) :
    Calls Try.prog 11 #[.int .u8 10, .agg #[.int .i32 xl, .int .i32 xh], .agg #[.int .i32 yl, .int .i32 yh]] w fun e w' => e = .returned (.agg #[.int .i32 (modI (xl, xh) (yl, yh)).1, .int .i32 (modI (xl, xh) (yl, yh)).2]) ∧ Below w.heap.size w w' := by
  have d1 : decide (xh < xl) = false := by simp; omega
  have d2 : decide (yh < yl) = false := by simp; omega
  go_enter Try.func11, Try.ntmps11
  go_wp2_with (first | (go_at_call 19; ((first | (with_reducible refine (Calls.extq (isEmpty_any _ _ _)).mono ?_) | (refine (Calls.ext (isEmpty_any _ _ _)).mono ?_)); rintro e _ ⟨rfl, y, rfl⟩)) | (go_at_call 28; ((first | (with_reducible refine (Calls.extq (single_any _ _ _)).mono ?_) | (refine (Calls.ext (single_any _ _ _)).mono ?_)); rintro e _ ⟨rfl, y, rfl⟩)) | (go_at_call 31; ((first | (with_reducible refine (Calls.extq (modulo_any _ _ _ _ _ hx1 hx2 hx3 hx4 hy1 hy2 hy3 hy4 hye)).mono ?_) | (refine (Calls.ext (modulo_any _ _ _ _ _ hx1 hx2 hx3 hx4 hy1 hy2 hy3 hy4 hye)).mono ?_)); rintro e _ ⟨rfl, y, rfl⟩)))
  all_goals
    refine bodyPost_ret (v := .agg #[.int .i32 (modI (xl, xh) (yl, yh)).1, .int .i32 (modI (xl, xh) (yl, yh)).2]) ?hr rfl ⟨rfl, ?bel⟩
    case hr =>
      simp [results, Try.results11, go_sem]
    case bel =>
      (repeat (first | exact Below.refl _ _ | refine Below.setCell ?_ ?_ _ | refine Ext.below ?_ ?_ _ | refine Below.alloc ?_ ?_ _)) <;> (first | (simp; done) | (simp; omega) | omega)
theorem apply_10 (xl xh yl yh : Int) (w : World) (hx1 : -2147483648 ≤ xl) (hx2 : xl ≤ 2147483647) (hx3 : -2147483648 ≤ xh) (hx4 : xh ≤ 2147483647) (hy1 : -2147483648 ≤ yl) (hy2 : yl ≤ 2147483647) (hy3 : -2147483648 ≤ yh) (hy4 : yh ≤ 2147483647) (hxe : xl ≤ xh) (hye : yl ≤ yh) (hs : ¬ (xl = xh ∧ yl = yh)) :
    Calls Try.prog 11 #[.int .u8 10, .agg #[.int .i32 xl, .int .i32 xh], .agg #[.int .i32 yl, .int .i32 yh]] w fun e w' => e = .returned (.agg #[.int .i32 (modI (xl, xh) (yl, yh)).1, .int .i32 (modI (xl, xh) (yl, yh)).2]) ∧ Below w.heap.size w w' := by
  by_cases h : xl = xh
  · exact apply_10_s xl xh yl yh w hx1 hx2 hx3 hx4 hy1 hy2 hy3 hy4 hxe hye (by simpa using h) (by simp; omega)
  · exact apply_10_n xl xh yl yh w hx1 hx2 hx3 hx4 hy1 hy2 hy3 hy4 hxe hye (by simpa using h)

set_option maxHeartbeats 400000 in
theorem mk_any (a b : Int) (w : World) :
    Calls Try.prog 49 #[.int .i32 a, .int .i32 b] w fun e w' => e = .returned (.agg #[.int .i32 a, .int .i32 b]) ∧ Below w.heap.size w w' := by
  go_enter Try.func49, Try.ntmps49
  go_wp2
  all_goals
    refine bodyPost_ret (v := .agg #[.int .i32 a, .int .i32 b]) ?hr rfl ⟨rfl, ?bel⟩
    case hr =>
      simp [results, Try.results49, go_sem]
    case bel =>
      (repeat (first | exact Below.refl _ _ | refine Below.setCell ?_ ?_ _ | refine Ext.below ?_ ?_ _ | refine Below.alloc ?_ ?_ _)) <;> (first | (simp; done) | (simp; omega) | omega)

theorem ret_pair {q p : Int × Int} (h : q = p) : Ending.returned (.agg #[.int .i32 q.1, .int .i32 q.2]) = .returned (.agg #[.int .i32 p.1, .int .i32 p.2]) := by rw [h]

set_option maxHeartbeats 2000000 in
theorem awake_any (w : World) : Calls Try.prog 14 #[] w fun e w' => e = .returned (.bool true) ∧ Below w.heap.size w w' := by
  have he := eq_iv
  go_enter Try.func14, Try.ntmps14
  go_wp2_with fail
  refine (Calls.ext (mk_any _ _ _)).mono ?_
  rintro e _ ⟨rfl, y0, rfl⟩
  go_wp2_with fail
  refine (Calls.extq (mk_any _ _ _)).mono ?_
  rintro e _ ⟨rfl, y1, rfl⟩
  go_wp2_with fail
  refine (Calls.extq ((apply_6 1 2 10 20 _ (by omega) (by omega) (by omega) (by omega) (by omega) (by omega) (by omega) (by omega) (by omega) (by omega) (by omega)).mono fun _ _ ⟨h, k⟩ => ⟨h.trans (ret_pair (p := (11, 22)) (by decide)), k⟩)).mono ?_
  rintro e _ ⟨rfl, y2, rfl⟩
  go_wp2_with fail
  refine (Calls.extq (mk_any _ _ _)).mono ?_
  rintro e _ ⟨rfl, y3, rfl⟩
  go_wp2_with fail
  refine (Calls.extq (mk_any _ _ _)).mono ?_
  rintro e _ ⟨rfl, y4, rfl⟩
  go_wp2_with fail
  refine (Calls.extq (mk_any _ _ _)).mono ?_
  rintro e _ ⟨rfl, y5, rfl⟩
  go_wp2_with fail
  refine (Calls.extq ((apply_8 (-2) 3 4 5 _ (by omega) (by omega) (by omega) (by omega) (by omega) (by omega) (by omega) (by omega) (by omega) (by omega) (by omega)).mono fun _ _ ⟨h, k⟩ => ⟨h.trans (ret_pair (p := (-10, 15)) (by decide)), k⟩)).mono ?_
  rintro e _ ⟨rfl, y6, rfl⟩
  go_wp2_with fail
  refine (Calls.extq (mk_any _ _ _)).mono ?_
  rintro e _ ⟨rfl, y7, rfl⟩
  go_wp2_with fail
  refine (Calls.extq (mk_any _ _ _)).mono ?_
  rintro e _ ⟨rfl, y8, rfl⟩
  go_wp2_with fail
  refine (Calls.extq (of_any _ _)).mono ?_
  rintro e _ ⟨rfl, y9, rfl⟩
  go_wp2_with fail
  refine (Calls.extq ((apply_6 0 1 2147483647 2147483647 _ (by omega) (by omega) (by omega) (by omega) (by omega) (by omega) (by omega) (by omega) (by omega) (by omega) (by omega)).mono fun _ _ ⟨h, k⟩ => ⟨h.trans (ret_pair (p := (-2147483648, 2147483647)) (by decide)), k⟩)).mono ?_
  rintro e _ ⟨rfl, y10, rfl⟩
  go_wp2_with fail
  refine (Calls.extq (full_any _)).mono ?_
  rintro e _ ⟨rfl, y11, rfl⟩
  go_wp2_with fail
  refine (Calls.extq (mk_any _ _ _)).mono ?_
  rintro e _ ⟨rfl, y12, rfl⟩
  go_wp2_with fail
  refine (Calls.extq (mk_any _ _ _)).mono ?_
  rintro e _ ⟨rfl, y13, rfl⟩
  go_wp2_with fail
  refine (Calls.extq ((apply_10 (-9) 40 3 8 _ (by omega) (by omega) (by omega) (by omega) (by omega) (by omega) (by omega) (by omega) (by omega) (by omega) (by omega)).mono fun _ _ ⟨h, k⟩ => ⟨h.trans (ret_pair (p := (-7, 7)) (by decide)), k⟩)).mono ?_
  rintro e _ ⟨rfl, y14, rfl⟩
  go_wp2_with fail
  refine (Calls.extq (mk_any _ _ _)).mono ?_
  rintro e _ ⟨rfl, y15, rfl⟩
  go_wp2_with fail
  refine (Calls.extq (empty_any _)).mono ?_
  rintro e _ ⟨rfl, y16, rfl⟩
  go_wp2_with fail
  refine (Calls.extq (isEmpty_any _ _ _)).mono ?_
  rintro e _ ⟨rfl, y17, rfl⟩
  go_wp2
  go_ret
  refine ⟨rfl, ?_⟩
  (repeat (first | exact Below.refl _ _ | refine Below.setCell ?_ ?_ _ | refine Ext.below ?_ ?_ _ | refine Below.alloc ?_ ?_ _)) <;> (first | (simp; done) | (simp; omega) | omega)

end Go.Proofs.Ytjkjcnamlankoaa
