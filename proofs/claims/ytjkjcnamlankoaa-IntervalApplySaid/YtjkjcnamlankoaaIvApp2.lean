/-
  What is proved here: what interval.Apply returns, for every operator.
-/
import Derived.Test.YtjkjcnamlankoaaIvDiv
import Derived.Test.YtjkjcnamlankoaaIvApply1
namespace Go.Proofs.Ytjkjcnamlankoaa
open Go.RowKit
set_option linter.unusedVariables false
set_option linter.unusedSimpArgs false

set_option maxRecDepth 100000 in
set_option maxHeartbeats 1000000 in
theorem apply_9_n (xl xh yl yh : Int) (w : World) (hx1 : -2147483648 ≤ xl) (hx2 : xl ≤ 2147483647) (hx3 : -2147483648 ≤ xh) (hx4 : xh ≤ 2147483647) (hy1 : -2147483648 ≤ yl) (hy2 : yl ≤ 2147483647) (hy3 : -2147483648 ≤ yh) (hy4 : yh ≤ 2147483647) (hxe : xl ≤ xh) (hye : yl ≤ yh) (hs : (xl == xh) = false) :
    Calls Try.prog 11 #[.int .u8 9, .agg #[.int .i32 xl, .int .i32 xh], .agg #[.int .i32 yl, .int .i32 yh]] w fun e w' => e = .returned (.agg #[.int .i32 (divI (xl, xh) (yl, yh)).1, .int .i32 (divI (xl, xh) (yl, yh)).2]) ∧ Below w.heap.size w w' := by
  have d1 : decide (xh < xl) = false := by simp; omega
  have d2 : decide (yh < yl) = false := by simp; omega
  go_enter Try.func11, Try.ntmps11
  go_wp2_with (first | (go_at_call 19; ((first | (with_reducible refine (Calls.extq (isEmpty_any _ _ _)).mono ?_) | (refine (Calls.ext (isEmpty_any _ _ _)).mono ?_)); rintro e _ ⟨rfl, y, rfl⟩)) | (go_at_call 28; ((first | (with_reducible refine (Calls.extq (single_any _ _ _)).mono ?_) | (refine (Calls.ext (single_any _ _ _)).mono ?_)); rintro e _ ⟨rfl, y, rfl⟩)) | (go_at_call 30; ((first | (with_reducible refine (Calls.extq (divide_any _ _ _ _ _ (by assumption) (by assumption) (by assumption) (by assumption) (by assumption) (by assumption) (by assumption) (by assumption) (by assumption) (by assumption))).mono ?_) | (refine (Calls.ext (divide_any _ _ _ _ _ (by assumption) (by assumption) (by assumption) (by assumption) (by assumption) (by assumption) (by assumption) (by assumption) (by assumption) (by assumption))).mono ?_)); rintro e _ ⟨rfl, y, rfl⟩)))
  all_goals
    refine bodyPost_ret (v := .agg #[.int .i32 (divI (xl, xh) (yl, yh)).1, .int .i32 (divI (xl, xh) (yl, yh)).2]) ?hr rfl ⟨rfl, ?bel⟩
    case hr =>
      simp [results, Try.results11, go_sem]
    case bel =>
      (repeat (first | exact Below.refl _ _ | refine Below.setCell ?_ ?_ _ | refine Ext.below ?_ ?_ _ | refine Below.alloc ?_ ?_ _)) <;> (first | (simp; done) | (simp; omega) | omega | (simp only [World.size_setCell, World.size_alloc]; refine Nat.le_trans ?_ (Below.size (Ext.h _)); simp only [World.size_setCell, World.size_alloc]; omega))
set_option maxRecDepth 100000 in
set_option maxHeartbeats 1000000 in
theorem apply_9_s (xl xh yl yh : Int) (w : World) (hx1 : -2147483648 ≤ xl) (hx2 : xl ≤ 2147483647) (hx3 : -2147483648 ≤ xh) (hx4 : xh ≤ 2147483647) (hy1 : -2147483648 ≤ yl) (hy2 : yl ≤ 2147483647) (hy3 : -2147483648 ≤ yh) (hy4 : yh ≤ 2147483647) (hxe : xl ≤ xh) (hye : yl ≤ yh) (hs : (xl == xh) = true) (hs' : (yl == yh) = false) :
    Calls Try.prog 11 #[.int .u8 9, .agg #[.int .i32 xl, .int .i32 xh], .agg #[.int .i32 yl, .int .i32 yh]] w fun e w' => e = .returned (.agg #[.int .i32 (divI (xl, xh) (yl, yh)).1, .int .i32 (divI (xl, xh) (yl, yh)).2]) ∧ Below w.heap.size w w' := by
  have d1 : decide (xh < xl) = false := by simp; omega
  have d2 : decide (yh < yl) = false := by simp; omega
  go_enter Try.func11, Try.ntmps11
  go_wp2_with (first | (go_at_call 19; ((first | (with_reducible refine (Calls.extq (isEmpty_any _ _ _)).mono ?_) | (refine (Calls.ext (isEmpty_any _ _ _)).mono ?_)); rintro e _ ⟨rfl, y, rfl⟩)) | (go_at_call 28; ((first | (with_reducible refine (Calls.extq (single_any _ _ _)).mono ?_) | (refine (Calls.ext (single_any _ _ _)).mono ?_)); rintro e _ ⟨rfl, y, rfl⟩)) | (go_at_call 30; ((first | (with_reducible refine (Calls.extq (divide_any _ _ _ _ _ (by assumption) (by assumption) (by assumption) (by assumption) (by assumption) (by assumption) (by assumption) (by assumption) (by assumption) (by assumption))).mono ?_) | (refine (Calls.ext (divide_any _ _ _ _ _ (by assumption) (by assumption) (by assumption) (by assumption) (by assumption) (by assumption) (by assumption) (by assumption) (by assumption) (by assumption))).mono ?_)); rintro e _ ⟨rfl, y, rfl⟩)))
  all_goals
    refine bodyPost_ret (v := .agg #[.int .i32 (divI (xl, xh) (yl, yh)).1, .int .i32 (divI (xl, xh) (yl, yh)).2]) ?hr rfl ⟨rfl, ?bel⟩
    case hr =>
      simp [results, Try.results11, go_sem]
    case bel =>
      (repeat (first | exact Below.refl _ _ | refine Below.setCell ?_ ?_ _ | refine Ext.below ?_ ?_ _ | refine Below.alloc ?_ ?_ _)) <;> (first | (simp; done) | (simp; omega) | omega | (simp only [World.size_setCell, World.size_alloc]; refine Nat.le_trans ?_ (Below.size (Ext.h _)); simp only [World.size_setCell, World.size_alloc]; omega))
theorem apply_9 (xl xh yl yh : Int) (w : World) (hx1 : -2147483648 ≤ xl) (hx2 : xl ≤ 2147483647) (hx3 : -2147483648 ≤ xh) (hx4 : xh ≤ 2147483647) (hy1 : -2147483648 ≤ yl) (hy2 : yl ≤ 2147483647) (hy3 : -2147483648 ≤ yh) (hy4 : yh ≤ 2147483647) (hxe : xl ≤ xh) (hye : yl ≤ yh) (hs : ¬ (xl = xh ∧ yl = yh)) :
    Calls Try.prog 11 #[.int .u8 9, .agg #[.int .i32 xl, .int .i32 xh], .agg #[.int .i32 yl, .int .i32 yh]] w fun e w' => e = .returned (.agg #[.int .i32 (divI (xl, xh) (yl, yh)).1, .int .i32 (divI (xl, xh) (yl, yh)).2]) ∧ Below w.heap.size w w' := by
  by_cases h : xl = xh
  · exact apply_9_s xl xh yl yh w hx1 hx2 hx3 hx4 hy1 hy2 hy3 hy4 hxe hye (by simpa using h) (by simp; omega)
  · exact apply_9_n xl xh yl yh w hx1 hx2 hx3 hx4 hy1 hy2 hy3 hy4 hxe hye (by simpa using h)

set_option maxRecDepth 100000 in
set_option maxHeartbeats 1000000 in
theorem apply_11_n (xl xh yl yh : Int) (w : World) (hx1 : -2147483648 ≤ xl) (hx2 : xl ≤ 2147483647) (hx3 : -2147483648 ≤ xh) (hx4 : xh ≤ 2147483647) (hy1 : -2147483648 ≤ yl) (hy2 : yl ≤ 2147483647) (hy3 : -2147483648 ≤ yh) (hy4 : yh ≤ 2147483647) (hxe : xl ≤ xh) (hye : yl ≤ yh) (hs : (xl == xh) = false) :
    Calls Try.prog 11 #[.int .u8 11, .agg #[.int .i32 xl, .int .i32 xh], .agg #[.int .i32 yl, .int .i32 yh]] w fun e w' => e = .returned (.agg #[.int .i32 (bitI 11 (xl, xh) (yl, yh)).1, .int .i32 (bitI 11 (xl, xh) (yl, yh)).2]) ∧ Below w.heap.size w w' := by
  have d1 : decide (xh < xl) = false := by simp; omega
  have d2 : decide (yh < yl) = false := by simp; omega
  go_enter Try.func11, Try.ntmps11
  go_wp2_with (first | (go_at_call 19; ((first | (with_reducible refine (Calls.extq (isEmpty_any _ _ _)).mono ?_) | (refine (Calls.ext (isEmpty_any _ _ _)).mono ?_)); rintro e _ ⟨rfl, y, rfl⟩)) | (go_at_call 28; ((first | (with_reducible refine (Calls.extq (single_any _ _ _)).mono ?_) | (refine (Calls.ext (single_any _ _ _)).mono ?_)); rintro e _ ⟨rfl, y, rfl⟩)) | (go_at_call 32; ((first | (with_reducible refine (Calls.extq (bitwise_any _ _ _ _ _ _ (by assumption) (by assumption) (by assumption) (by assumption) (by decide) (by decide) (by assumption) (by assumption))).mono ?_) | (refine (Calls.ext (bitwise_any _ _ _ _ _ _ (by assumption) (by assumption) (by assumption) (by assumption) (by decide) (by decide) (by assumption) (by assumption))).mono ?_)); rintro e _ ⟨rfl, y, rfl⟩)))
  all_goals
    refine bodyPost_ret (v := .agg #[.int .i32 (bitI 11 (xl, xh) (yl, yh)).1, .int .i32 (bitI 11 (xl, xh) (yl, yh)).2]) ?hr rfl ⟨rfl, ?bel⟩
    case hr =>
      simp [results, Try.results11, go_sem]
    case bel =>
      (repeat (first | exact Below.refl _ _ | refine Below.setCell ?_ ?_ _ | refine Ext.below ?_ ?_ _ | refine Below.alloc ?_ ?_ _)) <;> (first | (simp; done) | (simp; omega) | omega | (simp only [World.size_setCell, World.size_alloc]; refine Nat.le_trans ?_ (Below.size (Ext.h _)); simp only [World.size_setCell, World.size_alloc]; omega))
set_option maxRecDepth 100000 in
set_option maxHeartbeats 1000000 in
theorem apply_11_s (xl xh yl yh : Int) (w : World) (hx1 : -2147483648 ≤ xl) (hx2 : xl ≤ 2147483647) (hx3 : -2147483648 ≤ xh) (hx4 : xh ≤ 2147483647) (hy1 : -2147483648 ≤ yl) (hy2 : yl ≤ 2147483647) (hy3 : -2147483648 ≤ yh) (hy4 : yh ≤ 2147483647) (hxe : xl ≤ xh) (hye : yl ≤ yh) (hs : (xl == xh) = true) (hs' : (yl == yh) = false) :
    Calls Try.prog 11 #[.int .u8 11, .agg #[.int .i32 xl, .int .i32 xh], .agg #[.int .i32 yl, .int .i32 yh]] w fun e w' => e = .returned (.agg #[.int .i32 (bitI 11 (xl, xh) (yl, yh)).1, .int .i32 (bitI 11 (xl, xh) (yl, yh)).2]) ∧ Below w.heap.size w w' := by
  have d1 : decide (xh < xl) = false := by simp; omega
  have d2 : decide (yh < yl) = false := by simp; omega
  go_enter Try.func11, Try.ntmps11
  go_wp2_with (first | (go_at_call 19; ((first | (with_reducible refine (Calls.extq (isEmpty_any _ _ _)).mono ?_) | (refine (Calls.ext (isEmpty_any _ _ _)).mono ?_)); rintro e _ ⟨rfl, y, rfl⟩)) | (go_at_call 28; ((first | (with_reducible refine (Calls.extq (single_any _ _ _)).mono ?_) | (refine (Calls.ext (single_any _ _ _)).mono ?_)); rintro e _ ⟨rfl, y, rfl⟩)) | (go_at_call 32; ((first | (with_reducible refine (Calls.extq (bitwise_any _ _ _ _ _ _ (by assumption) (by assumption) (by assumption) (by assumption) (by decide) (by decide) (by assumption) (by assumption))).mono ?_) | (refine (Calls.ext (bitwise_any _ _ _ _ _ _ (by assumption) (by assumption) (by assumption) (by assumption) (by decide) (by decide) (by assumption) (by assumption))).mono ?_)); rintro e _ ⟨rfl, y, rfl⟩)))
  all_goals
    refine bodyPost_ret (v := .agg #[.int .i32 (bitI 11 (xl, xh) (yl, yh)).1, .int .i32 (bitI 11 (xl, xh) (yl, yh)).2]) ?hr rfl ⟨rfl, ?bel⟩
    case hr =>
      simp [results, Try.results11, go_sem]
    case bel =>
      (repeat (first | exact Below.refl _ _ | refine Below.setCell ?_ ?_ _ | refine Ext.below ?_ ?_ _ | refine Below.alloc ?_ ?_ _)) <;> (first | (simp; done) | (simp; omega) | omega | (simp only [World.size_setCell, World.size_alloc]; refine Nat.le_trans ?_ (Below.size (Ext.h _)); simp only [World.size_setCell, World.size_alloc]; omega))
theorem apply_11 (xl xh yl yh : Int) (w : World) (hx1 : -2147483648 ≤ xl) (hx2 : xl ≤ 2147483647) (hx3 : -2147483648 ≤ xh) (hx4 : xh ≤ 2147483647) (hy1 : -2147483648 ≤ yl) (hy2 : yl ≤ 2147483647) (hy3 : -2147483648 ≤ yh) (hy4 : yh ≤ 2147483647) (hxe : xl ≤ xh) (hye : yl ≤ yh) (hs : ¬ (xl = xh ∧ yl = yh)) :
    Calls Try.prog 11 #[.int .u8 11, .agg #[.int .i32 xl, .int .i32 xh], .agg #[.int .i32 yl, .int .i32 yh]] w fun e w' => e = .returned (.agg #[.int .i32 (bitI 11 (xl, xh) (yl, yh)).1, .int .i32 (bitI 11 (xl, xh) (yl, yh)).2]) ∧ Below w.heap.size w w' := by
  by_cases h : xl = xh
  · exact apply_11_s xl xh yl yh w hx1 hx2 hx3 hx4 hy1 hy2 hy3 hy4 hxe hye (by simpa using h) (by simp; omega)
  · exact apply_11_n xl xh yl yh w hx1 hx2 hx3 hx4 hy1 hy2 hy3 hy4 hxe hye (by simpa using h)

set_option maxRecDepth 100000 in
set_option maxHeartbeats 1000000 in
theorem apply_12_n (xl xh yl yh : Int) (w : World) (hx1 : -2147483648 ≤ xl) (hx2 : xl ≤ 2147483647) (hx3 : -2147483648 ≤ xh) (hx4 : xh ≤ 2147483647) (hy1 : -2147483648 ≤ yl) (hy2 : yl ≤ 2147483647) (hy3 : -2147483648 ≤ yh) (hy4 : yh ≤ 2147483647) (hxe : xl ≤ xh) (hye : yl ≤ yh) (hs : (xl == xh) = false) :
    Calls Try.prog 11 #[.int .u8 12, .agg #[.int .i32 xl, .int .i32 xh], .agg #[.int .i32 yl, .int .i32 yh]] w fun e w' => e = .returned (.agg #[.int .i32 (bitI 12 (xl, xh) (yl, yh)).1, .int .i32 (bitI 12 (xl, xh) (yl, yh)).2]) ∧ Below w.heap.size w w' := by
  have d1 : decide (xh < xl) = false := by simp; omega
  have d2 : decide (yh < yl) = false := by simp; omega
  go_enter Try.func11, Try.ntmps11
  go_wp2_with (first | (go_at_call 19; ((first | (with_reducible refine (Calls.extq (isEmpty_any _ _ _)).mono ?_) | (refine (Calls.ext (isEmpty_any _ _ _)).mono ?_)); rintro e _ ⟨rfl, y, rfl⟩)) | (go_at_call 28; ((first | (with_reducible refine (Calls.extq (single_any _ _ _)).mono ?_) | (refine (Calls.ext (single_any _ _ _)).mono ?_)); rintro e _ ⟨rfl, y, rfl⟩)) | (go_at_call 32; ((first | (with_reducible refine (Calls.extq (bitwise_any _ _ _ _ _ _ (by assumption) (by assumption) (by assumption) (by assumption) (by decide) (by decide) (by assumption) (by assumption))).mono ?_) | (refine (Calls.ext (bitwise_any _ _ _ _ _ _ (by assumption) (by assumption) (by assumption) (by assumption) (by decide) (by decide) (by assumption) (by assumption))).mono ?_)); rintro e _ ⟨rfl, y, rfl⟩)))
  all_goals
    refine bodyPost_ret (v := .agg #[.int .i32 (bitI 12 (xl, xh) (yl, yh)).1, .int .i32 (bitI 12 (xl, xh) (yl, yh)).2]) ?hr rfl ⟨rfl, ?bel⟩
    case hr =>
      simp [results, Try.results11, go_sem]
    case bel =>
      (repeat (first | exact Below.refl _ _ | refine Below.setCell ?_ ?_ _ | refine Ext.below ?_ ?_ _ | refine Below.alloc ?_ ?_ _)) <;> (first | (simp; done) | (simp; omega) | omega | (simp only [World.size_setCell, World.size_alloc]; refine Nat.le_trans ?_ (Below.size (Ext.h _)); simp only [World.size_setCell, World.size_alloc]; omega))
set_option maxRecDepth 100000 in
set_option maxHeartbeats 1000000 in
theorem apply_12_s (xl xh yl yh : Int) (w : World) (hx1 : -2147483648 ≤ xl) (hx2 : xl ≤ 2147483647) (hx3 : -2147483648 ≤ xh) (hx4 : xh ≤ 2147483647) (hy1 : -2147483648 ≤ yl) (hy2 : yl ≤ 2147483647) (hy3 : -2147483648 ≤ yh) (hy4 : yh ≤ 2147483647) (hxe : xl ≤ xh) (hye : yl ≤ yh) (hs : (xl == xh) = true) (hs' : (yl == yh) = false) :
    Calls Try.prog 11 #[.int .u8 12, .agg #[.int .i32 xl, .int .i32 xh], .agg #[.int .i32 yl, .int .i32 yh]] w fun e w' => e = .returned (.agg #[.int .i32 (bitI 12 (xl, xh) (yl, yh)).1, .int .i32 (bitI 12 (xl, xh) (yl, yh)).2]) ∧ Below w.heap.size w w' := by
  have d1 : decide (xh < xl) = false := by simp; omega
  have d2 : decide (yh < yl) = false := by simp; omega
  go_enter Try.func11, Try.ntmps11
  go_wp2_with (first | (go_at_call 19; ((first | (with_reducible refine (Calls.extq (isEmpty_any _ _ _)).mono ?_) | (refine (Calls.ext (isEmpty_any _ _ _)).mono ?_)); rintro e _ ⟨rfl, y, rfl⟩)) | (go_at_call 28; ((first | (with_reducible refine (Calls.extq (single_any _ _ _)).mono ?_) | (refine (Calls.ext (single_any _ _ _)).mono ?_)); rintro e _ ⟨rfl, y, rfl⟩)) | (go_at_call 32; ((first | (with_reducible refine (Calls.extq (bitwise_any _ _ _ _ _ _ (by assumption) (by assumption) (by assumption) (by assumption) (by decide) (by decide) (by assumption) (by assumption))).mono ?_) | (refine (Calls.ext (bitwise_any _ _ _ _ _ _ (by assumption) (by assumption) (by assumption) (by assumption) (by decide) (by decide) (by assumption) (by assumption))).mono ?_)); rintro e _ ⟨rfl, y, rfl⟩)))
  all_goals
    refine bodyPost_ret (v := .agg #[.int .i32 (bitI 12 (xl, xh) (yl, yh)).1, .int .i32 (bitI 12 (xl, xh) (yl, yh)).2]) ?hr rfl ⟨rfl, ?bel⟩
    case hr =>
      simp [results, Try.results11, go_sem]
    case bel =>
      (repeat (first | exact Below.refl _ _ | refine Below.setCell ?_ ?_ _ | refine Ext.below ?_ ?_ _ | refine Below.alloc ?_ ?_ _)) <;> (first | (simp; done) | (simp; omega) | omega | (simp only [World.size_setCell, World.size_alloc]; refine Nat.le_trans ?_ (Below.size (Ext.h _)); simp only [World.size_setCell, World.size_alloc]; omega))
theorem apply_12 (xl xh yl yh : Int) (w : World) (hx1 : -2147483648 ≤ xl) (hx2 : xl ≤ 2147483647) (hx3 : -2147483648 ≤ xh) (hx4 : xh ≤ 2147483647) (hy1 : -2147483648 ≤ yl) (hy2 : yl ≤ 2147483647) (hy3 : -2147483648 ≤ yh) (hy4 : yh ≤ 2147483647) (hxe : xl ≤ xh) (hye : yl ≤ yh) (hs : ¬ (xl = xh ∧ yl = yh)) :
    Calls Try.prog 11 #[.int .u8 12, .agg #[.int .i32 xl, .int .i32 xh], .agg #[.int .i32 yl, .int .i32 yh]] w fun e w' => e = .returned (.agg #[.int .i32 (bitI 12 (xl, xh) (yl, yh)).1, .int .i32 (bitI 12 (xl, xh) (yl, yh)).2]) ∧ Below w.heap.size w w' := by
  by_cases h : xl = xh
  · exact apply_12_s xl xh yl yh w hx1 hx2 hx3 hx4 hy1 hy2 hy3 hy4 hxe hye (by simpa using h) (by simp; omega)
  · exact apply_12_n xl xh yl yh w hx1 hx2 hx3 hx4 hy1 hy2 hy3 hy4 hxe hye (by simpa using h)

set_option maxRecDepth 100000 in
set_option maxHeartbeats 1000000 in
theorem apply_13_n (xl xh yl yh : Int) (w : World) (hx1 : -2147483648 ≤ xl) (hx2 : xl ≤ 2147483647) (hx3 : -2147483648 ≤ xh) (hx4 : xh ≤ 2147483647) (hy1 : -2147483648 ≤ yl) (hy2 : yl ≤ 2147483647) (hy3 : -2147483648 ≤ yh) (hy4 : yh ≤ 2147483647) (hxe : xl ≤ xh) (hye : yl ≤ yh) (hs : (xl == xh) = false) :
    Calls Try.prog 11 #[.int .u8 13, .agg #[.int .i32 xl, .int .i32 xh], .agg #[.int .i32 yl, .int .i32 yh]] w fun e w' => e = .returned (.agg #[.int .i32 (bitI 13 (xl, xh) (yl, yh)).1, .int .i32 (bitI 13 (xl, xh) (yl, yh)).2]) ∧ Below w.heap.size w w' := by
  have d1 : decide (xh < xl) = false := by simp; omega
  have d2 : decide (yh < yl) = false := by simp; omega
  go_enter Try.func11, Try.ntmps11
  go_wp2_with (first | (go_at_call 19; ((first | (with_reducible refine (Calls.extq (isEmpty_any _ _ _)).mono ?_) | (refine (Calls.ext (isEmpty_any _ _ _)).mono ?_)); rintro e _ ⟨rfl, y, rfl⟩)) | (go_at_call 28; ((first | (with_reducible refine (Calls.extq (single_any _ _ _)).mono ?_) | (refine (Calls.ext (single_any _ _ _)).mono ?_)); rintro e _ ⟨rfl, y, rfl⟩)) | (go_at_call 32; ((first | (with_reducible refine (Calls.extq (bitwise_any _ _ _ _ _ _ (by assumption) (by assumption) (by assumption) (by assumption) (by decide) (by decide) (by assumption) (by assumption))).mono ?_) | (refine (Calls.ext (bitwise_any _ _ _ _ _ _ (by assumption) (by assumption) (by assumption) (by assumption) (by decide) (by decide) (by assumption) (by assumption))).mono ?_)); rintro e _ ⟨rfl, y, rfl⟩)))
  all_goals
    refine bodyPost_ret (v := .agg #[.int .i32 (bitI 13 (xl, xh) (yl, yh)).1, .int .i32 (bitI 13 (xl, xh) (yl, yh)).2]) ?hr rfl ⟨rfl, ?bel⟩
    case hr =>
      simp [results, Try.results11, go_sem]
    case bel =>
      (repeat (first | exact Below.refl _ _ | refine Below.setCell ?_ ?_ _ | refine Ext.below ?_ ?_ _ | refine Below.alloc ?_ ?_ _)) <;> (first | (simp; done) | (simp; omega) | omega | (simp only [World.size_setCell, World.size_alloc]; refine Nat.le_trans ?_ (Below.size (Ext.h _)); simp only [World.size_setCell, World.size_alloc]; omega))
set_option maxRecDepth 100000 in
set_option maxHeartbeats 1000000 in
theorem apply_13_s (xl xh yl yh : Int) (w : World) (hx1 : -2147483648 ≤ xl) (hx2 : xl ≤ 2147483647) (hx3 : -2147483648 ≤ xh) (hx4 : xh ≤ 2147483647) (hy1 : -2147483648 ≤ yl) (hy2 : yl ≤ 2147483647) (hy3 : -2147483648 ≤ yh) (hy4 : yh ≤ 2147483647) (hxe : xl ≤ xh) (hye : yl ≤ yh) (hs : (xl == xh) = true) (hs' : (yl == yh) = false) :
    Calls Try.prog 11 #[.int .u8 13, .agg #[.int .i32 xl, .int .i32 xh], .agg #[.int .i32 yl, .int .i32 yh]] w fun e w' => e = .returned (.agg #[.int .i32 (bitI 13 (xl, xh) (yl, yh)).1, .int .i32 (bitI 13 (xl, xh) (yl, yh)).2]) ∧ Below w.heap.size w w' := by
  have d1 : decide (xh < xl) = false := by simp; omega
  have d2 : decide (yh < yl) = false := by simp; omega
  go_enter Try.func11, Try.ntmps11
  go_wp2_with (first | (go_at_call 19; ((first | (with_reducible refine (Calls.extq (isEmpty_any _ _ _)).mono ?_) | (refine (Calls.ext (isEmpty_any _ _ _)).mono ?_)); rintro e _ ⟨rfl, y, rfl⟩)) | (go_at_call 28; ((first | (with_reducible refine (Calls.extq (single_any _ _ _)).mono ?_) | (refine (Calls.ext (single_any _ _ _)).mono ?_)); rintro e _ ⟨rfl, y, rfl⟩)) | (go_at_call 32; ((first | (with_reducible refine (Calls.extq (bitwise_any _ _ _ _ _ _ (by assumption) (by assumption) (by assumption) (by assumption) (by decide) (by decide) (by assumption) (by assumption))).mono ?_) | (refine (Calls.ext (bitwise_any _ _ _ _ _ _ (by assumption) (by assumption) (by assumption) (by assumption) (by decide) (by decide) (by assumption) (by assumption))).mono ?_)); rintro e _ ⟨rfl, y, rfl⟩)))
  all_goals
    refine bodyPost_ret (v := .agg #[.int .i32 (bitI 13 (xl, xh) (yl, yh)).1, .int .i32 (bitI 13 (xl, xh) (yl, yh)).2]) ?hr rfl ⟨rfl, ?bel⟩
    case hr =>
      simp [results, Try.results11, go_sem]
    case bel =>
      (repeat (first | exact Below.refl _ _ | refine Below.setCell ?_ ?_ _ | refine Ext.below ?_ ?_ _ | refine Below.alloc ?_ ?_ _)) <;> (first | (simp; done) | (simp; omega) | omega | (simp only [World.size_setCell, World.size_alloc]; refine Nat.le_trans ?_ (Below.size (Ext.h _)); simp only [World.size_setCell, World.size_alloc]; omega))
theorem apply_13 (xl xh yl yh : Int) (w : World) (hx1 : -2147483648 ≤ xl) (hx2 : xl ≤ 2147483647) (hx3 : -2147483648 ≤ xh) (hx4 : xh ≤ 2147483647) (hy1 : -2147483648 ≤ yl) (hy2 : yl ≤ 2147483647) (hy3 : -2147483648 ≤ yh) (hy4 : yh ≤ 2147483647) (hxe : xl ≤ xh) (hye : yl ≤ yh) (hs : ¬ (xl = xh ∧ yl = yh)) :
    Calls Try.prog 11 #[.int .u8 13, .agg #[.int .i32 xl, .int .i32 xh], .agg #[.int .i32 yl, .int .i32 yh]] w fun e w' => e = .returned (.agg #[.int .i32 (bitI 13 (xl, xh) (yl, yh)).1, .int .i32 (bitI 13 (xl, xh) (yl, yh)).2]) ∧ Below w.heap.size w w' := by
  by_cases h : xl = xh
  · exact apply_13_s xl xh yl yh w hx1 hx2 hx3 hx4 hy1 hy2 hy3 hy4 hxe hye (by simpa using h) (by simp; omega)
  · exact apply_13_n xl xh yl yh w hx1 hx2 hx3 hx4 hy1 hy2 hy3 hy4 hxe hye (by simpa using h)

set_option maxRecDepth 100000 in
set_option maxHeartbeats 1000000 in
theorem apply_14_n (xl xh yl yh : Int) (w : World) (hx1 : -2147483648 ≤ xl) (hx2 : xl ≤ 2147483647) (hx3 : -2147483648 ≤ xh) (hx4 : xh ≤ 2147483647) (hy1 : -2147483648 ≤ yl) (hy2 : yl ≤ 2147483647) (hy3 : -2147483648 ≤ yh) (hy4 : yh ≤ 2147483647) (hxe : xl ≤ xh) (hye : yl ≤ yh) (hs : (xl == xh) = false) :
    Calls Try.prog 11 #[.int .u8 14, .agg #[.int .i32 xl, .int .i32 xh], .agg #[.int .i32 yl, .int .i32 yh]] w fun e w' => e = .returned (.agg #[.int .i32 (shI 14 (xl, xh) (yl, yh)).1, .int .i32 (shI 14 (xl, xh) (yl, yh)).2]) ∧ Below w.heap.size w w' := by
  have d1 : decide (xh < xl) = false := by simp; omega
  have d2 : decide (yh < yl) = false := by simp; omega
  go_enter Try.func11, Try.ntmps11
  go_wp2_with (first | (go_at_call 19; ((first | (with_reducible refine (Calls.extq (isEmpty_any _ _ _)).mono ?_) | (refine (Calls.ext (isEmpty_any _ _ _)).mono ?_)); rintro e _ ⟨rfl, y, rfl⟩)) | (go_at_call 28; ((first | (with_reducible refine (Calls.extq (single_any _ _ _)).mono ?_) | (refine (Calls.ext (single_any _ _ _)).mono ?_)); rintro e _ ⟨rfl, y, rfl⟩)) | (go_at_call 33; ((first | (with_reducible refine (Calls.extq (shift_any _ _ _ _ _ _ (by assumption) (by assumption) (by assumption) (by assumption) (by assumption) (by assumption) (by decide) (by decide))).mono ?_) | (refine (Calls.ext (shift_any _ _ _ _ _ _ (by assumption) (by assumption) (by assumption) (by assumption) (by assumption) (by assumption) (by decide) (by decide))).mono ?_)); rintro e _ ⟨rfl, y, rfl⟩)))
  all_goals
    refine bodyPost_ret (v := .agg #[.int .i32 (shI 14 (xl, xh) (yl, yh)).1, .int .i32 (shI 14 (xl, xh) (yl, yh)).2]) ?hr rfl ⟨rfl, ?bel⟩
    case hr =>
      simp [results, Try.results11, go_sem]
    case bel =>
      (repeat (first | exact Below.refl _ _ | refine Below.setCell ?_ ?_ _ | refine Ext.below ?_ ?_ _ | refine Below.alloc ?_ ?_ _)) <;> (first | (simp; done) | (simp; omega) | omega | (simp only [World.size_setCell, World.size_alloc]; refine Nat.le_trans ?_ (Below.size (Ext.h _)); simp only [World.size_setCell, World.size_alloc]; omega))
set_option maxRecDepth 100000 in
set_option maxHeartbeats 1000000 in
theorem apply_14_s (xl xh yl yh : Int) (w : World) (hx1 : -2147483648 ≤ xl) (hx2 : xl ≤ 2147483647) (hx3 : -2147483648 ≤ xh) (hx4 : xh ≤ 2147483647) (hy1 : -2147483648 ≤ yl) (hy2 : yl ≤ 2147483647) (hy3 : -2147483648 ≤ yh) (hy4 : yh ≤ 2147483647) (hxe : xl ≤ xh) (hye : yl ≤ yh) (hs : (xl == xh) = true) (hs' : (yl == yh) = false) :
    Calls Try.prog 11 #[.int .u8 14, .agg #[.int .i32 xl, .int .i32 xh], .agg #[.int .i32 yl, .int .i32 yh]] w fun e w' => e = .returned (.agg #[.int .i32 (shI 14 (xl, xh) (yl, yh)).1, .int .i32 (shI 14 (xl, xh) (yl, yh)).2]) ∧ Below w.heap.size w w' := by
  have d1 : decide (xh < xl) = false := by simp; omega
  have d2 : decide (yh < yl) = false := by simp; omega
  go_enter Try.func11, Try.ntmps11
  go_wp2_with (first | (go_at_call 19; ((first | (with_reducible refine (Calls.extq (isEmpty_any _ _ _)).mono ?_) | (refine (Calls.ext (isEmpty_any _ _ _)).mono ?_)); rintro e _ ⟨rfl, y, rfl⟩)) | (go_at_call 28; ((first | (with_reducible refine (Calls.extq (single_any _ _ _)).mono ?_) | (refine (Calls.ext (single_any _ _ _)).mono ?_)); rintro e _ ⟨rfl, y, rfl⟩)) | (go_at_call 33; ((first | (with_reducible refine (Calls.extq (shift_any _ _ _ _ _ _ (by assumption) (by assumption) (by assumption) (by assumption) (by assumption) (by assumption) (by decide) (by decide))).mono ?_) | (refine (Calls.ext (shift_any _ _ _ _ _ _ (by assumption) (by assumption) (by assumption) (by assumption) (by assumption) (by assumption) (by decide) (by decide))).mono ?_)); rintro e _ ⟨rfl, y, rfl⟩)))
  all_goals
    refine bodyPost_ret (v := .agg #[.int .i32 (shI 14 (xl, xh) (yl, yh)).1, .int .i32 (shI 14 (xl, xh) (yl, yh)).2]) ?hr rfl ⟨rfl, ?bel⟩
    case hr =>
      simp [results, Try.results11, go_sem]
    case bel =>
      (repeat (first | exact Below.refl _ _ | refine Below.setCell ?_ ?_ _ | refine Ext.below ?_ ?_ _ | refine Below.alloc ?_ ?_ _)) <;> (first | (simp; done) | (simp; omega) | omega | (simp only [World.size_setCell, World.size_alloc]; refine Nat.le_trans ?_ (Below.size (Ext.h _)); simp only [World.size_setCell, World.size_alloc]; omega))
theorem apply_14 (xl xh yl yh : Int) (w : World) (hx1 : -2147483648 ≤ xl) (hx2 : xl ≤ 2147483647) (hx3 : -2147483648 ≤ xh) (hx4 : xh ≤ 2147483647) (hy1 : -2147483648 ≤ yl) (hy2 : yl ≤ 2147483647) (hy3 : -2147483648 ≤ yh) (hy4 : yh ≤ 2147483647) (hxe : xl ≤ xh) (hye : yl ≤ yh) (hs : ¬ (xl = xh ∧ yl = yh)) :
    Calls Try.prog 11 #[.int .u8 14, .agg #[.int .i32 xl, .int .i32 xh], .agg #[.int .i32 yl, .int .i32 yh]] w fun e w' => e = .returned (.agg #[.int .i32 (shI 14 (xl, xh) (yl, yh)).1, .int .i32 (shI 14 (xl, xh) (yl, yh)).2]) ∧ Below w.heap.size w w' := by
  by_cases h : xl = xh
  · exact apply_14_s xl xh yl yh w hx1 hx2 hx3 hx4 hy1 hy2 hy3 hy4 hxe hye (by simpa using h) (by simp; omega)
  · exact apply_14_n xl xh yl yh w hx1 hx2 hx3 hx4 hy1 hy2 hy3 hy4 hxe hye (by simpa using h)

set_option maxRecDepth 100000 in
set_option maxHeartbeats 1000000 in
theorem apply_15_n (xl xh yl yh : Int) (w : World) (hx1 : -2147483648 ≤ xl) (hx2 : xl ≤ 2147483647) (hx3 : -2147483648 ≤ xh) (hx4 : xh ≤ 2147483647) (hy1 : -2147483648 ≤ yl) (hy2 : yl ≤ 2147483647) (hy3 : -2147483648 ≤ yh) (hy4 : yh ≤ 2147483647) (hxe : xl ≤ xh) (hye : yl ≤ yh) (hs : (xl == xh) = false) :
    Calls Try.prog 11 #[.int .u8 15, .agg #[.int .i32 xl, .int .i32 xh], .agg #[.int .i32 yl, .int .i32 yh]] w fun e w' => e = .returned (.agg #[.int .i32 (shI 15 (xl, xh) (yl, yh)).1, .int .i32 (shI 15 (xl, xh) (yl, yh)).2]) ∧ Below w.heap.size w w' := by
  have d1 : decide (xh < xl) = false := by simp; omega
  have d2 : decide (yh < yl) = false := by simp; omega
  go_enter Try.func11, Try.ntmps11
  go_wp2_with (first | (go_at_call 19; ((first | (with_reducible refine (Calls.extq (isEmpty_any _ _ _)).mono ?_) | (refine (Calls.ext (isEmpty_any _ _ _)).mono ?_)); rintro e _ ⟨rfl, y, rfl⟩)) | (go_at_call 28; ((first | (with_reducible refine (Calls.extq (single_any _ _ _)).mono ?_) | (refine (Calls.ext (single_any _ _ _)).mono ?_)); rintro e _ ⟨rfl, y, rfl⟩)) | (go_at_call 33; ((first | (with_reducible refine (Calls.extq (shift_any _ _ _ _ _ _ (by assumption) (by assumption) (by assumption) (by assumption) (by assumption) (by assumption) (by decide) (by decide))).mono ?_) | (refine (Calls.ext (shift_any _ _ _ _ _ _ (by assumption) (by assumption) (by assumption) (by assumption) (by assumption) (by assumption) (by decide) (by decide))).mono ?_)); rintro e _ ⟨rfl, y, rfl⟩)))
  all_goals
    refine bodyPost_ret (v := .agg #[.int .i32 (shI 15 (xl, xh) (yl, yh)).1, .int .i32 (shI 15 (xl, xh) (yl, yh)).2]) ?hr rfl ⟨rfl, ?bel⟩
    case hr =>
      simp [results, Try.results11, go_sem]
    case bel =>
      (repeat (first | exact Below.refl _ _ | refine Below.setCell ?_ ?_ _ | refine Ext.below ?_ ?_ _ | refine Below.alloc ?_ ?_ _)) <;> (first | (simp; done) | (simp; omega) | omega | (simp only [World.size_setCell, World.size_alloc]; refine Nat.le_trans ?_ (Below.size (Ext.h _)); simp only [World.size_setCell, World.size_alloc]; omega))
set_option maxRecDepth 100000 in
set_option maxHeartbeats 1000000 in
theorem apply_15_s (xl xh yl yh : Int) (w : World) (hx1 : -2147483648 ≤ xl) (hx2 : xl ≤ 2147483647) (hx3 : -2147483648 ≤ xh) (hx4 : xh ≤ 2147483647) (hy1 : -2147483648 ≤ yl) (hy2 : yl ≤ 2147483647) (hy3 : -2147483648 ≤ yh) (hy4 : yh ≤ 2147483647) (hxe : xl ≤ xh) (hye : yl ≤ yh) (hs : (xl == xh) = true) (hs' : (yl == yh) = false) :
    Calls Try.prog 11 #[.int .u8 15, .agg #[.int .i32 xl, .int .i32 xh], .agg #[.int .i32 yl, .int .i32 yh]] w fun e w' => e = .returned (.agg #[.int .i32 (shI 15 (xl, xh) (yl, yh)).1, .int .i32 (shI 15 (xl, xh) (yl, yh)).2]) ∧ Below w.heap.size w w' := by
  have d1 : decide (xh < xl) = false := by simp; omega
  have d2 : decide (yh < yl) = false := by simp; omega
  go_enter Try.func11, Try.ntmps11
  go_wp2_with (first | (go_at_call 19; ((first | (with_reducible refine (Calls.extq (isEmpty_any _ _ _)).mono ?_) | (refine (Calls.ext (isEmpty_any _ _ _)).mono ?_)); rintro e _ ⟨rfl, y, rfl⟩)) | (go_at_call 28; ((first | (with_reducible refine (Calls.extq (single_any _ _ _)).mono ?_) | (refine (Calls.ext (single_any _ _ _)).mono ?_)); rintro e _ ⟨rfl, y, rfl⟩)) | (go_at_call 33; ((first | (with_reducible refine (Calls.extq (shift_any _ _ _ _ _ _ (by assumption) (by assumption) (by assumption) (by assumption) (by assumption) (by assumption) (by decide) (by decide))).mono ?_) | (refine (Calls.ext (shift_any _ _ _ _ _ _ (by assumption) (by assumption) (by assumption) (by assumption) (by assumption) (by assumption) (by decide) (by decide))).mono ?_)); rintro e _ ⟨rfl, y, rfl⟩)))
  all_goals
    refine bodyPost_ret (v := .agg #[.int .i32 (shI 15 (xl, xh) (yl, yh)).1, .int .i32 (shI 15 (xl, xh) (yl, yh)).2]) ?hr rfl ⟨rfl, ?bel⟩
    case hr =>
      simp [results, Try.results11, go_sem]
    case bel =>
      (repeat (first | exact Below.refl _ _ | refine Below.setCell ?_ ?_ _ | refine Ext.below ?_ ?_ _ | refine Below.alloc ?_ ?_ _)) <;> (first | (simp; done) | (simp; omega) | omega | (simp only [World.size_setCell, World.size_alloc]; refine Nat.le_trans ?_ (Below.size (Ext.h _)); simp only [World.size_setCell, World.size_alloc]; omega))
theorem apply_15 (xl xh yl yh : Int) (w : World) (hx1 : -2147483648 ≤ xl) (hx2 : xl ≤ 2147483647) (hx3 : -2147483648 ≤ xh) (hx4 : xh ≤ 2147483647) (hy1 : -2147483648 ≤ yl) (hy2 : yl ≤ 2147483647) (hy3 : -2147483648 ≤ yh) (hy4 : yh ≤ 2147483647) (hxe : xl ≤ xh) (hye : yl ≤ yh) (hs : ¬ (xl = xh ∧ yl = yh)) :
    Calls Try.prog 11 #[.int .u8 15, .agg #[.int .i32 xl, .int .i32 xh], .agg #[.int .i32 yl, .int .i32 yh]] w fun e w' => e = .returned (.agg #[.int .i32 (shI 15 (xl, xh) (yl, yh)).1, .int .i32 (shI 15 (xl, xh) (yl, yh)).2]) ∧ Below w.heap.size w w' := by
  by_cases h : xl = xh
  · exact apply_15_s xl xh yl yh w hx1 hx2 hx3 hx4 hy1 hy2 hy3 hy4 hxe hye (by simpa using h) (by simp; omega)
  · exact apply_15_n xl xh yl yh w hx1 hx2 hx3 hx4 hy1 hy2 hy3 hy4 hxe hye (by simpa using h)

set_option maxRecDepth 100000 in
set_option maxHeartbeats 1000000 in
theorem apply_16_n (xl xh yl yh : Int) (w : World) (hx1 : -2147483648 ≤ xl) (hx2 : xl ≤ 2147483647) (hx3 : -2147483648 ≤ xh) (hx4 : xh ≤ 2147483647) (hy1 : -2147483648 ≤ yl) (hy2 : yl ≤ 2147483647) (hy3 : -2147483648 ≤ yh) (hy4 : yh ≤ 2147483647) (hxe : xl ≤ xh) (hye : yl ≤ yh) (hs : (xl == xh) = false) :
    Calls Try.prog 11 #[.int .u8 16, .agg #[.int .i32 xl, .int .i32 xh], .agg #[.int .i32 yl, .int .i32 yh]] w fun e w' => e = .returned (.agg #[.int .i32 (cmpI 16 (xl, xh) (yl, yh)).1, .int .i32 (cmpI 16 (xl, xh) (yl, yh)).2]) ∧ Below w.heap.size w w' := by
  have d1 : decide (xh < xl) = false := by simp; omega
  have d2 : decide (yh < yl) = false := by simp; omega
  go_enter Try.func11, Try.ntmps11
  go_wp2_with (first | (go_at_call 19; ((first | (with_reducible refine (Calls.extq (isEmpty_any _ _ _)).mono ?_) | (refine (Calls.ext (isEmpty_any _ _ _)).mono ?_)); rintro e _ ⟨rfl, y, rfl⟩)) | (go_at_call 28; ((first | (with_reducible refine (Calls.extq (single_any _ _ _)).mono ?_) | (refine (Calls.ext (single_any _ _ _)).mono ?_)); rintro e _ ⟨rfl, y, rfl⟩)) | (go_at_call 35; ((first | (with_reducible refine (Calls.extq (compare_any _ _ _ _ _ _ (by decide) (by decide))).mono ?_) | (refine (Calls.ext (compare_any _ _ _ _ _ _ (by decide) (by decide))).mono ?_)); rintro e _ ⟨rfl, y, rfl⟩)))
  all_goals
    refine bodyPost_ret (v := .agg #[.int .i32 (cmpI 16 (xl, xh) (yl, yh)).1, .int .i32 (cmpI 16 (xl, xh) (yl, yh)).2]) ?hr rfl ⟨rfl, ?bel⟩
    case hr =>
      simp [results, Try.results11, go_sem]
    case bel =>
      (repeat (first | exact Below.refl _ _ | refine Below.setCell ?_ ?_ _ | refine Ext.below ?_ ?_ _ | refine Below.alloc ?_ ?_ _)) <;> (first | (simp; done) | (simp; omega) | omega | (simp only [World.size_setCell, World.size_alloc]; refine Nat.le_trans ?_ (Below.size (Ext.h _)); simp only [World.size_setCell, World.size_alloc]; omega))
set_option maxRecDepth 100000 in
set_option maxHeartbeats 1000000 in
theorem apply_16_s (xl xh yl yh : Int) (w : World) (hx1 : -2147483648 ≤ xl) (hx2 : xl ≤ 2147483647) (hx3 : -2147483648 ≤ xh) (hx4 : xh ≤ 2147483647) (hy1 : -2147483648 ≤ yl) (hy2 : yl ≤ 2147483647) (hy3 : -2147483648 ≤ yh) (hy4 : yh ≤ 2147483647) (hxe : xl ≤ xh) (hye : yl ≤ yh) (hs : (xl == xh) = true) (hs' : (yl == yh) = false) :
    Calls Try.prog 11 #[.int .u8 16, .agg #[.int .i32 xl, .int .i32 xh], .agg #[.int .i32 yl, .int .i32 yh]] w fun e w' => e = .returned (.agg #[.int .i32 (cmpI 16 (xl, xh) (yl, yh)).1, .int .i32 (cmpI 16 (xl, xh) (yl, yh)).2]) ∧ Below w.heap.size w w' := by
  have d1 : decide (xh < xl) = false := by simp; omega
  have d2 : decide (yh < yl) = false := by simp; omega
  go_enter Try.func11, Try.ntmps11
  go_wp2_with (first | (go_at_call 19; ((first | (with_reducible refine (Calls.extq (isEmpty_any _ _ _)).mono ?_) | (refine (Calls.ext (isEmpty_any _ _ _)).mono ?_)); rintro e _ ⟨rfl, y, rfl⟩)) | (go_at_call 28; ((first | (with_reducible refine (Calls.extq (single_any _ _ _)).mono ?_) | (refine (Calls.ext (single_any _ _ _)).mono ?_)); rintro e _ ⟨rfl, y, rfl⟩)) | (go_at_call 35; ((first | (with_reducible refine (Calls.extq (compare_any _ _ _ _ _ _ (by decide) (by decide))).mono ?_) | (refine (Calls.ext (compare_any _ _ _ _ _ _ (by decide) (by decide))).mono ?_)); rintro e _ ⟨rfl, y, rfl⟩)))
  all_goals
    refine bodyPost_ret (v := .agg #[.int .i32 (cmpI 16 (xl, xh) (yl, yh)).1, .int .i32 (cmpI 16 (xl, xh) (yl, yh)).2]) ?hr rfl ⟨rfl, ?bel⟩
    case hr =>
      simp [results, Try.results11, go_sem]
    case bel =>
      (repeat (first | exact Below.refl _ _ | refine Below.setCell ?_ ?_ _ | refine Ext.below ?_ ?_ _ | refine Below.alloc ?_ ?_ _)) <;> (first | (simp; done) | (simp; omega) | omega | (simp only [World.size_setCell, World.size_alloc]; refine Nat.le_trans ?_ (Below.size (Ext.h _)); simp only [World.size_setCell, World.size_alloc]; omega))
theorem apply_16 (xl xh yl yh : Int) (w : World) (hx1 : -2147483648 ≤ xl) (hx2 : xl ≤ 2147483647) (hx3 : -2147483648 ≤ xh) (hx4 : xh ≤ 2147483647) (hy1 : -2147483648 ≤ yl) (hy2 : yl ≤ 2147483647) (hy3 : -2147483648 ≤ yh) (hy4 : yh ≤ 2147483647) (hxe : xl ≤ xh) (hye : yl ≤ yh) (hs : ¬ (xl = xh ∧ yl = yh)) :
    Calls Try.prog 11 #[.int .u8 16, .agg #[.int .i32 xl, .int .i32 xh], .agg #[.int .i32 yl, .int .i32 yh]] w fun e w' => e = .returned (.agg #[.int .i32 (cmpI 16 (xl, xh) (yl, yh)).1, .int .i32 (cmpI 16 (xl, xh) (yl, yh)).2]) ∧ Below w.heap.size w w' := by
  by_cases h : xl = xh
  · exact apply_16_s xl xh yl yh w hx1 hx2 hx3 hx4 hy1 hy2 hy3 hy4 hxe hye (by simpa using h) (by simp; omega)
  · exact apply_16_n xl xh yl yh w hx1 hx2 hx3 hx4 hy1 hy2 hy3 hy4 hxe hye (by simpa using h)

set_option maxRecDepth 100000 in
set_option maxHeartbeats 1000000 in
theorem apply_17_n (xl xh yl yh : Int) (w : World) (hx1 : -2147483648 ≤ xl) (hx2 : xl ≤ 2147483647) (hx3 : -2147483648 ≤ xh) (hx4 : xh ≤ 2147483647) (hy1 : -2147483648 ≤ yl) (hy2 : yl ≤ 2147483647) (hy3 : -2147483648 ≤ yh) (hy4 : yh ≤ 2147483647) (hxe : xl ≤ xh) (hye : yl ≤ yh) (hs : (xl == xh) = false) :
    Calls Try.prog 11 #[.int .u8 17, .agg #[.int .i32 xl, .int .i32 xh], .agg #[.int .i32 yl, .int .i32 yh]] w fun e w' => e = .returned (.agg #[.int .i32 (cmpI 17 (xl, xh) (yl, yh)).1, .int .i32 (cmpI 17 (xl, xh) (yl, yh)).2]) ∧ Below w.heap.size w w' := by
  have d1 : decide (xh < xl) = false := by simp; omega
  have d2 : decide (yh < yl) = false := by simp; omega
  go_enter Try.func11, Try.ntmps11
  go_wp2_with (first | (go_at_call 19; ((first | (with_reducible refine (Calls.extq (isEmpty_any _ _ _)).mono ?_) | (refine (Calls.ext (isEmpty_any _ _ _)).mono ?_)); rintro e _ ⟨rfl, y, rfl⟩)) | (go_at_call 28; ((first | (with_reducible refine (Calls.extq (single_any _ _ _)).mono ?_) | (refine (Calls.ext (single_any _ _ _)).mono ?_)); rintro e _ ⟨rfl, y, rfl⟩)) | (go_at_call 35; ((first | (with_reducible refine (Calls.extq (compare_any _ _ _ _ _ _ (by decide) (by decide))).mono ?_) | (refine (Calls.ext (compare_any _ _ _ _ _ _ (by decide) (by decide))).mono ?_)); rintro e _ ⟨rfl, y, rfl⟩)))
  all_goals
    refine bodyPost_ret (v := .agg #[.int .i32 (cmpI 17 (xl, xh) (yl, yh)).1, .int .i32 (cmpI 17 (xl, xh) (yl, yh)).2]) ?hr rfl ⟨rfl, ?bel⟩
    case hr =>
      simp [results, Try.results11, go_sem]
    case bel =>
      (repeat (first | exact Below.refl _ _ | refine Below.setCell ?_ ?_ _ | refine Ext.below ?_ ?_ _ | refine Below.alloc ?_ ?_ _)) <;> (first | (simp; done) | (simp; omega) | omega | (simp only [World.size_setCell, World.size_alloc]; refine Nat.le_trans ?_ (Below.size (Ext.h _)); simp only [World.size_setCell, World.size_alloc]; omega))
set_option maxRecDepth 100000 in
set_option maxHeartbeats 1000000 in
theorem apply_17_s (xl xh yl yh : Int) (w : World) (hx1 : -2147483648 ≤ xl) (hx2 : xl ≤ 2147483647) (hx3 : -2147483648 ≤ xh) (hx4 : xh ≤ 2147483647) (hy1 : -2147483648 ≤ yl) (hy2 : yl ≤ 2147483647) (hy3 : -2147483648 ≤ yh) (hy4 : yh ≤ 2147483647) (hxe : xl ≤ xh) (hye : yl ≤ yh) (hs : (xl == xh) = true) (hs' : (yl == yh) = false) :
    Calls Try.prog 11 #[.int .u8 17, .agg #[.int .i32 xl, .int .i32 xh], .agg #[.int .i32 yl, .int .i32 yh]] w fun e w' => e = .returned (.agg #[.int .i32 (cmpI 17 (xl, xh) (yl, yh)).1, .int .i32 (cmpI 17 (xl, xh) (yl, yh)).2]) ∧ Below w.heap.size w w' := by
  have d1 : decide (xh < xl) = false := by simp; omega
  have d2 : decide (yh < yl) = false := by simp; omega
  go_enter Try.func11, Try.ntmps11
  go_wp2_with (first | (go_at_call 19; ((first | (with_reducible refine (Calls.extq (isEmpty_any _ _ _)).mono ?_) | (refine (Calls.ext (isEmpty_any _ _ _)).mono ?_)); rintro e _ ⟨rfl, y, rfl⟩)) | (go_at_call 28; ((first | (with_reducible refine (Calls.extq (single_any _ _ _)).mono ?_) | (refine (Calls.ext (single_any _ _ _)).mono ?_)); rintro e _ ⟨rfl, y, rfl⟩)) | (go_at_call 35; ((first | (with_reducible refine (Calls.extq (compare_any _ _ _ _ _ _ (by decide) (by decide))).mono ?_) | (refine (Calls.ext (compare_any _ _ _ _ _ _ (by decide) (by decide))).mono ?_)); rintro e _ ⟨rfl, y, rfl⟩)))
  all_goals
    refine bodyPost_ret (v := .agg #[.int .i32 (cmpI 17 (xl, xh) (yl, yh)).1, .int .i32 (cmpI 17 (xl, xh) (yl, yh)).2]) ?hr rfl ⟨rfl, ?bel⟩
    case hr =>
      simp [results, Try.results11, go_sem]
    case bel =>
      (repeat (first | exact Below.refl _ _ | refine Below.setCell ?_ ?_ _ | refine Ext.below ?_ ?_ _ | refine Below.alloc ?_ ?_ _)) <;> (first | (simp; done) | (simp; omega) | omega | (simp only [World.size_setCell, World.size_alloc]; refine Nat.le_trans ?_ (Below.size (Ext.h _)); simp only [World.size_setCell, World.size_alloc]; omega))
theorem apply_17 (xl xh yl yh : Int) (w : World) (hx1 : -2147483648 ≤ xl) (hx2 : xl ≤ 2147483647) (hx3 : -2147483648 ≤ xh) (hx4 : xh ≤ 2147483647) (hy1 : -2147483648 ≤ yl) (hy2 : yl ≤ 2147483647) (hy3 : -2147483648 ≤ yh) (hy4 : yh ≤ 2147483647) (hxe : xl ≤ xh) (hye : yl ≤ yh) (hs : ¬ (xl = xh ∧ yl = yh)) :
    Calls Try.prog 11 #[.int .u8 17, .agg #[.int .i32 xl, .int .i32 xh], .agg #[.int .i32 yl, .int .i32 yh]] w fun e w' => e = .returned (.agg #[.int .i32 (cmpI 17 (xl, xh) (yl, yh)).1, .int .i32 (cmpI 17 (xl, xh) (yl, yh)).2]) ∧ Below w.heap.size w w' := by
  by_cases h : xl = xh
  · exact apply_17_s xl xh yl yh w hx1 hx2 hx3 hx4 hy1 hy2 hy3 hy4 hxe hye (by simpa using h) (by simp; omega)
  · exact apply_17_n xl xh yl yh w hx1 hx2 hx3 hx4 hy1 hy2 hy3 hy4 hxe hye (by simpa using h)

set_option maxRecDepth 100000 in
set_option maxHeartbeats 1000000 in
theorem apply_18_n (xl xh yl yh : Int) (w : World) (hx1 : -2147483648 ≤ xl) (hx2 : xl ≤ 2147483647) (hx3 : -2147483648 ≤ xh) (hx4 : xh ≤ 2147483647) (hy1 : -2147483648 ≤ yl) (hy2 : yl ≤ 2147483647) (hy3 : -2147483648 ≤ yh) (hy4 : yh ≤ 2147483647) (hxe : xl ≤ xh) (hye : yl ≤ yh) (hs : (xl == xh) = false) :
    Calls Try.prog 11 #[.int .u8 18, .agg #[.int .i32 xl, .int .i32 xh], .agg #[.int .i32 yl, .int .i32 yh]] w fun e w' => e = .returned (.agg #[.int .i32 (cmpI 18 (xl, xh) (yl, yh)).1, .int .i32 (cmpI 18 (xl, xh) (yl, yh)).2]) ∧ Below w.heap.size w w' := by
  have d1 : decide (xh < xl) = false := by simp; omega
  have d2 : decide (yh < yl) = false := by simp; omega
  go_enter Try.func11, Try.ntmps11
  go_wp2_with (first | (go_at_call 19; ((first | (with_reducible refine (Calls.extq (isEmpty_any _ _ _)).mono ?_) | (refine (Calls.ext (isEmpty_any _ _ _)).mono ?_)); rintro e _ ⟨rfl, y, rfl⟩)) | (go_at_call 28; ((first | (with_reducible refine (Calls.extq (single_any _ _ _)).mono ?_) | (refine (Calls.ext (single_any _ _ _)).mono ?_)); rintro e _ ⟨rfl, y, rfl⟩)) | (go_at_call 35; ((first | (with_reducible refine (Calls.extq (compare_any _ _ _ _ _ _ (by decide) (by decide))).mono ?_) | (refine (Calls.ext (compare_any _ _ _ _ _ _ (by decide) (by decide))).mono ?_)); rintro e _ ⟨rfl, y, rfl⟩)))
  all_goals
    refine bodyPost_ret (v := .agg #[.int .i32 (cmpI 18 (xl, xh) (yl, yh)).1, .int .i32 (cmpI 18 (xl, xh) (yl, yh)).2]) ?hr rfl ⟨rfl, ?bel⟩
    case hr =>
      simp [results, Try.results11, go_sem]
    case bel =>
      (repeat (first | exact Below.refl _ _ | refine Below.setCell ?_ ?_ _ | refine Ext.below ?_ ?_ _ | refine Below.alloc ?_ ?_ _)) <;> (first | (simp; done) | (simp; omega) | omega | (simp only [World.size_setCell, World.size_alloc]; refine Nat.le_trans ?_ (Below.size (Ext.h _)); simp only [World.size_setCell, World.size_alloc]; omega))
set_option maxRecDepth 100000 in
set_option maxHeartbeats 1000000 in
theorem apply_18_s (xl xh yl yh : Int) (w : World) (hx1 : -2147483648 ≤ xl) (hx2 : xl ≤ 2147483647) (hx3 : -2147483648 ≤ xh) (hx4 : xh ≤ 2147483647) (hy1 : -2147483648 ≤ yl) (hy2 : yl ≤ 2147483647) (hy3 : -2147483648 ≤ yh) (hy4 : yh ≤ 2147483647) (hxe : xl ≤ xh) (hye : yl ≤ yh) (hs : (xl == xh) = true) (hs' : (yl == yh) = false) :
    Calls Try.prog 11 #[.int .u8 18, .agg #[.int .i32 xl, .int .i32 xh], .agg #[.int .i32 yl, .int .i32 yh]] w fun e w' => e = .returned (.agg #[.int .i32 (cmpI 18 (xl, xh) (yl, yh)).1, .int .i32 (cmpI 18 (xl, xh) (yl, yh)).2]) ∧ Below w.heap.size w w' := by
  have d1 : decide (xh < xl) = false := by simp; omega
  have d2 : decide (yh < yl) = false := by simp; omega
  go_enter Try.func11, Try.ntmps11
  go_wp2_with (first | (go_at_call 19; ((first | (with_reducible refine (Calls.extq (isEmpty_any _ _ _)).mono ?_) | (refine (Calls.ext (isEmpty_any _ _ _)).mono ?_)); rintro e _ ⟨rfl, y, rfl⟩)) | (go_at_call 28; ((first | (with_reducible refine (Calls.extq (single_any _ _ _)).mono ?_) | (refine (Calls.ext (single_any _ _ _)).mono ?_)); rintro e _ ⟨rfl, y, rfl⟩)) | (go_at_call 35; ((first | (with_reducible refine (Calls.extq (compare_any _ _ _ _ _ _ (by decide) (by decide))).mono ?_) | (refine (Calls.ext (compare_any _ _ _ _ _ _ (by decide) (by decide))).mono ?_)); rintro e _ ⟨rfl, y, rfl⟩)))
  all_goals
    refine bodyPost_ret (v := .agg #[.int .i32 (cmpI 18 (xl, xh) (yl, yh)).1, .int .i32 (cmpI 18 (xl, xh) (yl, yh)).2]) ?hr rfl ⟨rfl, ?bel⟩
    case hr =>
      simp [results, Try.results11, go_sem]
    case bel =>
      (repeat (first | exact Below.refl _ _ | refine Below.setCell ?_ ?_ _ | refine Ext.below ?_ ?_ _ | refine Below.alloc ?_ ?_ _)) <;> (first | (simp; done) | (simp; omega) | omega | (simp only [World.size_setCell, World.size_alloc]; refine Nat.le_trans ?_ (Below.size (Ext.h _)); simp only [World.size_setCell, World.size_alloc]; omega))
theorem apply_18 (xl xh yl yh : Int) (w : World) (hx1 : -2147483648 ≤ xl) (hx2 : xl ≤ 2147483647) (hx3 : -2147483648 ≤ xh) (hx4 : xh ≤ 2147483647) (hy1 : -2147483648 ≤ yl) (hy2 : yl ≤ 2147483647) (hy3 : -2147483648 ≤ yh) (hy4 : yh ≤ 2147483647) (hxe : xl ≤ xh) (hye : yl ≤ yh) (hs : ¬ (xl = xh ∧ yl = yh)) :
    Calls Try.prog 11 #[.int .u8 18, .agg #[.int .i32 xl, .int .i32 xh], .agg #[.int .i32 yl, .int .i32 yh]] w fun e w' => e = .returned (.agg #[.int .i32 (cmpI 18 (xl, xh) (yl, yh)).1, .int .i32 (cmpI 18 (xl, xh) (yl, yh)).2]) ∧ Below w.heap.size w w' := by
  by_cases h : xl = xh
  · exact apply_18_s xl xh yl yh w hx1 hx2 hx3 hx4 hy1 hy2 hy3 hy4 hxe hye (by simpa using h) (by simp; omega)
  · exact apply_18_n xl xh yl yh w hx1 hx2 hx3 hx4 hy1 hy2 hy3 hy4 hxe hye (by simpa using h)

set_option maxRecDepth 100000 in
set_option maxHeartbeats 1000000 in
theorem apply_19_n (xl xh yl yh : Int) (w : World) (hx1 : -2147483648 ≤ xl) (hx2 : xl ≤ 2147483647) (hx3 : -2147483648 ≤ xh) (hx4 : xh ≤ 2147483647) (hy1 : -2147483648 ≤ yl) (hy2 : yl ≤ 2147483647) (hy3 : -2147483648 ≤ yh) (hy4 : yh ≤ 2147483647) (hxe : xl ≤ xh) (hye : yl ≤ yh) (hs : (xl == xh) = false) :
    Calls Try.prog 11 #[.int .u8 19, .agg #[.int .i32 xl, .int .i32 xh], .agg #[.int .i32 yl, .int .i32 yh]] w fun e w' => e = .returned (.agg #[.int .i32 (cmpI 19 (xl, xh) (yl, yh)).1, .int .i32 (cmpI 19 (xl, xh) (yl, yh)).2]) ∧ Below w.heap.size w w' := by
  have d1 : decide (xh < xl) = false := by simp; omega
  have d2 : decide (yh < yl) = false := by simp; omega
  go_enter Try.func11, Try.ntmps11
  go_wp2_with (first | (go_at_call 19; ((first | (with_reducible refine (Calls.extq (isEmpty_any _ _ _)).mono ?_) | (refine (Calls.ext (isEmpty_any _ _ _)).mono ?_)); rintro e _ ⟨rfl, y, rfl⟩)) | (go_at_call 28; ((first | (with_reducible refine (Calls.extq (single_any _ _ _)).mono ?_) | (refine (Calls.ext (single_any _ _ _)).mono ?_)); rintro e _ ⟨rfl, y, rfl⟩)) | (go_at_call 35; ((first | (with_reducible refine (Calls.extq (compare_any _ _ _ _ _ _ (by decide) (by decide))).mono ?_) | (refine (Calls.ext (compare_any _ _ _ _ _ _ (by decide) (by decide))).mono ?_)); rintro e _ ⟨rfl, y, rfl⟩)))
  all_goals
    refine bodyPost_ret (v := .agg #[.int .i32 (cmpI 19 (xl, xh) (yl, yh)).1, .int .i32 (cmpI 19 (xl, xh) (yl, yh)).2]) ?hr rfl ⟨rfl, ?bel⟩
    case hr =>
      simp [results, Try.results11, go_sem]
    case bel =>
      (repeat (first | exact Below.refl _ _ | refine Below.setCell ?_ ?_ _ | refine Ext.below ?_ ?_ _ | refine Below.alloc ?_ ?_ _)) <;> (first | (simp; done) | (simp; omega) | omega | (simp only [World.size_setCell, World.size_alloc]; refine Nat.le_trans ?_ (Below.size (Ext.h _)); simp only [World.size_setCell, World.size_alloc]; omega))
set_option maxRecDepth 100000 in
set_option maxHeartbeats 1000000 in
theorem apply_19_s (xl xh yl yh : Int) (w : World) (hx1 : -2147483648 ≤ xl) (hx2 : xl ≤ 2147483647) (hx3 : -2147483648 ≤ xh) (hx4 : xh ≤ 2147483647) (hy1 : -2147483648 ≤ yl) (hy2 : yl ≤ 2147483647) (hy3 : -2147483648 ≤ yh) (hy4 : yh ≤ 2147483647) (hxe : xl ≤ xh) (hye : yl ≤ yh) (hs : (xl == xh) = true) (hs' : (yl == yh) = false) :
    Calls Try.prog 11 #[.int .u8 19, .agg #[.int .i32 xl, .int .i32 xh], .agg #[.int .i32 yl, .int .i32 yh]] w fun e w' => e = .returned (.agg #[.int .i32 (cmpI 19 (xl, xh) (yl, yh)).1, .int .i32 (cmpI 19 (xl, xh) (yl, yh)).2]) ∧ Below w.heap.size w w' := by
  have d1 : decide (xh < xl) = false := by simp; omega
  have d2 : decide (yh < yl) = false := by simp; omega
  go_enter Try.func11, Try.ntmps11
  go_wp2_with (first | (go_at_call 19; ((first | (with_reducible refine (Calls.extq (isEmpty_any _ _ _)).mono ?_) | (refine (Calls.ext (isEmpty_any _ _ _)).mono ?_)); rintro e _ ⟨rfl, y, rfl⟩)) | (go_at_call 28; ((first | (with_reducible refine (Calls.extq (single_any _ _ _)).mono ?_) | (refine (Calls.ext (single_any _ _ _)).mono ?_)); rintro e _ ⟨rfl, y, rfl⟩)) | (go_at_call 35; ((first | (with_reducible refine (Calls.extq (compare_any _ _ _ _ _ _ (by decide) (by decide))).mono ?_) | (refine (Calls.ext (compare_any _ _ _ _ _ _ (by decide) (by decide))).mono ?_)); rintro e _ ⟨rfl, y, rfl⟩)))
  all_goals
    refine bodyPost_ret (v := .agg #[.int .i32 (cmpI 19 (xl, xh) (yl, yh)).1, .int .i32 (cmpI 19 (xl, xh) (yl, yh)).2]) ?hr rfl ⟨rfl, ?bel⟩
    case hr =>
      simp [results, Try.results11, go_sem]
    case bel =>
      (repeat (first | exact Below.refl _ _ | refine Below.setCell ?_ ?_ _ | refine Ext.below ?_ ?_ _ | refine Below.alloc ?_ ?_ _)) <;> (first | (simp; done) | (simp; omega) | omega | (simp only [World.size_setCell, World.size_alloc]; refine Nat.le_trans ?_ (Below.size (Ext.h _)); simp only [World.size_setCell, World.size_alloc]; omega))
theorem apply_19 (xl xh yl yh : Int) (w : World) (hx1 : -2147483648 ≤ xl) (hx2 : xl ≤ 2147483647) (hx3 : -2147483648 ≤ xh) (hx4 : xh ≤ 2147483647) (hy1 : -2147483648 ≤ yl) (hy2 : yl ≤ 2147483647) (hy3 : -2147483648 ≤ yh) (hy4 : yh ≤ 2147483647) (hxe : xl ≤ xh) (hye : yl ≤ yh) (hs : ¬ (xl = xh ∧ yl = yh)) :
    Calls Try.prog 11 #[.int .u8 19, .agg #[.int .i32 xl, .int .i32 xh], .agg #[.int .i32 yl, .int .i32 yh]] w fun e w' => e = .returned (.agg #[.int .i32 (cmpI 19 (xl, xh) (yl, yh)).1, .int .i32 (cmpI 19 (xl, xh) (yl, yh)).2]) ∧ Below w.heap.size w w' := by
  by_cases h : xl = xh
  · exact apply_19_s xl xh yl yh w hx1 hx2 hx3 hx4 hy1 hy2 hy3 hy4 hxe hye (by simpa using h) (by simp; omega)
  · exact apply_19_n xl xh yl yh w hx1 hx2 hx3 hx4 hy1 hy2 hy3 hy4 hxe hye (by simpa using h)

set_option maxRecDepth 100000 in
set_option maxHeartbeats 1000000 in
theorem apply_20_n (xl xh yl yh : Int) (w : World) (hx1 : -2147483648 ≤ xl) (hx2 : xl ≤ 2147483647) (hx3 : -2147483648 ≤ xh) (hx4 : xh ≤ 2147483647) (hy1 : -2147483648 ≤ yl) (hy2 : yl ≤ 2147483647) (hy3 : -2147483648 ≤ yh) (hy4 : yh ≤ 2147483647) (hxe : xl ≤ xh) (hye : yl ≤ yh) (hs : (xl == xh) = false) :
    Calls Try.prog 11 #[.int .u8 20, .agg #[.int .i32 xl, .int .i32 xh], .agg #[.int .i32 yl, .int .i32 yh]] w fun e w' => e = .returned (.agg #[.int .i32 (cmpI 20 (xl, xh) (yl, yh)).1, .int .i32 (cmpI 20 (xl, xh) (yl, yh)).2]) ∧ Below w.heap.size w w' := by
  have d1 : decide (xh < xl) = false := by simp; omega
  have d2 : decide (yh < yl) = false := by simp; omega
  go_enter Try.func11, Try.ntmps11
  go_wp2_with (first | (go_at_call 19; ((first | (with_reducible refine (Calls.extq (isEmpty_any _ _ _)).mono ?_) | (refine (Calls.ext (isEmpty_any _ _ _)).mono ?_)); rintro e _ ⟨rfl, y, rfl⟩)) | (go_at_call 28; ((first | (with_reducible refine (Calls.extq (single_any _ _ _)).mono ?_) | (refine (Calls.ext (single_any _ _ _)).mono ?_)); rintro e _ ⟨rfl, y, rfl⟩)) | (go_at_call 35; ((first | (with_reducible refine (Calls.extq (compare_any _ _ _ _ _ _ (by decide) (by decide))).mono ?_) | (refine (Calls.ext (compare_any _ _ _ _ _ _ (by decide) (by decide))).mono ?_)); rintro e _ ⟨rfl, y, rfl⟩)))
  all_goals
    refine bodyPost_ret (v := .agg #[.int .i32 (cmpI 20 (xl, xh) (yl, yh)).1, .int .i32 (cmpI 20 (xl, xh) (yl, yh)).2]) ?hr rfl ⟨rfl, ?bel⟩
    case hr =>
      simp [results, Try.results11, go_sem]
    case bel =>
      (repeat (first | exact Below.refl _ _ | refine Below.setCell ?_ ?_ _ | refine Ext.below ?_ ?_ _ | refine Below.alloc ?_ ?_ _)) <;> (first | (simp; done) | (simp; omega) | omega | (simp only [World.size_setCell, World.size_alloc]; refine Nat.le_trans ?_ (Below.size (Ext.h _)); simp only [World.size_setCell, World.size_alloc]; omega))
set_option maxRecDepth 100000 in
set_option maxHeartbeats 1000000 in
theorem apply_20_s (xl xh yl yh : Int) (w : World) (hx1 : -2147483648 ≤ xl) (hx2 : xl ≤ 2147483647) (hx3 : -2147483648 ≤ xh) (hx4 : xh ≤ 2147483647) (hy1 : -2147483648 ≤ yl) (hy2 : yl ≤ 2147483647) (hy3 : -2147483648 ≤ yh) (hy4 : yh ≤ 2147483647) (hxe : xl ≤ xh) (hye : yl ≤ yh) (hs : (xl == xh) = true) (hs' : (yl == yh) = false) :
    Calls Try.prog 11 #[.int .u8 20, .agg #[.int .i32 xl, .int .i32 xh], .agg #[.int .i32 yl, .int .i32 yh]] w fun e w' => e = .returned (.agg #[.int .i32 (cmpI 20 (xl, xh) (yl, yh)).1, .int .i32 (cmpI 20 (xl, xh) (yl, yh)).2]) ∧ Below w.heap.size w w' := by
  have d1 : decide (xh < xl) = false := by simp; omega
  have d2 : decide (yh < yl) = false := by simp; omega
  go_enter Try.func11, Try.ntmps11
  go_wp2_with (first | (go_at_call 19; ((first | (with_reducible refine (Calls.extq (isEmpty_any _ _ _)).mono ?_) | (refine (Calls.ext (isEmpty_any _ _ _)).mono ?_)); rintro e _ ⟨rfl, y, rfl⟩)) | (go_at_call 28; ((first | (with_reducible refine (Calls.extq (single_any _ _ _)).mono ?_) | (refine (Calls.ext (single_any _ _ _)).mono ?_)); rintro e _ ⟨rfl, y, rfl⟩)) | (go_at_call 35; ((first | (with_reducible refine (Calls.extq (compare_any _ _ _ _ _ _ (by decide) (by decide))).mono ?_) | (refine (Calls.ext (compare_any _ _ _ _ _ _ (by decide) (by decide))).mono ?_)); rintro e _ ⟨rfl, y, rfl⟩)))
  all_goals
    refine bodyPost_ret (v := .agg #[.int .i32 (cmpI 20 (xl, xh) (yl, yh)).1, .int .i32 (cmpI 20 (xl, xh) (yl, yh)).2]) ?hr rfl ⟨rfl, ?bel⟩
    case hr =>
      simp [results, Try.results11, go_sem]
    case bel =>
      (repeat (first | exact Below.refl _ _ | refine Below.setCell ?_ ?_ _ | refine Ext.below ?_ ?_ _ | refine Below.alloc ?_ ?_ _)) <;> (first | (simp; done) | (simp; omega) | omega | (simp only [World.size_setCell, World.size_alloc]; refine Nat.le_trans ?_ (Below.size (Ext.h _)); simp only [World.size_setCell, World.size_alloc]; omega))
theorem apply_20 (xl xh yl yh : Int) (w : World) (hx1 : -2147483648 ≤ xl) (hx2 : xl ≤ 2147483647) (hx3 : -2147483648 ≤ xh) (hx4 : xh ≤ 2147483647) (hy1 : -2147483648 ≤ yl) (hy2 : yl ≤ 2147483647) (hy3 : -2147483648 ≤ yh) (hy4 : yh ≤ 2147483647) (hxe : xl ≤ xh) (hye : yl ≤ yh) (hs : ¬ (xl = xh ∧ yl = yh)) :
    Calls Try.prog 11 #[.int .u8 20, .agg #[.int .i32 xl, .int .i32 xh], .agg #[.int .i32 yl, .int .i32 yh]] w fun e w' => e = .returned (.agg #[.int .i32 (cmpI 20 (xl, xh) (yl, yh)).1, .int .i32 (cmpI 20 (xl, xh) (yl, yh)).2]) ∧ Below w.heap.size w w' := by
  by_cases h : xl = xh
  · exact apply_20_s xl xh yl yh w hx1 hx2 hx3 hx4 hy1 hy2 hy3 hy4 hxe hye (by simpa using h) (by simp; omega)
  · exact apply_20_n xl xh yl yh w hx1 hx2 hx3 hx4 hy1 hy2 hy3 hy4 hxe hye (by simpa using h)

set_option maxRecDepth 100000 in
set_option maxHeartbeats 1000000 in
theorem apply_21_n (xl xh yl yh : Int) (w : World) (hx1 : -2147483648 ≤ xl) (hx2 : xl ≤ 2147483647) (hx3 : -2147483648 ≤ xh) (hx4 : xh ≤ 2147483647) (hy1 : -2147483648 ≤ yl) (hy2 : yl ≤ 2147483647) (hy3 : -2147483648 ≤ yh) (hy4 : yh ≤ 2147483647) (hxe : xl ≤ xh) (hye : yl ≤ yh) (hs : (xl == xh) = false) :
    Calls Try.prog 11 #[.int .u8 21, .agg #[.int .i32 xl, .int .i32 xh], .agg #[.int .i32 yl, .int .i32 yh]] w fun e w' => e = .returned (.agg #[.int .i32 (cmpI 21 (xl, xh) (yl, yh)).1, .int .i32 (cmpI 21 (xl, xh) (yl, yh)).2]) ∧ Below w.heap.size w w' := by
  have d1 : decide (xh < xl) = false := by simp; omega
  have d2 : decide (yh < yl) = false := by simp; omega
  go_enter Try.func11, Try.ntmps11
  go_wp2_with (first | (go_at_call 19; ((first | (with_reducible refine (Calls.extq (isEmpty_any _ _ _)).mono ?_) | (refine (Calls.ext (isEmpty_any _ _ _)).mono ?_)); rintro e _ ⟨rfl, y, rfl⟩)) | (go_at_call 28; ((first | (with_reducible refine (Calls.extq (single_any _ _ _)).mono ?_) | (refine (Calls.ext (single_any _ _ _)).mono ?_)); rintro e _ ⟨rfl, y, rfl⟩)) | (go_at_call 35; ((first | (with_reducible refine (Calls.extq (compare_any _ _ _ _ _ _ (by decide) (by decide))).mono ?_) | (refine (Calls.ext (compare_any _ _ _ _ _ _ (by decide) (by decide))).mono ?_)); rintro e _ ⟨rfl, y, rfl⟩)))
  all_goals
    refine bodyPost_ret (v := .agg #[.int .i32 (cmpI 21 (xl, xh) (yl, yh)).1, .int .i32 (cmpI 21 (xl, xh) (yl, yh)).2]) ?hr rfl ⟨rfl, ?bel⟩
    case hr =>
      simp [results, Try.results11, go_sem]
    case bel =>
      (repeat (first | exact Below.refl _ _ | refine Below.setCell ?_ ?_ _ | refine Ext.below ?_ ?_ _ | refine Below.alloc ?_ ?_ _)) <;> (first | (simp; done) | (simp; omega) | omega | (simp only [World.size_setCell, World.size_alloc]; refine Nat.le_trans ?_ (Below.size (Ext.h _)); simp only [World.size_setCell, World.size_alloc]; omega))
set_option maxRecDepth 100000 in
set_option maxHeartbeats 1000000 in
theorem apply_21_s (xl xh yl yh : Int) (w : World) (hx1 : -2147483648 ≤ xl) (hx2 : xl ≤ 2147483647) (hx3 : -2147483648 ≤ xh) (hx4 : xh ≤ 2147483647) (hy1 : -2147483648 ≤ yl) (hy2 : yl ≤ 2147483647) (hy3 : -2147483648 ≤ yh) (hy4 : yh ≤ 2147483647) (hxe : xl ≤ xh) (hye : yl ≤ yh) (hs : (xl == xh) = true) (hs' : (yl == yh) = false) :
    Calls Try.prog 11 #[.int .u8 21, .agg #[.int .i32 xl, .int .i32 xh], .agg #[.int .i32 yl, .int .i32 yh]] w fun e w' => e = .returned (.agg #[.int .i32 (cmpI 21 (xl, xh) (yl, yh)).1, .int .i32 (cmpI 21 (xl, xh) (yl, yh)).2]) ∧ Below w.heap.size w w' := by
  have d1 : decide (xh < xl) = false := by simp; omega
  have d2 : decide (yh < yl) = false := by simp; omega
  go_enter Try.func11, Try.ntmps11
  go_wp2_with (first | (go_at_call 19; ((first | (with_reducible refine (Calls.extq (isEmpty_any _ _ _)).mono ?_) | (refine (Calls.ext (isEmpty_any _ _ _)).mono ?_)); rintro e _ ⟨rfl, y, rfl⟩)) | (go_at_call 28; ((first | (with_reducible refine (Calls.extq (single_any _ _ _)).mono ?_) | (refine (Calls.ext (single_any _ _ _)).mono ?_)); rintro e _ ⟨rfl, y, rfl⟩)) | (go_at_call 35; ((first | (with_reducible refine (Calls.extq (compare_any _ _ _ _ _ _ (by decide) (by decide))).mono ?_) | (refine (Calls.ext (compare_any _ _ _ _ _ _ (by decide) (by decide))).mono ?_)); rintro e _ ⟨rfl, y, rfl⟩)))
  all_goals
    refine bodyPost_ret (v := .agg #[.int .i32 (cmpI 21 (xl, xh) (yl, yh)).1, .int .i32 (cmpI 21 (xl, xh) (yl, yh)).2]) ?hr rfl ⟨rfl, ?bel⟩
    case hr =>
      simp [results, Try.results11, go_sem]
    case bel =>
      (repeat (first | exact Below.refl _ _ | refine Below.setCell ?_ ?_ _ | refine Ext.below ?_ ?_ _ | refine Below.alloc ?_ ?_ _)) <;> (first | (simp; done) | (simp; omega) | omega | (simp only [World.size_setCell, World.size_alloc]; refine Nat.le_trans ?_ (Below.size (Ext.h _)); simp only [World.size_setCell, World.size_alloc]; omega))
theorem apply_21 (xl xh yl yh : Int) (w : World) (hx1 : -2147483648 ≤ xl) (hx2 : xl ≤ 2147483647) (hx3 : -2147483648 ≤ xh) (hx4 : xh ≤ 2147483647) (hy1 : -2147483648 ≤ yl) (hy2 : yl ≤ 2147483647) (hy3 : -2147483648 ≤ yh) (hy4 : yh ≤ 2147483647) (hxe : xl ≤ xh) (hye : yl ≤ yh) (hs : ¬ (xl = xh ∧ yl = yh)) :
    Calls Try.prog 11 #[.int .u8 21, .agg #[.int .i32 xl, .int .i32 xh], .agg #[.int .i32 yl, .int .i32 yh]] w fun e w' => e = .returned (.agg #[.int .i32 (cmpI 21 (xl, xh) (yl, yh)).1, .int .i32 (cmpI 21 (xl, xh) (yl, yh)).2]) ∧ Below w.heap.size w w' := by
  by_cases h : xl = xh
  · exact apply_21_s xl xh yl yh w hx1 hx2 hx3 hx4 hy1 hy2 hy3 hy4 hxe hye (by simpa using h) (by simp; omega)
  · exact apply_21_n xl xh yl yh w hx1 hx2 hx3 hx4 hy1 hy2 hy3 hy4 hxe hye (by simpa using h)

set_option maxRecDepth 100000 in
set_option maxHeartbeats 1000000 in
theorem apply_22_n (xl xh yl yh : Int) (w : World) (hx1 : -2147483648 ≤ xl) (hx2 : xl ≤ 2147483647) (hx3 : -2147483648 ≤ xh) (hx4 : xh ≤ 2147483647) (hy1 : -2147483648 ≤ yl) (hy2 : yl ≤ 2147483647) (hy3 : -2147483648 ≤ yh) (hy4 : yh ≤ 2147483647) (hxe : xl ≤ xh) (hye : yl ≤ yh) (hs : (xl == xh) = false) :
    Calls Try.prog 11 #[.int .u8 22, .agg #[.int .i32 xl, .int .i32 xh], .agg #[.int .i32 yl, .int .i32 yh]] w fun e w' => e = .returned (.agg #[.int .i32 (logI 22 (xl, xh) (yl, yh)).1, .int .i32 (logI 22 (xl, xh) (yl, yh)).2]) ∧ Below w.heap.size w w' := by
  have d1 : decide (xh < xl) = false := by simp; omega
  have d2 : decide (yh < yl) = false := by simp; omega
  go_enter Try.func11, Try.ntmps11
  go_wp2_with (first | (go_at_call 19; ((first | (with_reducible refine (Calls.extq (isEmpty_any _ _ _)).mono ?_) | (refine (Calls.ext (isEmpty_any _ _ _)).mono ?_)); rintro e _ ⟨rfl, y, rfl⟩)) | (go_at_call 28; ((first | (with_reducible refine (Calls.extq (single_any _ _ _)).mono ?_) | (refine (Calls.ext (single_any _ _ _)).mono ?_)); rintro e _ ⟨rfl, y, rfl⟩)) | (go_at_call 34; ((first | (with_reducible refine (Calls.extq (logic_any _ _ _ _ _ _ (by decide) (by decide))).mono ?_) | (refine (Calls.ext (logic_any _ _ _ _ _ _ (by decide) (by decide))).mono ?_)); rintro e _ ⟨rfl, y, rfl⟩)))
  all_goals
    refine bodyPost_ret (v := .agg #[.int .i32 (logI 22 (xl, xh) (yl, yh)).1, .int .i32 (logI 22 (xl, xh) (yl, yh)).2]) ?hr rfl ⟨rfl, ?bel⟩
    case hr =>
      simp [results, Try.results11, go_sem]
    case bel =>
      (repeat (first | exact Below.refl _ _ | refine Below.setCell ?_ ?_ _ | refine Ext.below ?_ ?_ _ | refine Below.alloc ?_ ?_ _)) <;> (first | (simp; done) | (simp; omega) | omega | (simp only [World.size_setCell, World.size_alloc]; refine Nat.le_trans ?_ (Below.size (Ext.h _)); simp only [World.size_setCell, World.size_alloc]; omega))
set_option maxRecDepth 100000 in
set_option maxHeartbeats 1000000 in
theorem apply_22_s (xl xh yl yh : Int) (w : World) (hx1 : -2147483648 ≤ xl) (hx2 : xl ≤ 2147483647) (hx3 : -2147483648 ≤ xh) (hx4 : xh ≤ 2147483647) (hy1 : -2147483648 ≤ yl) (hy2 : yl ≤ 2147483647) (hy3 : -2147483648 ≤ yh) (hy4 : yh ≤ 2147483647) (hxe : xl ≤ xh) (hye : yl ≤ yh) (hs : (xl == xh) = true) (hs' : (yl == yh) = false) :
    Calls Try.prog 11 #[.int .u8 22, .agg #[.int .i32 xl, .int .i32 xh], .agg #[.int .i32 yl, .int .i32 yh]] w fun e w' => e = .returned (.agg #[.int .i32 (logI 22 (xl, xh) (yl, yh)).1, .int .i32 (logI 22 (xl, xh) (yl, yh)).2]) ∧ Below w.heap.size w w' := by
  have d1 : decide (xh < xl) = false := by simp; omega
  have d2 : decide (yh < yl) = false := by simp; omega
  go_enter Try.func11, Try.ntmps11
  go_wp2_with (first | (go_at_call 19; ((first | (with_reducible refine (Calls.extq (isEmpty_any _ _ _)).mono ?_) | (refine (Calls.ext (isEmpty_any _ _ _)).mono ?_)); rintro e _ ⟨rfl, y, rfl⟩)) | (go_at_call 28; ((first | (with_reducible refine (Calls.extq (single_any _ _ _)).mono ?_) | (refine (Calls.ext (single_any _ _ _)).mono ?_)); rintro e _ ⟨rfl, y, rfl⟩)) | (go_at_call 34; ((first | (with_reducible refine (Calls.extq (logic_any _ _ _ _ _ _ (by decide) (by decide))).mono ?_) | (refine (Calls.ext (logic_any _ _ _ _ _ _ (by decide) (by decide))).mono ?_)); rintro e _ ⟨rfl, y, rfl⟩)))
  all_goals
    refine bodyPost_ret (v := .agg #[.int .i32 (logI 22 (xl, xh) (yl, yh)).1, .int .i32 (logI 22 (xl, xh) (yl, yh)).2]) ?hr rfl ⟨rfl, ?bel⟩
    case hr =>
      simp [results, Try.results11, go_sem]
    case bel =>
      (repeat (first | exact Below.refl _ _ | refine Below.setCell ?_ ?_ _ | refine Ext.below ?_ ?_ _ | refine Below.alloc ?_ ?_ _)) <;> (first | (simp; done) | (simp; omega) | omega | (simp only [World.size_setCell, World.size_alloc]; refine Nat.le_trans ?_ (Below.size (Ext.h _)); simp only [World.size_setCell, World.size_alloc]; omega))
theorem apply_22 (xl xh yl yh : Int) (w : World) (hx1 : -2147483648 ≤ xl) (hx2 : xl ≤ 2147483647) (hx3 : -2147483648 ≤ xh) (hx4 : xh ≤ 2147483647) (hy1 : -2147483648 ≤ yl) (hy2 : yl ≤ 2147483647) (hy3 : -2147483648 ≤ yh) (hy4 : yh ≤ 2147483647) (hxe : xl ≤ xh) (hye : yl ≤ yh) (hs : ¬ (xl = xh ∧ yl = yh)) :
    Calls Try.prog 11 #[.int .u8 22, .agg #[.int .i32 xl, .int .i32 xh], .agg #[.int .i32 yl, .int .i32 yh]] w fun e w' => e = .returned (.agg #[.int .i32 (logI 22 (xl, xh) (yl, yh)).1, .int .i32 (logI 22 (xl, xh) (yl, yh)).2]) ∧ Below w.heap.size w w' := by
  by_cases h : xl = xh
  · exact apply_22_s xl xh yl yh w hx1 hx2 hx3 hx4 hy1 hy2 hy3 hy4 hxe hye (by simpa using h) (by simp; omega)
  · exact apply_22_n xl xh yl yh w hx1 hx2 hx3 hx4 hy1 hy2 hy3 hy4 hxe hye (by simpa using h)

set_option maxRecDepth 100000 in
set_option maxHeartbeats 1000000 in
theorem apply_23_n (xl xh yl yh : Int) (w : World) (hx1 : -2147483648 ≤ xl) (hx2 : xl ≤ 2147483647) (hx3 : -2147483648 ≤ xh) (hx4 : xh ≤ 2147483647) (hy1 : -2147483648 ≤ yl) (hy2 : yl ≤ 2147483647) (hy3 : -2147483648 ≤ yh) (hy4 : yh ≤ 2147483647) (hxe : xl ≤ xh) (hye : yl ≤ yh) (hs : (xl == xh) = false) :
    Calls Try.prog 11 #[.int .u8 23, .agg #[.int .i32 xl, .int .i32 xh], .agg #[.int .i32 yl, .int .i32 yh]] w fun e w' => e = .returned (.agg #[.int .i32 (logI 23 (xl, xh) (yl, yh)).1, .int .i32 (logI 23 (xl, xh) (yl, yh)).2]) ∧ Below w.heap.size w w' := by
  have d1 : decide (xh < xl) = false := by simp; omega
  have d2 : decide (yh < yl) = false := by simp; omega
  go_enter Try.func11, Try.ntmps11
  go_wp2_with (first | (go_at_call 19; ((first | (with_reducible refine (Calls.extq (isEmpty_any _ _ _)).mono ?_) | (refine (Calls.ext (isEmpty_any _ _ _)).mono ?_)); rintro e _ ⟨rfl, y, rfl⟩)) | (go_at_call 28; ((first | (with_reducible refine (Calls.extq (single_any _ _ _)).mono ?_) | (refine (Calls.ext (single_any _ _ _)).mono ?_)); rintro e _ ⟨rfl, y, rfl⟩)) | (go_at_call 34; ((first | (with_reducible refine (Calls.extq (logic_any _ _ _ _ _ _ (by decide) (by decide))).mono ?_) | (refine (Calls.ext (logic_any _ _ _ _ _ _ (by decide) (by decide))).mono ?_)); rintro e _ ⟨rfl, y, rfl⟩)))
  all_goals
    refine bodyPost_ret (v := .agg #[.int .i32 (logI 23 (xl, xh) (yl, yh)).1, .int .i32 (logI 23 (xl, xh) (yl, yh)).2]) ?hr rfl ⟨rfl, ?bel⟩
    case hr =>
      simp [results, Try.results11, go_sem]
    case bel =>
      (repeat (first | exact Below.refl _ _ | refine Below.setCell ?_ ?_ _ | refine Ext.below ?_ ?_ _ | refine Below.alloc ?_ ?_ _)) <;> (first | (simp; done) | (simp; omega) | omega | (simp only [World.size_setCell, World.size_alloc]; refine Nat.le_trans ?_ (Below.size (Ext.h _)); simp only [World.size_setCell, World.size_alloc]; omega))
set_option maxRecDepth 100000 in
set_option maxHeartbeats 1000000 in
theorem apply_23_s (xl xh yl yh : Int) (w : World) (hx1 : -2147483648 ≤ xl) (hx2 : xl ≤ 2147483647) (hx3 : -2147483648 ≤ xh) (hx4 : xh ≤ 2147483647) (hy1 : -2147483648 ≤ yl) (hy2 : yl ≤ 2147483647) (hy3 : -2147483648 ≤ yh) (hy4 : yh ≤ 2147483647) (hxe : xl ≤ xh) (hye : yl ≤ yh) (hs : (xl == xh) = true) (hs' : (yl == yh) = false) :
    Calls Try.prog 11 #[.int .u8 23, .agg #[.int .i32 xl, .int .i32 xh], .agg #[.int .i32 yl, .int .i32 yh]] w fun e w' => e = .returned (.agg #[.int .i32 (logI 23 (xl, xh) (yl, yh)).1, .int .i32 (logI 23 (xl, xh) (yl, yh)).2]) ∧ Below w.heap.size w w' := by
  have d1 : decide (xh < xl) = false := by simp; omega
  have d2 : decide (yh < yl) = false := by simp; omega
  go_enter Try.func11, Try.ntmps11
  go_wp2_with (first | (go_at_call 19; ((first | (with_reducible refine (Calls.extq (isEmpty_any _ _ _)).mono ?_) | (refine (Calls.ext (isEmpty_any _ _ _)).mono ?_)); rintro e _ ⟨rfl, y, rfl⟩)) | (go_at_call 28; ((first | (with_reducible refine (Calls.extq (single_any _ _ _)).mono ?_) | (refine (Calls.ext (single_any _ _ _)).mono ?_)); rintro e _ ⟨rfl, y, rfl⟩)) | (go_at_call 34; ((first | (with_reducible refine (Calls.extq (logic_any _ _ _ _ _ _ (by decide) (by decide))).mono ?_) | (refine (Calls.ext (logic_any _ _ _ _ _ _ (by decide) (by decide))).mono ?_)); rintro e _ ⟨rfl, y, rfl⟩)))
  all_goals
    refine bodyPost_ret (v := .agg #[.int .i32 (logI 23 (xl, xh) (yl, yh)).1, .int .i32 (logI 23 (xl, xh) (yl, yh)).2]) ?hr rfl ⟨rfl, ?bel⟩
    case hr =>
      simp [results, Try.results11, go_sem]
    case bel =>
      (repeat (first | exact Below.refl _ _ | refine Below.setCell ?_ ?_ _ | refine Ext.below ?_ ?_ _ | refine Below.alloc ?_ ?_ _)) <;> (first | (simp; done) | (simp; omega) | omega | (simp only [World.size_setCell, World.size_alloc]; refine Nat.le_trans ?_ (Below.size (Ext.h _)); simp only [World.size_setCell, World.size_alloc]; omega))
theorem apply_23 (xl xh yl yh : Int) (w : World) (hx1 : -2147483648 ≤ xl) (hx2 : xl ≤ 2147483647) (hx3 : -2147483648 ≤ xh) (hx4 : xh ≤ 2147483647) (hy1 : -2147483648 ≤ yl) (hy2 : yl ≤ 2147483647) (hy3 : -2147483648 ≤ yh) (hy4 : yh ≤ 2147483647) (hxe : xl ≤ xh) (hye : yl ≤ yh) (hs : ¬ (xl = xh ∧ yl = yh)) :
    Calls Try.prog 11 #[.int .u8 23, .agg #[.int .i32 xl, .int .i32 xh], .agg #[.int .i32 yl, .int .i32 yh]] w fun e w' => e = .returned (.agg #[.int .i32 (logI 23 (xl, xh) (yl, yh)).1, .int .i32 (logI 23 (xl, xh) (yl, yh)).2]) ∧ Below w.heap.size w w' := by
  by_cases h : xl = xh
  · exact apply_23_s xl xh yl yh w hx1 hx2 hx3 hx4 hy1 hy2 hy3 hy4 hxe hye (by simpa using h) (by simp; omega)
  · exact apply_23_n xl xh yl yh w hx1 hx2 hx3 hx4 hy1 hy2 hy3 hy4 hxe hye (by simpa using h)

set_option maxRecDepth 100000 in
set_option maxHeartbeats 1000000 in
theorem apply_out_lo (op xl xh yl yh : Int) (w : World) (h : op < 6) :
    Calls Try.prog 11 #[.int .u8 op, .agg #[.int .i32 xl, .int .i32 xh], .agg #[.int .i32 yl, .int .i32 yh]] w fun e w' => e = .returned (.agg #[.int .i32 (-2147483648), .int .i32 2147483647]) ∧ Below w.heap.size w w' := by
  have d1 : decide (op < 6) = true := by simpa using h
  go_enter Try.func11, Try.ntmps11
  go_wp2_with (first | (go_at_call 18; ((first | (with_reducible refine (Calls.extq (full_any _)).mono ?_) | (refine (Calls.ext (full_any _)).mono ?_)); rintro e _ ⟨rfl, y, rfl⟩)))
  all_goals
    refine bodyPost_ret (v := .agg #[.int .i32 (-2147483648), .int .i32 2147483647]) ?hr rfl ⟨rfl, ?bel⟩
    case hr =>
      simp [results, Try.results11, go_sem]
    case bel =>
      (repeat (first | exact Below.refl _ _ | refine Below.setCell ?_ ?_ _ | refine Ext.below ?_ ?_ _ | refine Below.alloc ?_ ?_ _)) <;> (first | (simp; done) | (simp; omega) | omega | (simp only [World.size_setCell, World.size_alloc]; refine Nat.le_trans ?_ (Below.size (Ext.h _)); simp only [World.size_setCell, World.size_alloc]; omega))

set_option maxRecDepth 100000 in
set_option maxHeartbeats 1000000 in
theorem apply_out_hi (op xl xh yl yh : Int) (w : World) (h : 23 < op) :
    Calls Try.prog 11 #[.int .u8 op, .agg #[.int .i32 xl, .int .i32 xh], .agg #[.int .i32 yl, .int .i32 yh]] w fun e w' => e = .returned (.agg #[.int .i32 (-2147483648), .int .i32 2147483647]) ∧ Below w.heap.size w w' := by
  have d1 : decide (op < 6) = false := by simp; omega
  have d2 : decide (23 < op) = true := by simpa using h
  go_enter Try.func11, Try.ntmps11
  go_wp2_with (first | (go_at_call 18; ((first | (with_reducible refine (Calls.extq (full_any _)).mono ?_) | (refine (Calls.ext (full_any _)).mono ?_)); rintro e _ ⟨rfl, y, rfl⟩)))
  all_goals
    refine bodyPost_ret (v := .agg #[.int .i32 (-2147483648), .int .i32 2147483647]) ?hr rfl ⟨rfl, ?bel⟩
    case hr =>
      simp [results, Try.results11, go_sem]
    case bel =>
      (repeat (first | exact Below.refl _ _ | refine Below.setCell ?_ ?_ _ | refine Ext.below ?_ ?_ _ | refine Below.alloc ?_ ?_ _)) <;> (first | (simp; done) | (simp; omega) | omega | (simp only [World.size_setCell, World.size_alloc]; refine Nat.le_trans ?_ (Below.size (Ext.h _)); simp only [World.size_setCell, World.size_alloc]; omega))

set_option maxRecDepth 100000 in
set_option maxHeartbeats 1000000 in
theorem apply_emp_x (op xl xh yl yh : Int) (w : World) (h1 : 6 ≤ op) (h2 : op ≤ 23) (h : xh < xl) :
    Calls Try.prog 11 #[.int .u8 op, .agg #[.int .i32 xl, .int .i32 xh], .agg #[.int .i32 yl, .int .i32 yh]] w fun e w' => e = .returned (.agg #[.int .i32 1, .int .i32 0]) ∧ Below w.heap.size w w' := by
  have d1 : decide (op < 6) = false := by simp; omega
  have d2 : decide (23 < op) = false := by simp; omega
  have d3 : decide (xh < xl) = true := by simpa using h
  go_enter Try.func11, Try.ntmps11
  go_wp2_with (first | (go_at_call 19; ((first | (with_reducible refine (Calls.extq (isEmpty_any _ _ _)).mono ?_) | (refine (Calls.ext (isEmpty_any _ _ _)).mono ?_)); rintro e _ ⟨rfl, y, rfl⟩)) | (go_at_call 22; ((first | (with_reducible refine (Calls.extq (empty_any _)).mono ?_) | (refine (Calls.ext (empty_any _)).mono ?_)); rintro e _ ⟨rfl, y, rfl⟩)))
  all_goals
    refine bodyPost_ret (v := .agg #[.int .i32 1, .int .i32 0]) ?hr rfl ⟨rfl, ?bel⟩
    case hr =>
      simp [results, Try.results11, go_sem]
    case bel =>
      (repeat (first | exact Below.refl _ _ | refine Below.setCell ?_ ?_ _ | refine Ext.below ?_ ?_ _ | refine Below.alloc ?_ ?_ _)) <;> (first | (simp; done) | (simp; omega) | omega | (simp only [World.size_setCell, World.size_alloc]; refine Nat.le_trans ?_ (Below.size (Ext.h _)); simp only [World.size_setCell, World.size_alloc]; omega))

set_option maxRecDepth 100000 in
set_option maxHeartbeats 1000000 in
theorem apply_emp_y (op xl xh yl yh : Int) (w : World) (h1 : 6 ≤ op) (h2 : op ≤ 23) (h : ¬ xh < xl) (h' : yh < yl) :
    Calls Try.prog 11 #[.int .u8 op, .agg #[.int .i32 xl, .int .i32 xh], .agg #[.int .i32 yl, .int .i32 yh]] w fun e w' => e = .returned (.agg #[.int .i32 1, .int .i32 0]) ∧ Below w.heap.size w w' := by
  have d1 : decide (op < 6) = false := by simp; omega
  have d2 : decide (23 < op) = false := by simp; omega
  have d3 : decide (xh < xl) = false := by simpa using h
  have d4 : decide (yh < yl) = true := by simpa using h'
  go_enter Try.func11, Try.ntmps11
  go_wp2_with (first | (go_at_call 19; ((first | (with_reducible refine (Calls.extq (isEmpty_any _ _ _)).mono ?_) | (refine (Calls.ext (isEmpty_any _ _ _)).mono ?_)); rintro e _ ⟨rfl, y, rfl⟩)) | (go_at_call 22; ((first | (with_reducible refine (Calls.extq (empty_any _)).mono ?_) | (refine (Calls.ext (empty_any _)).mono ?_)); rintro e _ ⟨rfl, y, rfl⟩)))
  all_goals
    refine bodyPost_ret (v := .agg #[.int .i32 1, .int .i32 0]) ?hr rfl ⟨rfl, ?bel⟩
    case hr =>
      simp [results, Try.results11, go_sem]
    case bel =>
      (repeat (first | exact Below.refl _ _ | refine Below.setCell ?_ ?_ _ | refine Ext.below ?_ ?_ _ | refine Below.alloc ?_ ?_ _)) <;> (first | (simp; done) | (simp; omega) | omega | (simp only [World.size_setCell, World.size_alloc]; refine Nat.le_trans ?_ (Below.size (Ext.h _)); simp only [World.size_setCell, World.size_alloc]; omega))

set_option maxRecDepth 100000 in
set_option maxHeartbeats 1000000 in
theorem apply_single_ok (op n m : Int) (w : World) (h1 : 6 ≤ op) (h2 : op ≤ 23) (hn : W32 n) (hm : W32 m) (we0 : (we op m != 0) = false) :
    Calls Try.prog 11 #[.int .u8 op, .agg #[.int .i32 n, .int .i32 n], .agg #[.int .i32 m, .int .i32 m]] w fun e w' => e = .returned (.agg #[.int .i32 (wv op n m), .int .i32 (wv op n m)]) ∧ Below w.heap.size w w' := by
  have d1 : decide (op < 6) = false := by simp; omega
  have d2 : decide (23 < op) = false := by simp; omega
  have d3 : decide (n < n) = false := by simp
  have d4 : decide (m < m) = false := by simp
  have d5 : (n == n) = true := by simp
  have d6 : (m == m) = true := by simp
  have we1 : (we op m == 0) = true := by simpa using we0
  go_enter Try.func11, Try.ntmps11
  go_wp2_with (first | (go_at_call 19; ((first | (with_reducible refine (Calls.extq (isEmpty_any _ _ _)).mono ?_) | (refine (Calls.ext (isEmpty_any _ _ _)).mono ?_)); rintro e _ ⟨rfl, y, rfl⟩)) | (go_at_call 28; ((first | (with_reducible refine (Calls.extq (single_any _ _ _)).mono ?_) | (refine (Calls.ext (single_any _ _ _)).mono ?_)); rintro e _ ⟨rfl, y, rfl⟩)) | (go_at_call 22; ((first | (with_reducible refine (Calls.extq (empty_any _)).mono ?_) | (refine (Calls.ext (empty_any _)).mono ?_)); rintro e _ ⟨rfl, y, rfl⟩)) | (go_at_call 21; ((first | (with_reducible refine (Calls.extq (of_any _ _)).mono ?_) | (refine (Calls.ext (of_any _ _)).mono ?_)); rintro e _ ⟨rfl, y, rfl⟩)) | (go_at_call 16; refine (Calls.extq_same (wapply_any _ _ _ _ hn hm)).mono ?_; rintro e _ ⟨rfl, y, rfl⟩))
  all_goals
    refine bodyPost_ret (v := .agg #[.int .i32 (wv op n m), .int .i32 (wv op n m)]) ?hr rfl ⟨rfl, ?bel⟩
    case hr =>
      simp [results, Try.results11, go_sem]
    case bel =>
      (repeat (first | exact Below.refl _ _ | refine Below.setCell ?_ ?_ _ | refine Ext.below ?_ ?_ _ | refine Below.alloc ?_ ?_ _)) <;> (first | (simp; done) | (simp; omega) | omega | (simp only [World.size_setCell, World.size_alloc]; refine Nat.le_trans ?_ (Below.size (Ext.h _)); simp only [World.size_setCell, World.size_alloc]; omega))

set_option maxRecDepth 100000 in
set_option maxHeartbeats 1000000 in
theorem apply_single_no (op n m : Int) (w : World) (h1 : 6 ≤ op) (h2 : op ≤ 23) (hn : W32 n) (hm : W32 m) (we0 : (we op m != 0) = true) :
    Calls Try.prog 11 #[.int .u8 op, .agg #[.int .i32 n, .int .i32 n], .agg #[.int .i32 m, .int .i32 m]] w fun e w' => e = .returned (.agg #[.int .i32 1, .int .i32 0]) ∧ Below w.heap.size w w' := by
  have d1 : decide (op < 6) = false := by simp; omega
  have d2 : decide (23 < op) = false := by simp; omega
  have d3 : decide (n < n) = false := by simp
  have d4 : decide (m < m) = false := by simp
  have d5 : (n == n) = true := by simp
  have d6 : (m == m) = true := by simp
  have we1 : (we op m == 0) = false := by simpa using we0
  go_enter Try.func11, Try.ntmps11
  go_wp2_with (first | (go_at_call 19; ((first | (with_reducible refine (Calls.extq (isEmpty_any _ _ _)).mono ?_) | (refine (Calls.ext (isEmpty_any _ _ _)).mono ?_)); rintro e _ ⟨rfl, y, rfl⟩)) | (go_at_call 28; ((first | (with_reducible refine (Calls.extq (single_any _ _ _)).mono ?_) | (refine (Calls.ext (single_any _ _ _)).mono ?_)); rintro e _ ⟨rfl, y, rfl⟩)) | (go_at_call 22; ((first | (with_reducible refine (Calls.extq (empty_any _)).mono ?_) | (refine (Calls.ext (empty_any _)).mono ?_)); rintro e _ ⟨rfl, y, rfl⟩)) | (go_at_call 21; ((first | (with_reducible refine (Calls.extq (of_any _ _)).mono ?_) | (refine (Calls.ext (of_any _ _)).mono ?_)); rintro e _ ⟨rfl, y, rfl⟩)) | (go_at_call 16; refine (Calls.extq_same (wapply_any _ _ _ _ hn hm)).mono ?_; rintro e _ ⟨rfl, y, rfl⟩))
  all_goals
    refine bodyPost_ret (v := .agg #[.int .i32 1, .int .i32 0]) ?hr rfl ⟨rfl, ?bel⟩
    case hr =>
      simp [results, Try.results11, go_sem]
    case bel =>
      (repeat (first | exact Below.refl _ _ | refine Below.setCell ?_ ?_ _ | refine Ext.below ?_ ?_ _ | refine Below.alloc ?_ ?_ _)) <;> (first | (simp; done) | (simp; omega) | omega | (simp only [World.size_setCell, World.size_alloc]; refine Nat.le_trans ?_ (Below.size (Ext.h _)); simp only [World.size_setCell, World.size_alloc]; omega))

/-- The result of an operator. -/
def genI (op : Int) (x y : Int × Int) : Int × Int :=
  if op = 6 then hullL [x.1 + y.1, x.1 + y.2, x.2 + y.1, x.2 + y.2] else if op = 7 then hullL [x.1 - y.1, x.1 - y.2, x.2 - y.1, x.2 - y.2]
  else if op = 8 then hullL [x.1 * y.1, x.1 * y.2, x.2 * y.1, x.2 * y.2] else if op = 9 then divI x y else if op = 10 then modI x y
  else if op ≤ 13 then bitI op x y else if op ≤ 15 then shI op x y else if op ≤ 21 then cmpI op x y else logI op x y
def applyI (op : Int) (x y : Int × Int) : Int × Int :=
  if op < 6 ∨ 23 < op then (-2147483648, 2147483647) else if x.2 < x.1 ∨ y.2 < y.1 then (1, 0)
  else if x.1 = x.2 ∧ y.1 = y.2 then (if we op y.1 = 0 then (wv op x.1 y.1, wv op x.1 y.1) else (1, 0))
  else genI op x y

theorem apply_any (op xl xh yl yh : Int) (w : World) (hx1 : -2147483648 ≤ xl) (hx2 : xl ≤ 2147483647) (hx3 : -2147483648 ≤ xh) (hx4 : xh ≤ 2147483647) (hy1 : -2147483648 ≤ yl) (hy2 : yl ≤ 2147483647) (hy3 : -2147483648 ≤ yh) (hy4 : yh ≤ 2147483647) :
    Calls Try.prog 11 #[.int .u8 op, .agg #[.int .i32 xl, .int .i32 xh], .agg #[.int .i32 yl, .int .i32 yh]] w fun e w' => e = .returned (.agg #[.int .i32 (applyI op (xl, xh) (yl, yh)).1, .int .i32 (applyI op (xl, xh) (yl, yh)).2]) ∧ Below w.heap.size w w' := by
  by_cases o1 : op < 6
  · refine (apply_out_lo op xl xh yl yh w o1).mono fun e w' ⟨q, hb⟩ => ⟨q.trans ?_, hb⟩
    rw [applyI, if_pos (.inl o1)]
  by_cases o2 : 23 < op
  · refine (apply_out_hi op xl xh yl yh w o2).mono fun e w' ⟨q, hb⟩ => ⟨q.trans ?_, hb⟩
    rw [applyI, if_pos (.inr o2)]
  have no : ¬ (op < 6 ∨ 23 < op) := by omega
  by_cases e1 : xh < xl
  · refine (apply_emp_x op xl xh yl yh w (by omega) (by omega) e1).mono fun e w' ⟨q, hb⟩ => ⟨q.trans ?_, hb⟩
    rw [applyI, if_neg no, if_pos (.inl e1)]
  by_cases e2 : yh < yl
  · refine (apply_emp_y op xl xh yl yh w (by omega) (by omega) e1 e2).mono fun e w' ⟨q, hb⟩ => ⟨q.trans ?_, hb⟩
    rw [applyI, if_neg no, if_pos (.inr e2)]
  have ne : ¬ (xh < xl ∨ yh < yl) := by omega
  by_cases s : xl = xh ∧ yl = yh
  · obtain ⟨rfl, rfl⟩ := s
    by_cases k : we op yl = 0
    · refine (apply_single_ok op xl yl w (by omega) (by omega) ⟨hx1, hx2⟩ ⟨hy1, hy2⟩ (by simpa using k)).mono fun e w' ⟨q, hb⟩ => ⟨q.trans ?_, hb⟩
      rw [applyI, if_neg no, if_neg ne, if_pos ⟨rfl, rfl⟩, if_pos k]
    · refine (apply_single_no op xl yl w (by omega) (by omega) ⟨hx1, hx2⟩ ⟨hy1, hy2⟩ (by simpa using k)).mono fun e w' ⟨q, hb⟩ => ⟨q.trans ?_, hb⟩
      rw [applyI, if_neg no, if_neg ne, if_pos ⟨rfl, rfl⟩, if_neg k]
  · have ev : applyI op (xl, xh) (yl, yh) = genI op (xl, xh) (yl, yh) := by rw [applyI, if_neg no, if_neg ne, if_neg s]
    rw [ev]
    have h : op = 6 ∨ op = 7 ∨ op = 8 ∨ op = 9 ∨ op = 10 ∨ op = 11 ∨ op = 12 ∨ op = 13 ∨ op = 14 ∨ op = 15 ∨ op = 16 ∨ op = 17 ∨ op = 18 ∨ op = 19 ∨ op = 20 ∨ op = 21 ∨ op = 22 ∨ op = 23 := by omega
    rcases h with rfl | rfl | rfl | rfl | rfl | rfl | rfl | rfl | rfl | rfl | rfl | rfl | rfl | rfl | rfl | rfl | rfl | rfl
    · exact apply_6 xl xh yl yh w hx1 hx2 hx3 hx4 hy1 hy2 hy3 hy4 (by omega) (by omega) s
    · exact apply_7 xl xh yl yh w hx1 hx2 hx3 hx4 hy1 hy2 hy3 hy4 (by omega) (by omega) s
    · exact apply_8 xl xh yl yh w hx1 hx2 hx3 hx4 hy1 hy2 hy3 hy4 (by omega) (by omega) s
    · exact apply_9 xl xh yl yh w hx1 hx2 hx3 hx4 hy1 hy2 hy3 hy4 (by omega) (by omega) s
    · exact apply_10 xl xh yl yh w hx1 hx2 hx3 hx4 hy1 hy2 hy3 hy4 (by omega) (by omega) s
    · exact apply_11 xl xh yl yh w hx1 hx2 hx3 hx4 hy1 hy2 hy3 hy4 (by omega) (by omega) s
    · exact apply_12 xl xh yl yh w hx1 hx2 hx3 hx4 hy1 hy2 hy3 hy4 (by omega) (by omega) s
    · exact apply_13 xl xh yl yh w hx1 hx2 hx3 hx4 hy1 hy2 hy3 hy4 (by omega) (by omega) s
    · exact apply_14 xl xh yl yh w hx1 hx2 hx3 hx4 hy1 hy2 hy3 hy4 (by omega) (by omega) s
    · exact apply_15 xl xh yl yh w hx1 hx2 hx3 hx4 hy1 hy2 hy3 hy4 (by omega) (by omega) s
    · exact apply_16 xl xh yl yh w hx1 hx2 hx3 hx4 hy1 hy2 hy3 hy4 (by omega) (by omega) s
    · exact apply_17 xl xh yl yh w hx1 hx2 hx3 hx4 hy1 hy2 hy3 hy4 (by omega) (by omega) s
    · exact apply_18 xl xh yl yh w hx1 hx2 hx3 hx4 hy1 hy2 hy3 hy4 (by omega) (by omega) s
    · exact apply_19 xl xh yl yh w hx1 hx2 hx3 hx4 hy1 hy2 hy3 hy4 (by omega) (by omega) s
    · exact apply_20 xl xh yl yh w hx1 hx2 hx3 hx4 hy1 hy2 hy3 hy4 (by omega) (by omega) s
    · exact apply_21 xl xh yl yh w hx1 hx2 hx3 hx4 hy1 hy2 hy3 hy4 (by omega) (by omega) s
    · exact apply_22 xl xh yl yh w hx1 hx2 hx3 hx4 hy1 hy2 hy3 hy4 (by omega) (by omega) s
    · exact apply_23 xl xh yl yh w hx1 hx2 hx3 hx4 hy1 hy2 hy3 hy4 (by omega) (by omega) s

end Go.Proofs.Ytjkjcnamlankoaa
