/-
  What is proved here: the law IntervalSets returns true for every input.
-/
import Derived.Test.YtjkjcnamlankoaaIvApply1
import Derived.Test.YtjkjcnamlankoaaIvOpen
namespace Go.Proofs.Ytjkjcnamlankoaa
open Go.ChangeShapes Go.WideShapes Go.ChangeAt Go.RowKit

set_option maxHeartbeats 400000 in
theorem has_any (xl xh n : Int) (w : World) :
    Calls Try.prog 23 #[.agg #[.int .i32 xl, .int .i32 xh], .int .i32 n] w fun e w' => e = .returned (.bool (decide (xl ≤ n) && decide (n ≤ xh))) ∧ Below w.heap.size w w' := by
  by_cases h1 : xl ≤ n
  · have d1 : decide (xl ≤ n) = true := by simpa using h1
    go_enter Try.func23, Try.ntmps23
    go_wp2
    all_goals
      go_ret
      refine ⟨by simp [d1], ?_⟩
      (repeat (first | exact Below.refl _ _ | refine Below.setCell ?_ ?_ _ | refine Ext.below ?_ ?_ _ | refine Below.alloc ?_ ?_ _)) <;> (first | (simp; done) | (simp; omega) | omega)

  · have d1 : decide (xl ≤ n) = false := by simpa using h1
    go_enter Try.func23, Try.ntmps23
    go_wp2
    all_goals
      go_ret
      refine ⟨by simp, ?_⟩
      (repeat (first | exact Below.refl _ _ | refine Below.setCell ?_ ?_ _ | refine Ext.below ?_ ?_ _ | refine Below.alloc ?_ ?_ _)) <;> (first | (simp; done) | (simp; omega) | omega)

set_option maxRecDepth 100000 in
set_option maxHeartbeats 2000000 in
theorem sets_a (xl xh yl yh n : Int) (hx1 : -2147483648 ≤ xl) (hx2 : xh ≤ 2147483647) (hn1 : -2147483648 ≤ n) (hn2 : n ≤ 2147483647) (hx : xh < xl) (w : World) :
    Calls Try.prog 7 #[.agg #[.int .i32 xl, .int .i32 xh], .agg #[.int .i32 yl, .int .i32 yh], .int .i32 n] w fun e w' => e = .returned (.bool true) ∧ Below w.heap.size w w' := by
  have d0 : decide (xh < xl) = true := by simpa using hx
  have w0 : withinI (xl, xh) (yl, yh) = true := by simp [withinI, emp, hx]
  have he := ne_iv
  have w1 : withinI (xl, xh) (xl, xh) = true := by simp [withinI]
  have w2 : withinI (1, 0) (xl, xh) = true := by simp [withinI, emp]
  have w3 : withinI (xl, xh) (-2147483648, 2147483647) = true := by simp [withinI]; omega
  have n1 : decide (-2147483648 ≤ n) = true := by simpa using hn1
  have n2 : decide (n ≤ 2147483647) = true := by simpa using hn2
  have n3 : (decide (1 ≤ n) && decide (n ≤ 0)) = false := by simp; omega
  go_enter Try.func7, Try.ntmps7
  go_wp2_with fail
  refine (Calls.ext (awake_any _)).mono ?_
  rintro e _ ⟨rfl, y0, rfl⟩
  go_wp2_with fail
  refine (Calls.extq (of_any _ _)).mono ?_
  rintro e _ ⟨rfl, y1, rfl⟩
  go_wp2_with fail
  refine (Calls.extq (full_any _)).mono ?_
  rintro e _ ⟨rfl, y2, rfl⟩
  go_wp2_with fail
  refine (Calls.extq (contains_any _ _ _ _)).mono ?_
  rintro e _ ⟨rfl, y3, rfl⟩
  go_wp2_with fail
  refine (Calls.extq (empty_any _)).mono ?_
  rintro e _ ⟨rfl, y4, rfl⟩
  go_wp2_with fail
  refine (Calls.extq (contains_any _ _ _ _)).mono ?_
  rintro e _ ⟨rfl, y5, rfl⟩
  rw [n3]
  go_wp2_with fail
  refine (Calls.extq (empty_any _)).mono ?_
  rintro e _ ⟨rfl, y6, rfl⟩
  go_wp2_with fail
  refine wp_region_extq (by kernel_rfl) (by kernel_rfl) ?_
  repeat (go_big_quiet_step (first | (go_at_call 17; exact Calls.extq (contains_any _ _ _ _)) | (go_at_call 23; exact Calls.extq (has_any _ _ _ _)) | (go_at_call 19; exact Calls.extq (isEmpty_any _ _ _))))
  refine wpQuiet_nil ?_
  rintro _ ⟨x1, rfl⟩
  go_wp2_with (first | (go_at_call 23; ((first | (with_reducible refine (Calls.extq (has_any _ _ _ _)).mono ?_) | (refine (Calls.ext (has_any _ _ _ _)).mono ?_)); rintro e _ ⟨rfl, y, rfl⟩)))
  refine wp_region_extq (by kernel_rfl) (by kernel_rfl) ?_
  repeat (go_big_quiet_step (first | (go_at_call 24; exact Calls.extq (within_any _ _ _ _ _)) | (go_at_call 22; exact Calls.extq (empty_any _)) | (go_at_call 18; exact Calls.extq (full_any _))))
  refine wpQuiet_nil ?_
  rintro _ ⟨x2, rfl⟩
  go_wp2
  all_goals
    go_ret
    refine ⟨by simp, ?_⟩
    (repeat (first | exact Below.refl _ _ | refine Below.setCell ?_ ?_ _ | refine Ext.below ?_ ?_ _ | refine Below.alloc ?_ ?_ _)) <;> (first | (simp; done) | (simp; omega) | omega)

set_option maxRecDepth 100000 in
set_option maxHeartbeats 2000000 in
theorem sets_b (xl xh yl yh n : Int) (hx1 : -2147483648 ≤ xl) (hx2 : xh ≤ 2147483647) (hn1 : -2147483648 ≤ n) (hn2 : n ≤ 2147483647) (hx : ¬ xh < xl) (h1 : ¬ yl ≤ xl) (w : World) :
    Calls Try.prog 7 #[.agg #[.int .i32 xl, .int .i32 xh], .agg #[.int .i32 yl, .int .i32 yh], .int .i32 n] w fun e w' => e = .returned (.bool true) ∧ Below w.heap.size w w' := by
  have d0 : decide (xh < xl) = false := by simpa using hx
  have d1 : decide (yl ≤ xl) = false := by simpa using h1
  have w0 : withinI (xl, xh) (yl, yh) = false := by simp [withinI, emp]; omega
  have he := ne_iv
  have w1 : withinI (xl, xh) (xl, xh) = true := by simp [withinI]
  have w2 : withinI (1, 0) (xl, xh) = true := by simp [withinI, emp]
  have w3 : withinI (xl, xh) (-2147483648, 2147483647) = true := by simp [withinI]; omega
  have n1 : decide (-2147483648 ≤ n) = true := by simpa using hn1
  have n2 : decide (n ≤ 2147483647) = true := by simpa using hn2
  have n3 : (decide (1 ≤ n) && decide (n ≤ 0)) = false := by simp; omega
  go_enter Try.func7, Try.ntmps7
  go_wp2_with fail
  refine (Calls.ext (awake_any _)).mono ?_
  rintro e _ ⟨rfl, y0, rfl⟩
  go_wp2_with fail
  refine (Calls.extq (of_any _ _)).mono ?_
  rintro e _ ⟨rfl, y1, rfl⟩
  go_wp2_with fail
  refine (Calls.extq (full_any _)).mono ?_
  rintro e _ ⟨rfl, y2, rfl⟩
  go_wp2_with fail
  refine (Calls.extq (contains_any _ _ _ _)).mono ?_
  rintro e _ ⟨rfl, y3, rfl⟩
  go_wp2_with fail
  refine (Calls.extq (empty_any _)).mono ?_
  rintro e _ ⟨rfl, y4, rfl⟩
  go_wp2_with fail
  refine (Calls.extq (contains_any _ _ _ _)).mono ?_
  rintro e _ ⟨rfl, y5, rfl⟩
  rw [n3]
  go_wp2_with fail
  refine (Calls.extq (empty_any _)).mono ?_
  rintro e _ ⟨rfl, y6, rfl⟩
  go_wp2_with fail
  refine wp_region_extq (by kernel_rfl) (by kernel_rfl) ?_
  repeat (go_big_quiet_step (first | (go_at_call 17; exact Calls.extq (contains_any _ _ _ _)) | (go_at_call 23; exact Calls.extq (has_any _ _ _ _)) | (go_at_call 19; exact Calls.extq (isEmpty_any _ _ _))))
  refine wpQuiet_nil ?_
  rintro _ ⟨x1, rfl⟩
  go_wp2_with (first | (go_at_call 23; ((first | (with_reducible refine (Calls.extq (has_any _ _ _ _)).mono ?_) | (refine (Calls.ext (has_any _ _ _ _)).mono ?_)); rintro e _ ⟨rfl, y, rfl⟩)))
  refine wp_region_extq (by kernel_rfl) (by kernel_rfl) ?_
  repeat (go_big_quiet_step (first | (go_at_call 24; exact Calls.extq (within_any _ _ _ _ _)) | (go_at_call 22; exact Calls.extq (empty_any _)) | (go_at_call 18; exact Calls.extq (full_any _))))
  refine wpQuiet_nil ?_
  rintro _ ⟨x2, rfl⟩
  go_wp2
  all_goals
    go_ret
    refine ⟨by simp, ?_⟩
    (repeat (first | exact Below.refl _ _ | refine Below.setCell ?_ ?_ _ | refine Ext.below ?_ ?_ _ | refine Below.alloc ?_ ?_ _)) <;> (first | (simp; done) | (simp; omega) | omega)

set_option maxRecDepth 100000 in
set_option maxHeartbeats 2000000 in
theorem sets_c (xl xh yl yh n : Int) (hx1 : -2147483648 ≤ xl) (hx2 : xh ≤ 2147483647) (hn1 : -2147483648 ≤ n) (hn2 : n ≤ 2147483647) (hx : ¬ xh < xl) (h1 : yl ≤ xl) (h2 : ¬ xl ≤ yh) (w : World) :
    Calls Try.prog 7 #[.agg #[.int .i32 xl, .int .i32 xh], .agg #[.int .i32 yl, .int .i32 yh], .int .i32 n] w fun e w' => e = .returned (.bool true) ∧ Below w.heap.size w w' := by
  have d0 : decide (xh < xl) = false := by simpa using hx
  have d1 : decide (yl ≤ xl) = true := by simpa using h1
  have d2 : decide (xl ≤ yh) = false := by simpa using h2
  have w0 : withinI (xl, xh) (yl, yh) = false := by simp [withinI, emp]; omega
  have he := ne_iv
  have w1 : withinI (xl, xh) (xl, xh) = true := by simp [withinI]
  have w2 : withinI (1, 0) (xl, xh) = true := by simp [withinI, emp]
  have w3 : withinI (xl, xh) (-2147483648, 2147483647) = true := by simp [withinI]; omega
  have n1 : decide (-2147483648 ≤ n) = true := by simpa using hn1
  have n2 : decide (n ≤ 2147483647) = true := by simpa using hn2
  have n3 : (decide (1 ≤ n) && decide (n ≤ 0)) = false := by simp; omega
  go_enter Try.func7, Try.ntmps7
  go_wp2_with fail
  refine (Calls.ext (awake_any _)).mono ?_
  rintro e _ ⟨rfl, y0, rfl⟩
  go_wp2_with fail
  refine (Calls.extq (of_any _ _)).mono ?_
  rintro e _ ⟨rfl, y1, rfl⟩
  go_wp2_with fail
  refine (Calls.extq (full_any _)).mono ?_
  rintro e _ ⟨rfl, y2, rfl⟩
  go_wp2_with fail
  refine (Calls.extq (contains_any _ _ _ _)).mono ?_
  rintro e _ ⟨rfl, y3, rfl⟩
  go_wp2_with fail
  refine (Calls.extq (empty_any _)).mono ?_
  rintro e _ ⟨rfl, y4, rfl⟩
  go_wp2_with fail
  refine (Calls.extq (contains_any _ _ _ _)).mono ?_
  rintro e _ ⟨rfl, y5, rfl⟩
  rw [n3]
  go_wp2_with fail
  refine (Calls.extq (empty_any _)).mono ?_
  rintro e _ ⟨rfl, y6, rfl⟩
  go_wp2_with fail
  refine wp_region_extq (by kernel_rfl) (by kernel_rfl) ?_
  repeat (go_big_quiet_step (first | (go_at_call 17; exact Calls.extq (contains_any _ _ _ _)) | (go_at_call 23; exact Calls.extq (has_any _ _ _ _)) | (go_at_call 19; exact Calls.extq (isEmpty_any _ _ _))))
  refine wpQuiet_nil ?_
  rintro _ ⟨x1, rfl⟩
  go_wp2_with (first | (go_at_call 23; ((first | (with_reducible refine (Calls.extq (has_any _ _ _ _)).mono ?_) | (refine (Calls.ext (has_any _ _ _ _)).mono ?_)); rintro e _ ⟨rfl, y, rfl⟩)))
  refine wp_region_extq (by kernel_rfl) (by kernel_rfl) ?_
  repeat (go_big_quiet_step (first | (go_at_call 24; exact Calls.extq (within_any _ _ _ _ _)) | (go_at_call 22; exact Calls.extq (empty_any _)) | (go_at_call 18; exact Calls.extq (full_any _))))
  refine wpQuiet_nil ?_
  rintro _ ⟨x2, rfl⟩
  go_wp2
  all_goals
    go_ret
    refine ⟨by simp, ?_⟩
    (repeat (first | exact Below.refl _ _ | refine Below.setCell ?_ ?_ _ | refine Ext.below ?_ ?_ _ | refine Below.alloc ?_ ?_ _)) <;> (first | (simp; done) | (simp; omega) | omega)

set_option maxRecDepth 100000 in
set_option maxHeartbeats 2000000 in
theorem sets_d (xl xh yl yh n : Int) (hx1 : -2147483648 ≤ xl) (hx2 : xh ≤ 2147483647) (hn1 : -2147483648 ≤ n) (hn2 : n ≤ 2147483647) (hx : ¬ xh < xl) (h1 : yl ≤ xl) (h2 : xl ≤ yh) (h3 : xh ≤ yh) (w : World) :
    Calls Try.prog 7 #[.agg #[.int .i32 xl, .int .i32 xh], .agg #[.int .i32 yl, .int .i32 yh], .int .i32 n] w fun e w' => e = .returned (.bool true) ∧ Below w.heap.size w w' := by
  have d0 : decide (xh < xl) = false := by simpa using hx
  have d1 : decide (yl ≤ xl) = true := by simpa using h1
  have d2 : decide (xl ≤ yh) = true := by simpa using h2
  have d3 : decide (yl ≤ xh) = true := by simp; omega
  have d4 : decide (xh ≤ yh) = true := by simpa using h3
  have w0 : withinI (xl, xh) (yl, yh) = true := by simp [withinI, emp]; omega
  have he := ne_iv
  have w1 : withinI (xl, xh) (xl, xh) = true := by simp [withinI]
  have w2 : withinI (1, 0) (xl, xh) = true := by simp [withinI, emp]
  have w3 : withinI (xl, xh) (-2147483648, 2147483647) = true := by simp [withinI]; omega
  have n1 : decide (-2147483648 ≤ n) = true := by simpa using hn1
  have n2 : decide (n ≤ 2147483647) = true := by simpa using hn2
  have n3 : (decide (1 ≤ n) && decide (n ≤ 0)) = false := by simp; omega
  go_enter Try.func7, Try.ntmps7
  go_wp2_with fail
  refine (Calls.ext (awake_any _)).mono ?_
  rintro e _ ⟨rfl, y0, rfl⟩
  go_wp2_with fail
  refine (Calls.extq (of_any _ _)).mono ?_
  rintro e _ ⟨rfl, y1, rfl⟩
  go_wp2_with fail
  refine (Calls.extq (full_any _)).mono ?_
  rintro e _ ⟨rfl, y2, rfl⟩
  go_wp2_with fail
  refine (Calls.extq (contains_any _ _ _ _)).mono ?_
  rintro e _ ⟨rfl, y3, rfl⟩
  go_wp2_with fail
  refine (Calls.extq (empty_any _)).mono ?_
  rintro e _ ⟨rfl, y4, rfl⟩
  go_wp2_with fail
  refine (Calls.extq (contains_any _ _ _ _)).mono ?_
  rintro e _ ⟨rfl, y5, rfl⟩
  rw [n3]
  go_wp2_with fail
  refine (Calls.extq (empty_any _)).mono ?_
  rintro e _ ⟨rfl, y6, rfl⟩
  go_wp2_with fail
  refine wp_region_extq (by kernel_rfl) (by kernel_rfl) ?_
  repeat (go_big_quiet_step (first | (go_at_call 17; exact Calls.extq (contains_any _ _ _ _)) | (go_at_call 23; exact Calls.extq (has_any _ _ _ _)) | (go_at_call 19; exact Calls.extq (isEmpty_any _ _ _))))
  refine wpQuiet_nil ?_
  rintro _ ⟨x1, rfl⟩
  go_wp2_with (first | (go_at_call 23; ((first | (with_reducible refine (Calls.extq (has_any _ _ _ _)).mono ?_) | (refine (Calls.ext (has_any _ _ _ _)).mono ?_)); rintro e _ ⟨rfl, y, rfl⟩)))
  refine wp_region_extq (by kernel_rfl) (by kernel_rfl) ?_
  repeat (go_big_quiet_step (first | (go_at_call 24; exact Calls.extq (within_any _ _ _ _ _)) | (go_at_call 22; exact Calls.extq (empty_any _)) | (go_at_call 18; exact Calls.extq (full_any _))))
  refine wpQuiet_nil ?_
  rintro _ ⟨x2, rfl⟩
  go_wp2
  all_goals
    go_ret
    refine ⟨by simp, ?_⟩
    (repeat (first | exact Below.refl _ _ | refine Below.setCell ?_ ?_ _ | refine Ext.below ?_ ?_ _ | refine Below.alloc ?_ ?_ _)) <;> (first | (simp; done) | (simp; omega) | omega)

set_option maxRecDepth 100000 in
set_option maxHeartbeats 2000000 in
theorem sets_e (xl xh yl yh n : Int) (hx1 : -2147483648 ≤ xl) (hx2 : xh ≤ 2147483647) (hn1 : -2147483648 ≤ n) (hn2 : n ≤ 2147483647) (hx : ¬ xh < xl) (h1 : yl ≤ xl) (h2 : xl ≤ yh) (h3 : ¬ xh ≤ yh) (w : World) :
    Calls Try.prog 7 #[.agg #[.int .i32 xl, .int .i32 xh], .agg #[.int .i32 yl, .int .i32 yh], .int .i32 n] w fun e w' => e = .returned (.bool true) ∧ Below w.heap.size w w' := by
  have d0 : decide (xh < xl) = false := by simpa using hx
  have d1 : decide (yl ≤ xl) = true := by simpa using h1
  have d2 : decide (xl ≤ yh) = true := by simpa using h2
  have d3 : decide (yl ≤ xh) = true := by simp; omega
  have d4 : decide (xh ≤ yh) = false := by simpa using h3
  have w0 : withinI (xl, xh) (yl, yh) = false := by simp [withinI, emp]; omega
  have he := ne_iv
  have w1 : withinI (xl, xh) (xl, xh) = true := by simp [withinI]
  have w2 : withinI (1, 0) (xl, xh) = true := by simp [withinI, emp]
  have w3 : withinI (xl, xh) (-2147483648, 2147483647) = true := by simp [withinI]; omega
  have n1 : decide (-2147483648 ≤ n) = true := by simpa using hn1
  have n2 : decide (n ≤ 2147483647) = true := by simpa using hn2
  have n3 : (decide (1 ≤ n) && decide (n ≤ 0)) = false := by simp; omega
  go_enter Try.func7, Try.ntmps7
  go_wp2_with fail
  refine (Calls.ext (awake_any _)).mono ?_
  rintro e _ ⟨rfl, y0, rfl⟩
  go_wp2_with fail
  refine (Calls.extq (of_any _ _)).mono ?_
  rintro e _ ⟨rfl, y1, rfl⟩
  go_wp2_with fail
  refine (Calls.extq (full_any _)).mono ?_
  rintro e _ ⟨rfl, y2, rfl⟩
  go_wp2_with fail
  refine (Calls.extq (contains_any _ _ _ _)).mono ?_
  rintro e _ ⟨rfl, y3, rfl⟩
  go_wp2_with fail
  refine (Calls.extq (empty_any _)).mono ?_
  rintro e _ ⟨rfl, y4, rfl⟩
  go_wp2_with fail
  refine (Calls.extq (contains_any _ _ _ _)).mono ?_
  rintro e _ ⟨rfl, y5, rfl⟩
  rw [n3]
  go_wp2_with fail
  refine (Calls.extq (empty_any _)).mono ?_
  rintro e _ ⟨rfl, y6, rfl⟩
  go_wp2_with fail
  refine wp_region_extq (by kernel_rfl) (by kernel_rfl) ?_
  repeat (go_big_quiet_step (first | (go_at_call 17; exact Calls.extq (contains_any _ _ _ _)) | (go_at_call 23; exact Calls.extq (has_any _ _ _ _)) | (go_at_call 19; exact Calls.extq (isEmpty_any _ _ _))))
  refine wpQuiet_nil ?_
  rintro _ ⟨x1, rfl⟩
  go_wp2_with (first | (go_at_call 23; ((first | (with_reducible refine (Calls.extq (has_any _ _ _ _)).mono ?_) | (refine (Calls.ext (has_any _ _ _ _)).mono ?_)); rintro e _ ⟨rfl, y, rfl⟩)))
  refine wp_region_extq (by kernel_rfl) (by kernel_rfl) ?_
  repeat (go_big_quiet_step (first | (go_at_call 24; exact Calls.extq (within_any _ _ _ _ _)) | (go_at_call 22; exact Calls.extq (empty_any _)) | (go_at_call 18; exact Calls.extq (full_any _))))
  refine wpQuiet_nil ?_
  rintro _ ⟨x2, rfl⟩
  go_wp2
  all_goals
    go_ret
    refine ⟨by simp, ?_⟩
    (repeat (first | exact Below.refl _ _ | refine Below.setCell ?_ ?_ _ | refine Ext.below ?_ ?_ _ | refine Below.alloc ?_ ?_ _)) <;> (first | (simp; done) | (simp; omega) | omega)

theorem sets_any (xl xh yl yh n : Int) (w : World) (hx1 : -2147483648 ≤ xl) (hx2 : xh ≤ 2147483647) (hn1 : -2147483648 ≤ n) (hn2 : n ≤ 2147483647) :
    Calls Try.prog 7 #[.agg #[.int .i32 xl, .int .i32 xh], .agg #[.int .i32 yl, .int .i32 yh], .int .i32 n] w fun e w' => e = .returned (.bool true) ∧ Below w.heap.size w w' := by
  by_cases hx : xh < xl
  · exact sets_a xl xh yl yh n hx1 hx2 hn1 hn2 hx w
  · by_cases h1 : yl ≤ xl
    · by_cases h2 : xl ≤ yh
      · by_cases h3 : xh ≤ yh
        · exact sets_d xl xh yl yh n hx1 hx2 hn1 hn2 hx h1 h2 h3 w
        · exact sets_e xl xh yl yh n hx1 hx2 hn1 hn2 hx h1 h2 h3 w
      · exact sets_c xl xh yl yh n hx1 hx2 hn1 hn2 hx h1 h2 w
    · exact sets_b xl xh yl yh n hx1 hx2 hn1 hn2 hx h1 w

set_option maxRecDepth 100000 in
theorem intervalSets_lifted (os : Os) (started : os.Started) (H : Type) (enc : TypeId × Value → H) :
    ReturnsInHanded {} Try.checked os 7 .any (Rows.intervalSetsSpec.pre6 enc Try.prog Try.f7 Rows.intervalSetsRow.domain false) (Rows.intervalSetsSpec.post enc Try.prog Try.f7 false true false false) := by
  refine returnsInHanded_of_change (C := Try.checked) own started (by kernel_rfl) Try.func7
    (ChangeSpec.witness6 (enc := enc) (C := Try.checked) false ⟨#[], #[.agg #[.int .i32 0, .int .i32 0], .agg #[.int .i32 0, .int .i32 0], .int .i32 0], []⟩ 8 (by kernel_rfl) (by kernel_rfl) (by kernel_rfl) (by kernel_rfl)) ?_
  intro W base args ds gs before hval0 hW hcnd _
  have hval : ∀ (j : Nat) t v, Try.f7.params[j]? = some t → args[j]? = some v → Value.okWide Try.prog W .any base t v := hval0
  have hW' := hW
  obtain ⟨p, q, hA0, hV, rfl, hfz, hnd⟩ := hW
  have hA : DataW.TrodAll enc Try.prog W 0 (fun _ => true) true Try.f7.params.toList args.toList ds p := hA0
  rw [Try.params7] at hA hval
  obtain ⟨v0, vs0, d0, ds0, p0, q0, hargs, rfl, rfl, h0, r0⟩ := trodAll_cons hA
  obtain ⟨v1, vs1, d1, ds1, p1, q1, rfl, rfl, rfl, h1, r1⟩ := trodAll_cons r0
  obtain ⟨v2, vs2, d2, ds2, p2, q2, rfl, rfl, rfl, h2, r2⟩ := trodAll_cons r1
  obtain ⟨rfl, rfl, rfl⟩ := trodAll_nil r2
  obtain rfl : args = #[v0, v1, v2] := by cases args; simp_all
  obtain ⟨rfl, rfl⟩ := trodVars_none hV
  have k0 := h0
  have lt0 : ∀ x ∈ p0, x.block < W.heap.size := by obtain ⟨m, hm⟩ := k0; exact DataW.trod_lt m _ _ _ hm
  have ok0 := hval 0 23 v0 rfl rfl
  have k1 := h1
  have lt1 : ∀ x ∈ p1, x.block < W.heap.size := by obtain ⟨m, hm⟩ := k1; exact DataW.trod_lt m _ _ _ hm
  have ok1 := hval 1 23 v1 rfl rfl
  have k2 := h2
  have lt2 : ∀ x ∈ p2, x.block < W.heap.size := by obtain ⟨m, hm⟩ := k2; exact DataW.trod_lt m _ _ _ hm
  have ok2 := hval 2 21 v2 rfl rfl
  obtain ⟨l0, u0, rfl, wl0, wu0⟩ := open_iv ok0 h0
  obtain ⟨l1, u1, rfl, wl1, wu1⟩ := open_iv ok1 h1
  obtain ⟨a2, rfl, e2, f2, w2⟩ := open_int Try.underlying21 ok2 h2
  clear hA0 hval0
  refine (sets_any l0 u0 l1 u1 a2 W (bounds_i32 wl0).1 (bounds_i32 wu0).2 (bounds_i32 w2).1 (bounds_i32 w2).2).mono fun e W' ⟨he, bel⟩ => ?_
  subst he
  exact ⟨_, rfl, _, _, _, [], _, [], hW', trodAll_mk1 (shut_bool Try.underlying4 _), (trodAll_cons_mk (Below.trod laidOut (by kernel_rfl) (of_decide_eq_true (by kernel_rfl)) k0 bel lt0) (trodAll_cons_mk (Below.trod laidOut (by kernel_rfl) (of_decide_eq_true (by kernel_rfl)) k1 bel lt1) (trodAll_cons_mk (Below.trod laidOut (by kernel_rfl) (of_decide_eq_true (by kernel_rfl)) k2 bel lt2) trodAll_mk0))), rfl, bel.frame _, fun h => by cases h⟩

/-- The statement. -/
theorem intervalSets_holds : Rows.IntervalSetsSaid :=
  OpenClaim.holds_of_wide 7 Try.f7 rfl rfl rfl rfl rfl rfl rfl ⟨rfl, rfl, rfl, rfl, rfl⟩ rfl rfl rfl rfl rfl (by kernel_rfl) Try.func7 (by kernel_rfl)
    (of_decide_eq_true (by kernel_rfl)) (by unfold Func.isWrapper; first | (rw [if_pos (by decide +kernel)]; kernel_rfl) | (rw [if_neg (by decide +kernel)]; exact ⟨rfl, rfl⟩))
    (fun os started H enc _ => intervalSets_lifted os started H enc)

end Go.Proofs.Ytjkjcnamlankoaa
