/-
  What is proved here: what ontimeref27.Apply returns: just what interval.Apply returns.
-/
import Derived.Test.YtjkjcnamlankoaaIvRef9
namespace Go.Proofs.Ytjkjcnamlankoaa
open Go.RowKit
set_option linter.unusedVariables false
set_option linter.unusedSimpArgs false

set_option maxRecDepth 100000 in
set_option maxHeartbeats 2000000 in
theorem rap_18_n (xl xh yl yh : Int) (w : World) (hx1 : -2147483648 ≤ xl) (hx2 : xl ≤ 2147483647) (hx3 : -2147483648 ≤ xh) (hx4 : xh ≤ 2147483647) (hy1 : -2147483648 ≤ yl) (hy2 : yl ≤ 2147483647) (hy3 : -2147483648 ≤ yh) (hy4 : yh ≤ 2147483647) (hxe : xl ≤ xh) (hye : yl ≤ yh) (hs : (xl == xh) = false) :
    Calls Try.prog 12 #[.int .u8 18, .agg #[.int .i32 xl, .int .i32 xh], .agg #[.int .i32 yl, .int .i32 yh]] w fun e w' => e = .returned (.agg #[.int .i32 (trI (decide (xh < yl)) (decide (yh ≤ xl))).1, .int .i32 (trI (decide (xh < yl)) (decide (yh ≤ xl))).2]) ∧ Below w.heap.size w w' := by
  have d3 : decide (xh < xl) = false := by simp; omega
  have d4 : decide (yh < yl) = false := by simp; omega
  go_enter Try.func12, Try.ntmps12
  go_upto_region 10 with (first | (go_at_call 37; ((first | (with_reducible refine (Calls.extq (rempty_any _ _ _)).mono ?_) | (refine (Calls.ext (rempty_any _ _ _)).mono ?_)); rintro e _ ⟨rfl, y, rfl⟩)) | (go_at_call 39; ((first | (with_reducible refine (Calls.extq (rsingle_any _ _ _)).mono ?_) | (refine (Calls.ext (rsingle_any _ _ _)).mono ?_)); rintro e _ ⟨rfl, y, rfl⟩)))
  obtain ⟨V, hV, D⟩ := rdiv_base xl xh yl yh w y
  rw [hV]
  clear hV
  obtain ⟨kB, s1, s2, s3, c1, c2, c3, c4, c5, c6, f5, f6⟩ := D
  go_cut [9] (fun s wx => s = .bool (apartB xl xh yl yh) ∧ wx = V)
  case first =>
    by_cases ha : xh < yl
    · have HA := Lib.hid (show apartB xl xh yl yh = true by simp [apartB, ha])
      have da := decide_eq_true ha
      go_wp2_with fail
      go_meet
      exact ⟨by rw [HA.out], rfl⟩
    · have HA := Lib.hid (show apartB xl xh yl yh = decide (yh < xl) by simp [apartB, ha])
      have da := decide_eq_false ha
      go_wp2_with fail
      go_meet
      exact ⟨by rw [HA.out], rfl⟩
  case rest =>
    obtain ⟨rfl, hwc⟩ := hcut
    rw [hwc]
    clear hwc
    go_wp2_with fail
    refine (Calls.ext (rtr_any _ _ _)).mono ?_
    rintro e _ ⟨rfl, y4, rfl⟩
    obtain ⟨y5, hm⟩ := ext_alloc y4
    rw [hm]
    clear hm y4
    go_wp2
    all_goals
      refine bodyPost_ret (v := .agg #[.int .i32 (trI (decide (xh < yl)) (decide (yh ≤ xl))).1, .int .i32 (trI (decide (xh < yl)) (decide (yh ≤ xl))).2]) ?hr rfl ⟨rfl, ?bel⟩
      case hr =>
        simp [results, Try.results12, go_sem, c5, c6, s3]
      case bel =>
        exact Below.setCell (Below.setCell (Ext.below kB (by omega) y5) (by simp; omega) _) (by simp; omega) _


set_option maxRecDepth 100000 in
set_option maxHeartbeats 2000000 in
theorem rap_18_s (xl xh yl yh : Int) (w : World) (hx1 : -2147483648 ≤ xl) (hx2 : xl ≤ 2147483647) (hx3 : -2147483648 ≤ xh) (hx4 : xh ≤ 2147483647) (hy1 : -2147483648 ≤ yl) (hy2 : yl ≤ 2147483647) (hy3 : -2147483648 ≤ yh) (hy4 : yh ≤ 2147483647) (hxe : xl ≤ xh) (hye : yl ≤ yh) (hs : (xl == xh) = true) (hs' : (yl == yh) = false) :
    Calls Try.prog 12 #[.int .u8 18, .agg #[.int .i32 xl, .int .i32 xh], .agg #[.int .i32 yl, .int .i32 yh]] w fun e w' => e = .returned (.agg #[.int .i32 (trI (decide (xh < yl)) (decide (yh ≤ xl))).1, .int .i32 (trI (decide (xh < yl)) (decide (yh ≤ xl))).2]) ∧ Below w.heap.size w w' := by
  have d3 : decide (xh < xl) = false := by simp; omega
  have d4 : decide (yh < yl) = false := by simp; omega
  go_enter Try.func12, Try.ntmps12
  go_upto_region 10 with (first | (go_at_call 37; ((first | (with_reducible refine (Calls.extq (rempty_any _ _ _)).mono ?_) | (refine (Calls.ext (rempty_any _ _ _)).mono ?_)); rintro e _ ⟨rfl, y, rfl⟩)) | (go_at_call 39; ((first | (with_reducible refine (Calls.extq (rsingle_any _ _ _)).mono ?_) | (refine (Calls.ext (rsingle_any _ _ _)).mono ?_)); rintro e _ ⟨rfl, y, rfl⟩)))
  obtain ⟨V, hV, D⟩ := rdiv_base xl xh yl yh w y
  rw [hV]
  clear hV
  obtain ⟨kB, s1, s2, s3, c1, c2, c3, c4, c5, c6, f5, f6⟩ := D
  go_cut [9] (fun s wx => s = .bool (apartB xl xh yl yh) ∧ wx = V)
  case first =>
    by_cases ha : xh < yl
    · have HA := Lib.hid (show apartB xl xh yl yh = true by simp [apartB, ha])
      have da := decide_eq_true ha
      go_wp2_with fail
      go_meet
      exact ⟨by rw [HA.out], rfl⟩
    · have HA := Lib.hid (show apartB xl xh yl yh = decide (yh < xl) by simp [apartB, ha])
      have da := decide_eq_false ha
      go_wp2_with fail
      go_meet
      exact ⟨by rw [HA.out], rfl⟩
  case rest =>
    obtain ⟨rfl, hwc⟩ := hcut
    rw [hwc]
    clear hwc
    go_wp2_with fail
    refine (Calls.ext (rtr_any _ _ _)).mono ?_
    rintro e _ ⟨rfl, y4, rfl⟩
    obtain ⟨y5, hm⟩ := ext_alloc y4
    rw [hm]
    clear hm y4
    go_wp2
    all_goals
      refine bodyPost_ret (v := .agg #[.int .i32 (trI (decide (xh < yl)) (decide (yh ≤ xl))).1, .int .i32 (trI (decide (xh < yl)) (decide (yh ≤ xl))).2]) ?hr rfl ⟨rfl, ?bel⟩
      case hr =>
        simp [results, Try.results12, go_sem, c5, c6, s3]
      case bel =>
        exact Below.setCell (Below.setCell (Ext.below kB (by omega) y5) (by simp; omega) _) (by simp; omega) _


set_option maxRecDepth 100000 in
set_option maxHeartbeats 2000000 in
theorem rap_19_n (xl xh yl yh : Int) (w : World) (hx1 : -2147483648 ≤ xl) (hx2 : xl ≤ 2147483647) (hx3 : -2147483648 ≤ xh) (hx4 : xh ≤ 2147483647) (hy1 : -2147483648 ≤ yl) (hy2 : yl ≤ 2147483647) (hy3 : -2147483648 ≤ yh) (hy4 : yh ≤ 2147483647) (hxe : xl ≤ xh) (hye : yl ≤ yh) (hs : (xl == xh) = false) :
    Calls Try.prog 12 #[.int .u8 19, .agg #[.int .i32 xl, .int .i32 xh], .agg #[.int .i32 yl, .int .i32 yh]] w fun e w' => e = .returned (.agg #[.int .i32 (trI (decide (xh ≤ yl)) (decide (yh < xl))).1, .int .i32 (trI (decide (xh ≤ yl)) (decide (yh < xl))).2]) ∧ Below w.heap.size w w' := by
  have d3 : decide (xh < xl) = false := by simp; omega
  have d4 : decide (yh < yl) = false := by simp; omega
  go_enter Try.func12, Try.ntmps12
  go_upto_region 10 with (first | (go_at_call 37; ((first | (with_reducible refine (Calls.extq (rempty_any _ _ _)).mono ?_) | (refine (Calls.ext (rempty_any _ _ _)).mono ?_)); rintro e _ ⟨rfl, y, rfl⟩)) | (go_at_call 39; ((first | (with_reducible refine (Calls.extq (rsingle_any _ _ _)).mono ?_) | (refine (Calls.ext (rsingle_any _ _ _)).mono ?_)); rintro e _ ⟨rfl, y, rfl⟩)))
  obtain ⟨V, hV, D⟩ := rdiv_base xl xh yl yh w y
  rw [hV]
  clear hV
  obtain ⟨kB, s1, s2, s3, c1, c2, c3, c4, c5, c6, f5, f6⟩ := D
  go_cut [9] (fun s wx => s = .bool (apartB xl xh yl yh) ∧ wx = V)
  case first =>
    by_cases ha : xh < yl
    · have HA := Lib.hid (show apartB xl xh yl yh = true by simp [apartB, ha])
      have da := decide_eq_true ha
      go_wp2_with fail
      go_meet
      exact ⟨by rw [HA.out], rfl⟩
    · have HA := Lib.hid (show apartB xl xh yl yh = decide (yh < xl) by simp [apartB, ha])
      have da := decide_eq_false ha
      go_wp2_with fail
      go_meet
      exact ⟨by rw [HA.out], rfl⟩
  case rest =>
    obtain ⟨rfl, hwc⟩ := hcut
    rw [hwc]
    clear hwc
    go_wp2_with fail
    refine (Calls.ext (rtr_any _ _ _)).mono ?_
    rintro e _ ⟨rfl, y4, rfl⟩
    obtain ⟨y5, hm⟩ := ext_alloc y4
    rw [hm]
    clear hm y4
    go_wp2
    all_goals
      refine bodyPost_ret (v := .agg #[.int .i32 (trI (decide (xh ≤ yl)) (decide (yh < xl))).1, .int .i32 (trI (decide (xh ≤ yl)) (decide (yh < xl))).2]) ?hr rfl ⟨rfl, ?bel⟩
      case hr =>
        simp [results, Try.results12, go_sem, c5, c6, s3]
      case bel =>
        exact Below.setCell (Below.setCell (Ext.below kB (by omega) y5) (by simp; omega) _) (by simp; omega) _


set_option maxRecDepth 100000 in
set_option maxHeartbeats 2000000 in
theorem rap_19_s (xl xh yl yh : Int) (w : World) (hx1 : -2147483648 ≤ xl) (hx2 : xl ≤ 2147483647) (hx3 : -2147483648 ≤ xh) (hx4 : xh ≤ 2147483647) (hy1 : -2147483648 ≤ yl) (hy2 : yl ≤ 2147483647) (hy3 : -2147483648 ≤ yh) (hy4 : yh ≤ 2147483647) (hxe : xl ≤ xh) (hye : yl ≤ yh) (hs : (xl == xh) = true) (hs' : (yl == yh) = false) :
    Calls Try.prog 12 #[.int .u8 19, .agg #[.int .i32 xl, .int .i32 xh], .agg #[.int .i32 yl, .int .i32 yh]] w fun e w' => e = .returned (.agg #[.int .i32 (trI (decide (xh ≤ yl)) (decide (yh < xl))).1, .int .i32 (trI (decide (xh ≤ yl)) (decide (yh < xl))).2]) ∧ Below w.heap.size w w' := by
  have d3 : decide (xh < xl) = false := by simp; omega
  have d4 : decide (yh < yl) = false := by simp; omega
  go_enter Try.func12, Try.ntmps12
  go_upto_region 10 with (first | (go_at_call 37; ((first | (with_reducible refine (Calls.extq (rempty_any _ _ _)).mono ?_) | (refine (Calls.ext (rempty_any _ _ _)).mono ?_)); rintro e _ ⟨rfl, y, rfl⟩)) | (go_at_call 39; ((first | (with_reducible refine (Calls.extq (rsingle_any _ _ _)).mono ?_) | (refine (Calls.ext (rsingle_any _ _ _)).mono ?_)); rintro e _ ⟨rfl, y, rfl⟩)))
  obtain ⟨V, hV, D⟩ := rdiv_base xl xh yl yh w y
  rw [hV]
  clear hV
  obtain ⟨kB, s1, s2, s3, c1, c2, c3, c4, c5, c6, f5, f6⟩ := D
  go_cut [9] (fun s wx => s = .bool (apartB xl xh yl yh) ∧ wx = V)
  case first =>
    by_cases ha : xh < yl
    · have HA := Lib.hid (show apartB xl xh yl yh = true by simp [apartB, ha])
      have da := decide_eq_true ha
      go_wp2_with fail
      go_meet
      exact ⟨by rw [HA.out], rfl⟩
    · have HA := Lib.hid (show apartB xl xh yl yh = decide (yh < xl) by simp [apartB, ha])
      have da := decide_eq_false ha
      go_wp2_with fail
      go_meet
      exact ⟨by rw [HA.out], rfl⟩
  case rest =>
    obtain ⟨rfl, hwc⟩ := hcut
    rw [hwc]
    clear hwc
    go_wp2_with fail
    refine (Calls.ext (rtr_any _ _ _)).mono ?_
    rintro e _ ⟨rfl, y4, rfl⟩
    obtain ⟨y5, hm⟩ := ext_alloc y4
    rw [hm]
    clear hm y4
    go_wp2
    all_goals
      refine bodyPost_ret (v := .agg #[.int .i32 (trI (decide (xh ≤ yl)) (decide (yh < xl))).1, .int .i32 (trI (decide (xh ≤ yl)) (decide (yh < xl))).2]) ?hr rfl ⟨rfl, ?bel⟩
      case hr =>
        simp [results, Try.results12, go_sem, c5, c6, s3]
      case bel =>
        exact Below.setCell (Below.setCell (Ext.below kB (by omega) y5) (by simp; omega) _) (by simp; omega) _


set_option maxRecDepth 100000 in
set_option maxHeartbeats 2000000 in
theorem rap_20_n (xl xh yl yh : Int) (w : World) (hx1 : -2147483648 ≤ xl) (hx2 : xl ≤ 2147483647) (hx3 : -2147483648 ≤ xh) (hx4 : xh ≤ 2147483647) (hy1 : -2147483648 ≤ yl) (hy2 : yl ≤ 2147483647) (hy3 : -2147483648 ≤ yh) (hy4 : yh ≤ 2147483647) (hxe : xl ≤ xh) (hye : yl ≤ yh) (hs : (xl == xh) = false) :
    Calls Try.prog 12 #[.int .u8 20, .agg #[.int .i32 xl, .int .i32 xh], .agg #[.int .i32 yl, .int .i32 yh]] w fun e w' => e = .returned (.agg #[.int .i32 (trI (decide (yh < xl)) (decide (xh ≤ yl))).1, .int .i32 (trI (decide (yh < xl)) (decide (xh ≤ yl))).2]) ∧ Below w.heap.size w w' := by
  have d3 : decide (xh < xl) = false := by simp; omega
  have d4 : decide (yh < yl) = false := by simp; omega
  go_enter Try.func12, Try.ntmps12
  go_upto_region 10 with (first | (go_at_call 37; ((first | (with_reducible refine (Calls.extq (rempty_any _ _ _)).mono ?_) | (refine (Calls.ext (rempty_any _ _ _)).mono ?_)); rintro e _ ⟨rfl, y, rfl⟩)) | (go_at_call 39; ((first | (with_reducible refine (Calls.extq (rsingle_any _ _ _)).mono ?_) | (refine (Calls.ext (rsingle_any _ _ _)).mono ?_)); rintro e _ ⟨rfl, y, rfl⟩)))
  obtain ⟨V, hV, D⟩ := rdiv_base xl xh yl yh w y
  rw [hV]
  clear hV
  obtain ⟨kB, s1, s2, s3, c1, c2, c3, c4, c5, c6, f5, f6⟩ := D
  go_cut [9] (fun s wx => s = .bool (apartB xl xh yl yh) ∧ wx = V)
  case first =>
    by_cases ha : xh < yl
    · have HA := Lib.hid (show apartB xl xh yl yh = true by simp [apartB, ha])
      have da := decide_eq_true ha
      go_wp2_with fail
      go_meet
      exact ⟨by rw [HA.out], rfl⟩
    · have HA := Lib.hid (show apartB xl xh yl yh = decide (yh < xl) by simp [apartB, ha])
      have da := decide_eq_false ha
      go_wp2_with fail
      go_meet
      exact ⟨by rw [HA.out], rfl⟩
  case rest =>
    obtain ⟨rfl, hwc⟩ := hcut
    rw [hwc]
    clear hwc
    go_wp2_with fail
    refine (Calls.ext (rtr_any _ _ _)).mono ?_
    rintro e _ ⟨rfl, y4, rfl⟩
    obtain ⟨y5, hm⟩ := ext_alloc y4
    rw [hm]
    clear hm y4
    go_wp2
    all_goals
      refine bodyPost_ret (v := .agg #[.int .i32 (trI (decide (yh < xl)) (decide (xh ≤ yl))).1, .int .i32 (trI (decide (yh < xl)) (decide (xh ≤ yl))).2]) ?hr rfl ⟨rfl, ?bel⟩
      case hr =>
        simp [results, Try.results12, go_sem, c5, c6, s3]
      case bel =>
        exact Below.setCell (Below.setCell (Ext.below kB (by omega) y5) (by simp; omega) _) (by simp; omega) _


set_option maxRecDepth 100000 in
set_option maxHeartbeats 2000000 in
theorem rap_20_s (xl xh yl yh : Int) (w : World) (hx1 : -2147483648 ≤ xl) (hx2 : xl ≤ 2147483647) (hx3 : -2147483648 ≤ xh) (hx4 : xh ≤ 2147483647) (hy1 : -2147483648 ≤ yl) (hy2 : yl ≤ 2147483647) (hy3 : -2147483648 ≤ yh) (hy4 : yh ≤ 2147483647) (hxe : xl ≤ xh) (hye : yl ≤ yh) (hs : (xl == xh) = true) (hs' : (yl == yh) = false) :
    Calls Try.prog 12 #[.int .u8 20, .agg #[.int .i32 xl, .int .i32 xh], .agg #[.int .i32 yl, .int .i32 yh]] w fun e w' => e = .returned (.agg #[.int .i32 (trI (decide (yh < xl)) (decide (xh ≤ yl))).1, .int .i32 (trI (decide (yh < xl)) (decide (xh ≤ yl))).2]) ∧ Below w.heap.size w w' := by
  have d3 : decide (xh < xl) = false := by simp; omega
  have d4 : decide (yh < yl) = false := by simp; omega
  go_enter Try.func12, Try.ntmps12
  go_upto_region 10 with (first | (go_at_call 37; ((first | (with_reducible refine (Calls.extq (rempty_any _ _ _)).mono ?_) | (refine (Calls.ext (rempty_any _ _ _)).mono ?_)); rintro e _ ⟨rfl, y, rfl⟩)) | (go_at_call 39; ((first | (with_reducible refine (Calls.extq (rsingle_any _ _ _)).mono ?_) | (refine (Calls.ext (rsingle_any _ _ _)).mono ?_)); rintro e _ ⟨rfl, y, rfl⟩)))
  obtain ⟨V, hV, D⟩ := rdiv_base xl xh yl yh w y
  rw [hV]
  clear hV
  obtain ⟨kB, s1, s2, s3, c1, c2, c3, c4, c5, c6, f5, f6⟩ := D
  go_cut [9] (fun s wx => s = .bool (apartB xl xh yl yh) ∧ wx = V)
  case first =>
    by_cases ha : xh < yl
    · have HA := Lib.hid (show apartB xl xh yl yh = true by simp [apartB, ha])
      have da := decide_eq_true ha
      go_wp2_with fail
      go_meet
      exact ⟨by rw [HA.out], rfl⟩
    · have HA := Lib.hid (show apartB xl xh yl yh = decide (yh < xl) by simp [apartB, ha])
      have da := decide_eq_false ha
      go_wp2_with fail
      go_meet
      exact ⟨by rw [HA.out], rfl⟩
  case rest =>
    obtain ⟨rfl, hwc⟩ := hcut
    rw [hwc]
    clear hwc
    go_wp2_with fail
    refine (Calls.ext (rtr_any _ _ _)).mono ?_
    rintro e _ ⟨rfl, y4, rfl⟩
    obtain ⟨y5, hm⟩ := ext_alloc y4
    rw [hm]
    clear hm y4
    go_wp2
    all_goals
      refine bodyPost_ret (v := .agg #[.int .i32 (trI (decide (yh < xl)) (decide (xh ≤ yl))).1, .int .i32 (trI (decide (yh < xl)) (decide (xh ≤ yl))).2]) ?hr rfl ⟨rfl, ?bel⟩
      case hr =>
        simp [results, Try.results12, go_sem, c5, c6, s3]
      case bel =>
        exact Below.setCell (Below.setCell (Ext.below kB (by omega) y5) (by simp; omega) _) (by simp; omega) _


set_option maxRecDepth 100000 in
set_option maxHeartbeats 2000000 in
theorem rap_21_n (xl xh yl yh : Int) (w : World) (hx1 : -2147483648 ≤ xl) (hx2 : xl ≤ 2147483647) (hx3 : -2147483648 ≤ xh) (hx4 : xh ≤ 2147483647) (hy1 : -2147483648 ≤ yl) (hy2 : yl ≤ 2147483647) (hy3 : -2147483648 ≤ yh) (hy4 : yh ≤ 2147483647) (hxe : xl ≤ xh) (hye : yl ≤ yh) (hs : (xl == xh) = false) :
    Calls Try.prog 12 #[.int .u8 21, .agg #[.int .i32 xl, .int .i32 xh], .agg #[.int .i32 yl, .int .i32 yh]] w fun e w' => e = .returned (.agg #[.int .i32 (trI (decide (yh ≤ xl)) (decide (xh < yl))).1, .int .i32 (trI (decide (yh ≤ xl)) (decide (xh < yl))).2]) ∧ Below w.heap.size w w' := by
  have d3 : decide (xh < xl) = false := by simp; omega
  have d4 : decide (yh < yl) = false := by simp; omega
  go_enter Try.func12, Try.ntmps12
  go_upto_region 10 with (first | (go_at_call 37; ((first | (with_reducible refine (Calls.extq (rempty_any _ _ _)).mono ?_) | (refine (Calls.ext (rempty_any _ _ _)).mono ?_)); rintro e _ ⟨rfl, y, rfl⟩)) | (go_at_call 39; ((first | (with_reducible refine (Calls.extq (rsingle_any _ _ _)).mono ?_) | (refine (Calls.ext (rsingle_any _ _ _)).mono ?_)); rintro e _ ⟨rfl, y, rfl⟩)))
  obtain ⟨V, hV, D⟩ := rdiv_base xl xh yl yh w y
  rw [hV]
  clear hV
  obtain ⟨kB, s1, s2, s3, c1, c2, c3, c4, c5, c6, f5, f6⟩ := D
  go_cut [9] (fun s wx => s = .bool (apartB xl xh yl yh) ∧ wx = V)
  case first =>
    by_cases ha : xh < yl
    · have HA := Lib.hid (show apartB xl xh yl yh = true by simp [apartB, ha])
      have da := decide_eq_true ha
      go_wp2_with fail
      go_meet
      exact ⟨by rw [HA.out], rfl⟩
    · have HA := Lib.hid (show apartB xl xh yl yh = decide (yh < xl) by simp [apartB, ha])
      have da := decide_eq_false ha
      go_wp2_with fail
      go_meet
      exact ⟨by rw [HA.out], rfl⟩
  case rest =>
    obtain ⟨rfl, hwc⟩ := hcut
    rw [hwc]
    clear hwc
    go_wp2_with fail
    refine (Calls.ext (rtr_any _ _ _)).mono ?_
    rintro e _ ⟨rfl, y4, rfl⟩
    obtain ⟨y5, hm⟩ := ext_alloc y4
    rw [hm]
    clear hm y4
    go_wp2
    all_goals
      refine bodyPost_ret (v := .agg #[.int .i32 (trI (decide (yh ≤ xl)) (decide (xh < yl))).1, .int .i32 (trI (decide (yh ≤ xl)) (decide (xh < yl))).2]) ?hr rfl ⟨rfl, ?bel⟩
      case hr =>
        simp [results, Try.results12, go_sem, c5, c6, s3]
      case bel =>
        exact Below.setCell (Below.setCell (Ext.below kB (by omega) y5) (by simp; omega) _) (by simp; omega) _


set_option maxRecDepth 100000 in
set_option maxHeartbeats 2000000 in
theorem rap_21_s (xl xh yl yh : Int) (w : World) (hx1 : -2147483648 ≤ xl) (hx2 : xl ≤ 2147483647) (hx3 : -2147483648 ≤ xh) (hx4 : xh ≤ 2147483647) (hy1 : -2147483648 ≤ yl) (hy2 : yl ≤ 2147483647) (hy3 : -2147483648 ≤ yh) (hy4 : yh ≤ 2147483647) (hxe : xl ≤ xh) (hye : yl ≤ yh) (hs : (xl == xh) = true) (hs' : (yl == yh) = false) :
    Calls Try.prog 12 #[.int .u8 21, .agg #[.int .i32 xl, .int .i32 xh], .agg #[.int .i32 yl, .int .i32 yh]] w fun e w' => e = .returned (.agg #[.int .i32 (trI (decide (yh ≤ xl)) (decide (xh < yl))).1, .int .i32 (trI (decide (yh ≤ xl)) (decide (xh < yl))).2]) ∧ Below w.heap.size w w' := by
  have d3 : decide (xh < xl) = false := by simp; omega
  have d4 : decide (yh < yl) = false := by simp; omega
  go_enter Try.func12, Try.ntmps12
  go_upto_region 10 with (first | (go_at_call 37; ((first | (with_reducible refine (Calls.extq (rempty_any _ _ _)).mono ?_) | (refine (Calls.ext (rempty_any _ _ _)).mono ?_)); rintro e _ ⟨rfl, y, rfl⟩)) | (go_at_call 39; ((first | (with_reducible refine (Calls.extq (rsingle_any _ _ _)).mono ?_) | (refine (Calls.ext (rsingle_any _ _ _)).mono ?_)); rintro e _ ⟨rfl, y, rfl⟩)))
  obtain ⟨V, hV, D⟩ := rdiv_base xl xh yl yh w y
  rw [hV]
  clear hV
  obtain ⟨kB, s1, s2, s3, c1, c2, c3, c4, c5, c6, f5, f6⟩ := D
  go_cut [9] (fun s wx => s = .bool (apartB xl xh yl yh) ∧ wx = V)
  case first =>
    by_cases ha : xh < yl
    · have HA := Lib.hid (show apartB xl xh yl yh = true by simp [apartB, ha])
      have da := decide_eq_true ha
      go_wp2_with fail
      go_meet
      exact ⟨by rw [HA.out], rfl⟩
    · have HA := Lib.hid (show apartB xl xh yl yh = decide (yh < xl) by simp [apartB, ha])
      have da := decide_eq_false ha
      go_wp2_with fail
      go_meet
      exact ⟨by rw [HA.out], rfl⟩
  case rest =>
    obtain ⟨rfl, hwc⟩ := hcut
    rw [hwc]
    clear hwc
    go_wp2_with fail
    refine (Calls.ext (rtr_any _ _ _)).mono ?_
    rintro e _ ⟨rfl, y4, rfl⟩
    obtain ⟨y5, hm⟩ := ext_alloc y4
    rw [hm]
    clear hm y4
    go_wp2
    all_goals
      refine bodyPost_ret (v := .agg #[.int .i32 (trI (decide (yh ≤ xl)) (decide (xh < yl))).1, .int .i32 (trI (decide (yh ≤ xl)) (decide (xh < yl))).2]) ?hr rfl ⟨rfl, ?bel⟩
      case hr =>
        simp [results, Try.results12, go_sem, c5, c6, s3]
      case bel =>
        exact Below.setCell (Below.setCell (Ext.below kB (by omega) y5) (by simp; omega) _) (by simp; omega) _


set_option maxRecDepth 100000 in
set_option maxHeartbeats 2000000 in
theorem rap_22ff_n (xl xh yl yh : Int) (w : World) (hx1 : -2147483648 ≤ xl) (hx2 : xl ≤ 2147483647) (hx3 : -2147483648 ≤ xh) (hx4 : xh ≤ 2147483647) (hy1 : -2147483648 ≤ yl) (hy2 : yl ≤ 2147483647) (hy3 : -2147483648 ≤ yh) (hy4 : yh ≤ 2147483647) (hxe : xl ≤ xh) (hye : yl ≤ yh) (hs : (xl == xh) = false) (b2 z2 : Bool) (BX : Hid ((decide (xl ≤ 0) && decide (0 ≤ xh)) = false)) (BY : Hid ((decide (yl ≤ 0) && decide (0 ≤ yh)) = b2)) (zx : (xl == 0 && xh == 0) = false) (zy : (yl == 0 && yh == 0) = z2) :
    Calls Try.prog 12 #[.int .u8 22, .agg #[.int .i32 xl, .int .i32 xh], .agg #[.int .i32 yl, .int .i32 yh]] w fun e w' => e = .returned (.agg #[.int .i32 (trI (!false && !b2) (false || z2)).1, .int .i32 (trI (!false && !b2) (false || z2)).2]) ∧ Below w.heap.size w w' := by
  have d3 : decide (xh < xl) = false := by simp; omega
  have d4 : decide (yh < yl) = false := by simp; omega
  go_enter Try.func12, Try.ntmps12
  go_upto_region 10 with (first | (go_at_call 37; ((first | (with_reducible refine (Calls.extq (rempty_any _ _ _)).mono ?_) | (refine (Calls.ext (rempty_any _ _ _)).mono ?_)); rintro e _ ⟨rfl, y, rfl⟩)) | (go_at_call 39; ((first | (with_reducible refine (Calls.extq (rsingle_any _ _ _)).mono ?_) | (refine (Calls.ext (rsingle_any _ _ _)).mono ?_)); rintro e _ ⟨rfl, y, rfl⟩)))
  obtain ⟨V, hV, D⟩ := rdiv_base xl xh yl yh w y
  rw [hV]
  clear hV
  obtain ⟨kB, s1, s2, s3, c1, c2, c3, c4, c5, c6, f5, f6⟩ := D
  go_cut [9] (fun s wx => s = .bool (apartB xl xh yl yh) ∧ wx = V)
  case first =>
    by_cases ha : xh < yl
    · have HA := Lib.hid (show apartB xl xh yl yh = true by simp [apartB, ha])
      have da := decide_eq_true ha
      go_wp2_with fail
      go_meet
      exact ⟨by rw [HA.out], rfl⟩
    · have HA := Lib.hid (show apartB xl xh yl yh = decide (yh < xl) by simp [apartB, ha])
      have da := decide_eq_false ha
      go_wp2_with fail
      go_meet
      exact ⟨by rw [HA.out], rfl⟩
  case rest =>
    obtain ⟨rfl, hwc⟩ := hcut
    rw [hwc]
    clear hwc
    have e2 := eq_rv
    go_wp2_with fail
    obtain ⟨W, g, hW, hg, kB', z1, z2', z3, z4, q1, q2, q3, q4, q5, q6, q7, q8, g5, g6⟩ := rzero_base w V xl xh yl yh ⟨kB, s1, s2, s3, c1, c2, c3, c4, c5, c6, f5, f6⟩
    rw [hW, hg]
    clear hW hg
    refine wp_region_ext_tail 17 (by kernel_rfl) (by kernel_rfl) ?_
    simp only [List.take_succ_cons, List.take_zero, List.drop_succ_cons, List.drop_zero]
    repeat (go_big_quiet_step (first | (go_at_call 48; (first | (with_reducible exact Calls.extq (lit_of (rhas_any _ _ _ _) BX.out)) | (with_reducible exact Calls.extq (lit_of (rhas_any _ _ _ _) BY.out)))) | (go_at_call 47; exact Calls.extq (rtr_any _ _ _))))
    refine wpQuiet_nil ?_
    rintro _ ⟨x1, rfl⟩
    go_wp2_with fail
    refine bodyPost_ret (v := .agg #[.int .i32 (trI (!false && !b2) (false || z2)).1, .int .i32 (trI (!false && !b2) (false || z2)).2]) ?hr rfl ⟨rfl, ?bel⟩
    case hr =>
      simp [results, Try.results12, go_sem, q5, q6, z3]
    case bel =>
      exact Below.setCell (Below.setCell (Ext.below kB' (by omega) x1) (by simp; omega) _) (by simp; omega) _


set_option maxRecDepth 100000 in
set_option maxHeartbeats 2000000 in
theorem rap_22ff_s (xl xh yl yh : Int) (w : World) (hx1 : -2147483648 ≤ xl) (hx2 : xl ≤ 2147483647) (hx3 : -2147483648 ≤ xh) (hx4 : xh ≤ 2147483647) (hy1 : -2147483648 ≤ yl) (hy2 : yl ≤ 2147483647) (hy3 : -2147483648 ≤ yh) (hy4 : yh ≤ 2147483647) (hxe : xl ≤ xh) (hye : yl ≤ yh) (hs : (xl == xh) = true) (hs' : (yl == yh) = false) (b2 z2 : Bool) (BX : Hid ((decide (xl ≤ 0) && decide (0 ≤ xh)) = false)) (BY : Hid ((decide (yl ≤ 0) && decide (0 ≤ yh)) = b2)) (zx : (xl == 0 && xh == 0) = false) (zy : (yl == 0 && yh == 0) = z2) :
    Calls Try.prog 12 #[.int .u8 22, .agg #[.int .i32 xl, .int .i32 xh], .agg #[.int .i32 yl, .int .i32 yh]] w fun e w' => e = .returned (.agg #[.int .i32 (trI (!false && !b2) (false || z2)).1, .int .i32 (trI (!false && !b2) (false || z2)).2]) ∧ Below w.heap.size w w' := by
  have d3 : decide (xh < xl) = false := by simp; omega
  have d4 : decide (yh < yl) = false := by simp; omega
  go_enter Try.func12, Try.ntmps12
  go_upto_region 10 with (first | (go_at_call 37; ((first | (with_reducible refine (Calls.extq (rempty_any _ _ _)).mono ?_) | (refine (Calls.ext (rempty_any _ _ _)).mono ?_)); rintro e _ ⟨rfl, y, rfl⟩)) | (go_at_call 39; ((first | (with_reducible refine (Calls.extq (rsingle_any _ _ _)).mono ?_) | (refine (Calls.ext (rsingle_any _ _ _)).mono ?_)); rintro e _ ⟨rfl, y, rfl⟩)))
  obtain ⟨V, hV, D⟩ := rdiv_base xl xh yl yh w y
  rw [hV]
  clear hV
  obtain ⟨kB, s1, s2, s3, c1, c2, c3, c4, c5, c6, f5, f6⟩ := D
  go_cut [9] (fun s wx => s = .bool (apartB xl xh yl yh) ∧ wx = V)
  case first =>
    by_cases ha : xh < yl
    · have HA := Lib.hid (show apartB xl xh yl yh = true by simp [apartB, ha])
      have da := decide_eq_true ha
      go_wp2_with fail
      go_meet
      exact ⟨by rw [HA.out], rfl⟩
    · have HA := Lib.hid (show apartB xl xh yl yh = decide (yh < xl) by simp [apartB, ha])
      have da := decide_eq_false ha
      go_wp2_with fail
      go_meet
      exact ⟨by rw [HA.out], rfl⟩
  case rest =>
    obtain ⟨rfl, hwc⟩ := hcut
    rw [hwc]
    clear hwc
    have e2 := eq_rv
    go_wp2_with fail
    obtain ⟨W, g, hW, hg, kB', z1, z2', z3, z4, q1, q2, q3, q4, q5, q6, q7, q8, g5, g6⟩ := rzero_base w V xl xh yl yh ⟨kB, s1, s2, s3, c1, c2, c3, c4, c5, c6, f5, f6⟩
    rw [hW, hg]
    clear hW hg
    refine wp_region_ext_tail 17 (by kernel_rfl) (by kernel_rfl) ?_
    simp only [List.take_succ_cons, List.take_zero, List.drop_succ_cons, List.drop_zero]
    repeat (go_big_quiet_step (first | (go_at_call 48; (first | (with_reducible exact Calls.extq (lit_of (rhas_any _ _ _ _) BX.out)) | (with_reducible exact Calls.extq (lit_of (rhas_any _ _ _ _) BY.out)))) | (go_at_call 47; exact Calls.extq (rtr_any _ _ _))))
    refine wpQuiet_nil ?_
    rintro _ ⟨x1, rfl⟩
    go_wp2_with fail
    refine bodyPost_ret (v := .agg #[.int .i32 (trI (!false && !b2) (false || z2)).1, .int .i32 (trI (!false && !b2) (false || z2)).2]) ?hr rfl ⟨rfl, ?bel⟩
    case hr =>
      simp [results, Try.results12, go_sem, q5, q6, z3]
    case bel =>
      exact Below.setCell (Below.setCell (Ext.below kB' (by omega) x1) (by simp; omega) _) (by simp; omega) _


set_option maxRecDepth 100000 in
set_option maxHeartbeats 2000000 in
theorem rap_22ft_n (xl xh yl yh : Int) (w : World) (hx1 : -2147483648 ≤ xl) (hx2 : xl ≤ 2147483647) (hx3 : -2147483648 ≤ xh) (hx4 : xh ≤ 2147483647) (hy1 : -2147483648 ≤ yl) (hy2 : yl ≤ 2147483647) (hy3 : -2147483648 ≤ yh) (hy4 : yh ≤ 2147483647) (hxe : xl ≤ xh) (hye : yl ≤ yh) (hs : (xl == xh) = false) (b2 z2 : Bool) (BX : Hid ((decide (xl ≤ 0) && decide (0 ≤ xh)) = false)) (BY : Hid ((decide (yl ≤ 0) && decide (0 ≤ yh)) = b2)) (zx : (xl == 0 && xh == 0) = true) (zy : (yl == 0 && yh == 0) = z2) :
    Calls Try.prog 12 #[.int .u8 22, .agg #[.int .i32 xl, .int .i32 xh], .agg #[.int .i32 yl, .int .i32 yh]] w fun e w' => e = .returned (.agg #[.int .i32 (trI (!false && !b2) (true || z2)).1, .int .i32 (trI (!false && !b2) (true || z2)).2]) ∧ Below w.heap.size w w' := by
  have d3 : decide (xh < xl) = false := by simp; omega
  have d4 : decide (yh < yl) = false := by simp; omega
  go_enter Try.func12, Try.ntmps12
  go_upto_region 10 with (first | (go_at_call 37; ((first | (with_reducible refine (Calls.extq (rempty_any _ _ _)).mono ?_) | (refine (Calls.ext (rempty_any _ _ _)).mono ?_)); rintro e _ ⟨rfl, y, rfl⟩)) | (go_at_call 39; ((first | (with_reducible refine (Calls.extq (rsingle_any _ _ _)).mono ?_) | (refine (Calls.ext (rsingle_any _ _ _)).mono ?_)); rintro e _ ⟨rfl, y, rfl⟩)))
  obtain ⟨V, hV, D⟩ := rdiv_base xl xh yl yh w y
  rw [hV]
  clear hV
  obtain ⟨kB, s1, s2, s3, c1, c2, c3, c4, c5, c6, f5, f6⟩ := D
  go_cut [9] (fun s wx => s = .bool (apartB xl xh yl yh) ∧ wx = V)
  case first =>
    by_cases ha : xh < yl
    · have HA := Lib.hid (show apartB xl xh yl yh = true by simp [apartB, ha])
      have da := decide_eq_true ha
      go_wp2_with fail
      go_meet
      exact ⟨by rw [HA.out], rfl⟩
    · have HA := Lib.hid (show apartB xl xh yl yh = decide (yh < xl) by simp [apartB, ha])
      have da := decide_eq_false ha
      go_wp2_with fail
      go_meet
      exact ⟨by rw [HA.out], rfl⟩
  case rest =>
    obtain ⟨rfl, hwc⟩ := hcut
    rw [hwc]
    clear hwc
    have e2 := eq_rv
    go_wp2_with fail
    obtain ⟨W, g, hW, hg, kB', z1, z2', z3, z4, q1, q2, q3, q4, q5, q6, q7, q8, g5, g6⟩ := rzero_base w V xl xh yl yh ⟨kB, s1, s2, s3, c1, c2, c3, c4, c5, c6, f5, f6⟩
    rw [hW, hg]
    clear hW hg
    refine wp_region_ext_tail 17 (by kernel_rfl) (by kernel_rfl) ?_
    simp only [List.take_succ_cons, List.take_zero, List.drop_succ_cons, List.drop_zero]
    repeat (go_big_quiet_step (first | (go_at_call 48; (first | (with_reducible exact Calls.extq (lit_of (rhas_any _ _ _ _) BX.out)) | (with_reducible exact Calls.extq (lit_of (rhas_any _ _ _ _) BY.out)))) | (go_at_call 47; exact Calls.extq (rtr_any _ _ _))))
    refine wpQuiet_nil ?_
    rintro _ ⟨x1, rfl⟩
    go_wp2_with fail
    refine bodyPost_ret (v := .agg #[.int .i32 (trI (!false && !b2) (true || z2)).1, .int .i32 (trI (!false && !b2) (true || z2)).2]) ?hr rfl ⟨rfl, ?bel⟩
    case hr =>
      simp [results, Try.results12, go_sem, q5, q6, z3]
    case bel =>
      exact Below.setCell (Below.setCell (Ext.below kB' (by omega) x1) (by simp; omega) _) (by simp; omega) _


set_option maxRecDepth 100000 in
set_option maxHeartbeats 2000000 in
theorem rap_22ft_s (xl xh yl yh : Int) (w : World) (hx1 : -2147483648 ≤ xl) (hx2 : xl ≤ 2147483647) (hx3 : -2147483648 ≤ xh) (hx4 : xh ≤ 2147483647) (hy1 : -2147483648 ≤ yl) (hy2 : yl ≤ 2147483647) (hy3 : -2147483648 ≤ yh) (hy4 : yh ≤ 2147483647) (hxe : xl ≤ xh) (hye : yl ≤ yh) (hs : (xl == xh) = true) (hs' : (yl == yh) = false) (b2 z2 : Bool) (BX : Hid ((decide (xl ≤ 0) && decide (0 ≤ xh)) = false)) (BY : Hid ((decide (yl ≤ 0) && decide (0 ≤ yh)) = b2)) (zx : (xl == 0 && xh == 0) = true) (zy : (yl == 0 && yh == 0) = z2) :
    Calls Try.prog 12 #[.int .u8 22, .agg #[.int .i32 xl, .int .i32 xh], .agg #[.int .i32 yl, .int .i32 yh]] w fun e w' => e = .returned (.agg #[.int .i32 (trI (!false && !b2) (true || z2)).1, .int .i32 (trI (!false && !b2) (true || z2)).2]) ∧ Below w.heap.size w w' := by
  have d3 : decide (xh < xl) = false := by simp; omega
  have d4 : decide (yh < yl) = false := by simp; omega
  go_enter Try.func12, Try.ntmps12
  go_upto_region 10 with (first | (go_at_call 37; ((first | (with_reducible refine (Calls.extq (rempty_any _ _ _)).mono ?_) | (refine (Calls.ext (rempty_any _ _ _)).mono ?_)); rintro e _ ⟨rfl, y, rfl⟩)) | (go_at_call 39; ((first | (with_reducible refine (Calls.extq (rsingle_any _ _ _)).mono ?_) | (refine (Calls.ext (rsingle_any _ _ _)).mono ?_)); rintro e _ ⟨rfl, y, rfl⟩)))
  obtain ⟨V, hV, D⟩ := rdiv_base xl xh yl yh w y
  rw [hV]
  clear hV
  obtain ⟨kB, s1, s2, s3, c1, c2, c3, c4, c5, c6, f5, f6⟩ := D
  go_cut [9] (fun s wx => s = .bool (apartB xl xh yl yh) ∧ wx = V)
  case first =>
    by_cases ha : xh < yl
    · have HA := Lib.hid (show apartB xl xh yl yh = true by simp [apartB, ha])
      have da := decide_eq_true ha
      go_wp2_with fail
      go_meet
      exact ⟨by rw [HA.out], rfl⟩
    · have HA := Lib.hid (show apartB xl xh yl yh = decide (yh < xl) by simp [apartB, ha])
      have da := decide_eq_false ha
      go_wp2_with fail
      go_meet
      exact ⟨by rw [HA.out], rfl⟩
  case rest =>
    obtain ⟨rfl, hwc⟩ := hcut
    rw [hwc]
    clear hwc
    have e2 := eq_rv
    go_wp2_with fail
    obtain ⟨W, g, hW, hg, kB', z1, z2', z3, z4, q1, q2, q3, q4, q5, q6, q7, q8, g5, g6⟩ := rzero_base w V xl xh yl yh ⟨kB, s1, s2, s3, c1, c2, c3, c4, c5, c6, f5, f6⟩
    rw [hW, hg]
    clear hW hg
    refine wp_region_ext_tail 17 (by kernel_rfl) (by kernel_rfl) ?_
    simp only [List.take_succ_cons, List.take_zero, List.drop_succ_cons, List.drop_zero]
    repeat (go_big_quiet_step (first | (go_at_call 48; (first | (with_reducible exact Calls.extq (lit_of (rhas_any _ _ _ _) BX.out)) | (with_reducible exact Calls.extq (lit_of (rhas_any _ _ _ _) BY.out)))) | (go_at_call 47; exact Calls.extq (rtr_any _ _ _))))
    refine wpQuiet_nil ?_
    rintro _ ⟨x1, rfl⟩
    go_wp2_with fail
    refine bodyPost_ret (v := .agg #[.int .i32 (trI (!false && !b2) (true || z2)).1, .int .i32 (trI (!false && !b2) (true || z2)).2]) ?hr rfl ⟨rfl, ?bel⟩
    case hr =>
      simp [results, Try.results12, go_sem, q5, q6, z3]
    case bel =>
      exact Below.setCell (Below.setCell (Ext.below kB' (by omega) x1) (by simp; omega) _) (by simp; omega) _


set_option maxRecDepth 100000 in
set_option maxHeartbeats 2000000 in
theorem rap_22tf_n (xl xh yl yh : Int) (w : World) (hx1 : -2147483648 ≤ xl) (hx2 : xl ≤ 2147483647) (hx3 : -2147483648 ≤ xh) (hx4 : xh ≤ 2147483647) (hy1 : -2147483648 ≤ yl) (hy2 : yl ≤ 2147483647) (hy3 : -2147483648 ≤ yh) (hy4 : yh ≤ 2147483647) (hxe : xl ≤ xh) (hye : yl ≤ yh) (hs : (xl == xh) = false) (b2 z2 : Bool) (BX : Hid ((decide (xl ≤ 0) && decide (0 ≤ xh)) = true)) (BY : Hid ((decide (yl ≤ 0) && decide (0 ≤ yh)) = b2)) (zx : (xl == 0 && xh == 0) = false) (zy : (yl == 0 && yh == 0) = z2) :
    Calls Try.prog 12 #[.int .u8 22, .agg #[.int .i32 xl, .int .i32 xh], .agg #[.int .i32 yl, .int .i32 yh]] w fun e w' => e = .returned (.agg #[.int .i32 (trI (!true && !b2) (false || z2)).1, .int .i32 (trI (!true && !b2) (false || z2)).2]) ∧ Below w.heap.size w w' := by
  have d3 : decide (xh < xl) = false := by simp; omega
  have d4 : decide (yh < yl) = false := by simp; omega
  go_enter Try.func12, Try.ntmps12
  go_upto_region 10 with (first | (go_at_call 37; ((first | (with_reducible refine (Calls.extq (rempty_any _ _ _)).mono ?_) | (refine (Calls.ext (rempty_any _ _ _)).mono ?_)); rintro e _ ⟨rfl, y, rfl⟩)) | (go_at_call 39; ((first | (with_reducible refine (Calls.extq (rsingle_any _ _ _)).mono ?_) | (refine (Calls.ext (rsingle_any _ _ _)).mono ?_)); rintro e _ ⟨rfl, y, rfl⟩)))
  obtain ⟨V, hV, D⟩ := rdiv_base xl xh yl yh w y
  rw [hV]
  clear hV
  obtain ⟨kB, s1, s2, s3, c1, c2, c3, c4, c5, c6, f5, f6⟩ := D
  go_cut [9] (fun s wx => s = .bool (apartB xl xh yl yh) ∧ wx = V)
  case first =>
    by_cases ha : xh < yl
    · have HA := Lib.hid (show apartB xl xh yl yh = true by simp [apartB, ha])
      have da := decide_eq_true ha
      go_wp2_with fail
      go_meet
      exact ⟨by rw [HA.out], rfl⟩
    · have HA := Lib.hid (show apartB xl xh yl yh = decide (yh < xl) by simp [apartB, ha])
      have da := decide_eq_false ha
      go_wp2_with fail
      go_meet
      exact ⟨by rw [HA.out], rfl⟩
  case rest =>
    obtain ⟨rfl, hwc⟩ := hcut
    rw [hwc]
    clear hwc
    have e2 := eq_rv
    go_wp2_with fail
    obtain ⟨W, g, hW, hg, kB', z1, z2', z3, z4, q1, q2, q3, q4, q5, q6, q7, q8, g5, g6⟩ := rzero_base w V xl xh yl yh ⟨kB, s1, s2, s3, c1, c2, c3, c4, c5, c6, f5, f6⟩
    rw [hW, hg]
    clear hW hg
    refine wp_region_ext_tail 17 (by kernel_rfl) (by kernel_rfl) ?_
    simp only [List.take_succ_cons, List.take_zero, List.drop_succ_cons, List.drop_zero]
    repeat (go_big_quiet_step (first | (go_at_call 48; (first | (with_reducible exact Calls.extq (lit_of (rhas_any _ _ _ _) BX.out)) | (with_reducible exact Calls.extq (lit_of (rhas_any _ _ _ _) BY.out)))) | (go_at_call 47; exact Calls.extq (rtr_any _ _ _))))
    refine wpQuiet_nil ?_
    rintro _ ⟨x1, rfl⟩
    go_wp2_with fail
    refine bodyPost_ret (v := .agg #[.int .i32 (trI (!true && !b2) (false || z2)).1, .int .i32 (trI (!true && !b2) (false || z2)).2]) ?hr rfl ⟨rfl, ?bel⟩
    case hr =>
      simp [results, Try.results12, go_sem, q5, q6, z3]
    case bel =>
      exact Below.setCell (Below.setCell (Ext.below kB' (by omega) x1) (by simp; omega) _) (by simp; omega) _


set_option maxRecDepth 100000 in
set_option maxHeartbeats 2000000 in
theorem rap_22tf_s (xl xh yl yh : Int) (w : World) (hx1 : -2147483648 ≤ xl) (hx2 : xl ≤ 2147483647) (hx3 : -2147483648 ≤ xh) (hx4 : xh ≤ 2147483647) (hy1 : -2147483648 ≤ yl) (hy2 : yl ≤ 2147483647) (hy3 : -2147483648 ≤ yh) (hy4 : yh ≤ 2147483647) (hxe : xl ≤ xh) (hye : yl ≤ yh) (hs : (xl == xh) = true) (hs' : (yl == yh) = false) (b2 z2 : Bool) (BX : Hid ((decide (xl ≤ 0) && decide (0 ≤ xh)) = true)) (BY : Hid ((decide (yl ≤ 0) && decide (0 ≤ yh)) = b2)) (zx : (xl == 0 && xh == 0) = false) (zy : (yl == 0 && yh == 0) = z2) :
    Calls Try.prog 12 #[.int .u8 22, .agg #[.int .i32 xl, .int .i32 xh], .agg #[.int .i32 yl, .int .i32 yh]] w fun e w' => e = .returned (.agg #[.int .i32 (trI (!true && !b2) (false || z2)).1, .int .i32 (trI (!true && !b2) (false || z2)).2]) ∧ Below w.heap.size w w' := by
  have d3 : decide (xh < xl) = false := by simp; omega
  have d4 : decide (yh < yl) = false := by simp; omega
  go_enter Try.func12, Try.ntmps12
  go_upto_region 10 with (first | (go_at_call 37; ((first | (with_reducible refine (Calls.extq (rempty_any _ _ _)).mono ?_) | (refine (Calls.ext (rempty_any _ _ _)).mono ?_)); rintro e _ ⟨rfl, y, rfl⟩)) | (go_at_call 39; ((first | (with_reducible refine (Calls.extq (rsingle_any _ _ _)).mono ?_) | (refine (Calls.ext (rsingle_any _ _ _)).mono ?_)); rintro e _ ⟨rfl, y, rfl⟩)))
  obtain ⟨V, hV, D⟩ := rdiv_base xl xh yl yh w y
  rw [hV]
  clear hV
  obtain ⟨kB, s1, s2, s3, c1, c2, c3, c4, c5, c6, f5, f6⟩ := D
  go_cut [9] (fun s wx => s = .bool (apartB xl xh yl yh) ∧ wx = V)
  case first =>
    by_cases ha : xh < yl
    · have HA := Lib.hid (show apartB xl xh yl yh = true by simp [apartB, ha])
      have da := decide_eq_true ha
      go_wp2_with fail
      go_meet
      exact ⟨by rw [HA.out], rfl⟩
    · have HA := Lib.hid (show apartB xl xh yl yh = decide (yh < xl) by simp [apartB, ha])
      have da := decide_eq_false ha
      go_wp2_with fail
      go_meet
      exact ⟨by rw [HA.out], rfl⟩
  case rest =>
    obtain ⟨rfl, hwc⟩ := hcut
    rw [hwc]
    clear hwc
    have e2 := eq_rv
    go_wp2_with fail
    obtain ⟨W, g, hW, hg, kB', z1, z2', z3, z4, q1, q2, q3, q4, q5, q6, q7, q8, g5, g6⟩ := rzero_base w V xl xh yl yh ⟨kB, s1, s2, s3, c1, c2, c3, c4, c5, c6, f5, f6⟩
    rw [hW, hg]
    clear hW hg
    refine wp_region_ext_tail 17 (by kernel_rfl) (by kernel_rfl) ?_
    simp only [List.take_succ_cons, List.take_zero, List.drop_succ_cons, List.drop_zero]
    repeat (go_big_quiet_step (first | (go_at_call 48; (first | (with_reducible exact Calls.extq (lit_of (rhas_any _ _ _ _) BX.out)) | (with_reducible exact Calls.extq (lit_of (rhas_any _ _ _ _) BY.out)))) | (go_at_call 47; exact Calls.extq (rtr_any _ _ _))))
    refine wpQuiet_nil ?_
    rintro _ ⟨x1, rfl⟩
    go_wp2_with fail
    refine bodyPost_ret (v := .agg #[.int .i32 (trI (!true && !b2) (false || z2)).1, .int .i32 (trI (!true && !b2) (false || z2)).2]) ?hr rfl ⟨rfl, ?bel⟩
    case hr =>
      simp [results, Try.results12, go_sem, q5, q6, z3]
    case bel =>
      exact Below.setCell (Below.setCell (Ext.below kB' (by omega) x1) (by simp; omega) _) (by simp; omega) _


set_option maxRecDepth 100000 in
set_option maxHeartbeats 2000000 in
theorem rap_22tt_n (xl xh yl yh : Int) (w : World) (hx1 : -2147483648 ≤ xl) (hx2 : xl ≤ 2147483647) (hx3 : -2147483648 ≤ xh) (hx4 : xh ≤ 2147483647) (hy1 : -2147483648 ≤ yl) (hy2 : yl ≤ 2147483647) (hy3 : -2147483648 ≤ yh) (hy4 : yh ≤ 2147483647) (hxe : xl ≤ xh) (hye : yl ≤ yh) (hs : (xl == xh) = false) (b2 z2 : Bool) (BX : Hid ((decide (xl ≤ 0) && decide (0 ≤ xh)) = true)) (BY : Hid ((decide (yl ≤ 0) && decide (0 ≤ yh)) = b2)) (zx : (xl == 0 && xh == 0) = true) (zy : (yl == 0 && yh == 0) = z2) :
    Calls Try.prog 12 #[.int .u8 22, .agg #[.int .i32 xl, .int .i32 xh], .agg #[.int .i32 yl, .int .i32 yh]] w fun e w' => e = .returned (.agg #[.int .i32 (trI (!true && !b2) (true || z2)).1, .int .i32 (trI (!true && !b2) (true || z2)).2]) ∧ Below w.heap.size w w' := by
  have d3 : decide (xh < xl) = false := by simp; omega
  have d4 : decide (yh < yl) = false := by simp; omega
  go_enter Try.func12, Try.ntmps12
  go_upto_region 10 with (first | (go_at_call 37; ((first | (with_reducible refine (Calls.extq (rempty_any _ _ _)).mono ?_) | (refine (Calls.ext (rempty_any _ _ _)).mono ?_)); rintro e _ ⟨rfl, y, rfl⟩)) | (go_at_call 39; ((first | (with_reducible refine (Calls.extq (rsingle_any _ _ _)).mono ?_) | (refine (Calls.ext (rsingle_any _ _ _)).mono ?_)); rintro e _ ⟨rfl, y, rfl⟩)))
  obtain ⟨V, hV, D⟩ := rdiv_base xl xh yl yh w y
  rw [hV]
  clear hV
  obtain ⟨kB, s1, s2, s3, c1, c2, c3, c4, c5, c6, f5, f6⟩ := D
  go_cut [9] (fun s wx => s = .bool (apartB xl xh yl yh) ∧ wx = V)
  case first =>
    by_cases ha : xh < yl
    · have HA := Lib.hid (show apartB xl xh yl yh = true by simp [apartB, ha])
      have da := decide_eq_true ha
      go_wp2_with fail
      go_meet
      exact ⟨by rw [HA.out], rfl⟩
    · have HA := Lib.hid (show apartB xl xh yl yh = decide (yh < xl) by simp [apartB, ha])
      have da := decide_eq_false ha
      go_wp2_with fail
      go_meet
      exact ⟨by rw [HA.out], rfl⟩
  case rest =>
    obtain ⟨rfl, hwc⟩ := hcut
    rw [hwc]
    clear hwc
    have e2 := eq_rv
    go_wp2_with fail
    obtain ⟨W, g, hW, hg, kB', z1, z2', z3, z4, q1, q2, q3, q4, q5, q6, q7, q8, g5, g6⟩ := rzero_base w V xl xh yl yh ⟨kB, s1, s2, s3, c1, c2, c3, c4, c5, c6, f5, f6⟩
    rw [hW, hg]
    clear hW hg
    refine wp_region_ext_tail 17 (by kernel_rfl) (by kernel_rfl) ?_
    simp only [List.take_succ_cons, List.take_zero, List.drop_succ_cons, List.drop_zero]
    repeat (go_big_quiet_step (first | (go_at_call 48; (first | (with_reducible exact Calls.extq (lit_of (rhas_any _ _ _ _) BX.out)) | (with_reducible exact Calls.extq (lit_of (rhas_any _ _ _ _) BY.out)))) | (go_at_call 47; exact Calls.extq (rtr_any _ _ _))))
    refine wpQuiet_nil ?_
    rintro _ ⟨x1, rfl⟩
    go_wp2_with fail
    refine bodyPost_ret (v := .agg #[.int .i32 (trI (!true && !b2) (true || z2)).1, .int .i32 (trI (!true && !b2) (true || z2)).2]) ?hr rfl ⟨rfl, ?bel⟩
    case hr =>
      simp [results, Try.results12, go_sem, q5, q6, z3]
    case bel =>
      exact Below.setCell (Below.setCell (Ext.below kB' (by omega) x1) (by simp; omega) _) (by simp; omega) _


set_option maxRecDepth 100000 in
set_option maxHeartbeats 2000000 in
theorem rap_22tt_s (xl xh yl yh : Int) (w : World) (hx1 : -2147483648 ≤ xl) (hx2 : xl ≤ 2147483647) (hx3 : -2147483648 ≤ xh) (hx4 : xh ≤ 2147483647) (hy1 : -2147483648 ≤ yl) (hy2 : yl ≤ 2147483647) (hy3 : -2147483648 ≤ yh) (hy4 : yh ≤ 2147483647) (hxe : xl ≤ xh) (hye : yl ≤ yh) (hs : (xl == xh) = true) (hs' : (yl == yh) = false) (b2 z2 : Bool) (BX : Hid ((decide (xl ≤ 0) && decide (0 ≤ xh)) = true)) (BY : Hid ((decide (yl ≤ 0) && decide (0 ≤ yh)) = b2)) (zx : (xl == 0 && xh == 0) = true) (zy : (yl == 0 && yh == 0) = z2) :
    Calls Try.prog 12 #[.int .u8 22, .agg #[.int .i32 xl, .int .i32 xh], .agg #[.int .i32 yl, .int .i32 yh]] w fun e w' => e = .returned (.agg #[.int .i32 (trI (!true && !b2) (true || z2)).1, .int .i32 (trI (!true && !b2) (true || z2)).2]) ∧ Below w.heap.size w w' := by
  have d3 : decide (xh < xl) = false := by simp; omega
  have d4 : decide (yh < yl) = false := by simp; omega
  go_enter Try.func12, Try.ntmps12
  go_upto_region 10 with (first | (go_at_call 37; ((first | (with_reducible refine (Calls.extq (rempty_any _ _ _)).mono ?_) | (refine (Calls.ext (rempty_any _ _ _)).mono ?_)); rintro e _ ⟨rfl, y, rfl⟩)) | (go_at_call 39; ((first | (with_reducible refine (Calls.extq (rsingle_any _ _ _)).mono ?_) | (refine (Calls.ext (rsingle_any _ _ _)).mono ?_)); rintro e _ ⟨rfl, y, rfl⟩)))
  obtain ⟨V, hV, D⟩ := rdiv_base xl xh yl yh w y
  rw [hV]
  clear hV
  obtain ⟨kB, s1, s2, s3, c1, c2, c3, c4, c5, c6, f5, f6⟩ := D
  go_cut [9] (fun s wx => s = .bool (apartB xl xh yl yh) ∧ wx = V)
  case first =>
    by_cases ha : xh < yl
    · have HA := Lib.hid (show apartB xl xh yl yh = true by simp [apartB, ha])
      have da := decide_eq_true ha
      go_wp2_with fail
      go_meet
      exact ⟨by rw [HA.out], rfl⟩
    · have HA := Lib.hid (show apartB xl xh yl yh = decide (yh < xl) by simp [apartB, ha])
      have da := decide_eq_false ha
      go_wp2_with fail
      go_meet
      exact ⟨by rw [HA.out], rfl⟩
  case rest =>
    obtain ⟨rfl, hwc⟩ := hcut
    rw [hwc]
    clear hwc
    have e2 := eq_rv
    go_wp2_with fail
    obtain ⟨W, g, hW, hg, kB', z1, z2', z3, z4, q1, q2, q3, q4, q5, q6, q7, q8, g5, g6⟩ := rzero_base w V xl xh yl yh ⟨kB, s1, s2, s3, c1, c2, c3, c4, c5, c6, f5, f6⟩
    rw [hW, hg]
    clear hW hg
    refine wp_region_ext_tail 17 (by kernel_rfl) (by kernel_rfl) ?_
    simp only [List.take_succ_cons, List.take_zero, List.drop_succ_cons, List.drop_zero]
    repeat (go_big_quiet_step (first | (go_at_call 48; (first | (with_reducible exact Calls.extq (lit_of (rhas_any _ _ _ _) BX.out)) | (with_reducible exact Calls.extq (lit_of (rhas_any _ _ _ _) BY.out)))) | (go_at_call 47; exact Calls.extq (rtr_any _ _ _))))
    refine wpQuiet_nil ?_
    rintro _ ⟨x1, rfl⟩
    go_wp2_with fail
    refine bodyPost_ret (v := .agg #[.int .i32 (trI (!true && !b2) (true || z2)).1, .int .i32 (trI (!true && !b2) (true || z2)).2]) ?hr rfl ⟨rfl, ?bel⟩
    case hr =>
      simp [results, Try.results12, go_sem, q5, q6, z3]
    case bel =>
      exact Below.setCell (Below.setCell (Ext.below kB' (by omega) x1) (by simp; omega) _) (by simp; omega) _


end Go.Proofs.Ytjkjcnamlankoaa
