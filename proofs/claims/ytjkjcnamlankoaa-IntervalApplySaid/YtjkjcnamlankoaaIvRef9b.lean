/-
  What is proved here: what ontimeref27.Apply returns: just what interval.Apply returns.
-/
import Derived.Test.YtjkjcnamlankoaaIvRef9
namespace Go.Proofs.Ytjkjcnamlankoaa
open Go.RowKit
set_option linter.unusedVariables false
set_option linter.unusedSimpArgs false

set_option maxRecDepth 100000 in
set_option maxHeartbeats 2000000 in
theorem rap_11_n (xl xh yl yh : Int) (w : World) (hx1 : -2147483648 ≤ xl) (hx2 : xl ≤ 2147483647) (hx3 : -2147483648 ≤ xh) (hx4 : xh ≤ 2147483647) (hy1 : -2147483648 ≤ yl) (hy2 : yl ≤ 2147483647) (hy3 : -2147483648 ≤ yh) (hy4 : yh ≤ 2147483647) (hxe : xl ≤ xh) (hye : yl ≤ yh) (hs : (xl == xh) = false) :
    Calls Try.prog 12 #[.int .u8 11, .agg #[.int .i32 xl, .int .i32 xh], .agg #[.int .i32 yl, .int .i32 yh]] w fun e w' => e = .returned (.agg #[.int .i32 (bitI 11 (xl, xh) (yl, yh)).1, .int .i32 (bitI 11 (xl, xh) (yl, yh)).2]) ∧ Below w.heap.size w w' := by
  have d3 : decide (xh < xl) = false := by simp; omega
  have d4 : decide (yh < yl) = false := by simp; omega
  go_enter Try.func12, Try.ntmps12
  go_upto_region 10 with (first | (go_at_call 37; ((first | (with_reducible refine (Calls.extq (rempty_any _ _ _)).mono ?_) | (refine (Calls.ext (rempty_any _ _ _)).mono ?_)); rintro e _ ⟨rfl, y, rfl⟩)) | (go_at_call 39; ((first | (with_reducible refine (Calls.extq (rsingle_any _ _ _)).mono ?_) | (refine (Calls.ext (rsingle_any _ _ _)).mono ?_)); rintro e _ ⟨rfl, y, rfl⟩)))
  obtain ⟨V, hV, D⟩ := rdiv_base xl xh yl yh w y
  rw [hV]
  clear hV
  obtain ⟨kB, s1, s2, s3, c1, c2, c3, c4, c5, c6, f5, f6⟩ := D
  go_cut [9] (fun s wx => s = .bool (apartB xl xh yl yh) ∧ wx = V)
  case first =>
    by_cases ha : xh < yl
    · have HA := Lib.hid (show apartB xl xh yl yh = true by simp [apartB, ha])
      have da := decide_eq_true ha
      go_wp2_with fail
      go_meet
      exact ⟨by rw [HA.out], rfl⟩
    · have HA := Lib.hid (show apartB xl xh yl yh = decide (yh < xl) by simp [apartB, ha])
      have da := decide_eq_false ha
      go_wp2_with fail
      go_meet
      exact ⟨by rw [HA.out], rfl⟩
  case rest =>
    obtain ⟨rfl, hwc⟩ := hcut
    rw [hwc]
    clear hwc
    go_wp2_with fail
    refine (Calls.ext (rbitwise_any _ _ _ _ _ _ hx1 hx2 hx3 hx4 hy1 hy2 hy3 hy4 (by decide) (by decide) hxe hye)).mono ?_
    rintro e _ ⟨rfl, y4, rfl⟩
    obtain ⟨y5, hm⟩ := ext_alloc y4
    rw [hm]
    clear hm y4
    go_wp2
    all_goals
      refine bodyPost_ret (v := .agg #[.int .i32 (bitI 11 (xl, xh) (yl, yh)).1, .int .i32 (bitI 11 (xl, xh) (yl, yh)).2]) ?hr rfl ⟨rfl, ?bel⟩
      case hr =>
        simp [results, Try.results12, go_sem, c5, c6, s3]
      case bel =>
        exact Below.setCell (Below.setCell (Ext.below kB (by omega) y5) (by simp; omega) _) (by simp; omega) _


set_option maxRecDepth 100000 in
set_option maxHeartbeats 2000000 in
theorem rap_11_s (xl xh yl yh : Int) (w : World) (hx1 : -2147483648 ≤ xl) (hx2 : xl ≤ 2147483647) (hx3 : -2147483648 ≤ xh) (hx4 : xh ≤ 2147483647) (hy1 : -2147483648 ≤ yl) (hy2 : yl ≤ 2147483647) (hy3 : -2147483648 ≤ yh) (hy4 : yh ≤ 2147483647) (hxe : xl ≤ xh) (hye : yl ≤ yh) (hs : (xl == xh) = true) (hs' : (yl == yh) = false) :
    Calls Try.prog 12 #[.int .u8 11, .agg #[.int .i32 xl, .int .i32 xh], .agg #[.int .i32 yl, .int .i32 yh]] w fun e w' => e = .returned (.agg #[.int .i32 (bitI 11 (xl, xh) (yl, yh)).1, .int .i32 (bitI 11 (xl, xh) (yl, yh)).2]) ∧ Below w.heap.size w w' := by
  have d3 : decide (xh < xl) = false := by simp; omega
  have d4 : decide (yh < yl) = false := by simp; omega
  go_enter Try.func12, Try.ntmps12
  go_upto_region 10 with (first | (go_at_call 37; ((first | (with_reducible refine (Calls.extq (rempty_any _ _ _)).mono ?_) | (refine (Calls.ext (rempty_any _ _ _)).mono ?_)); rintro e _ ⟨rfl, y, rfl⟩)) | (go_at_call 39; ((first | (with_reducible refine (Calls.extq (rsingle_any _ _ _)).mono ?_) | (refine (Calls.ext (rsingle_any _ _ _)).mono ?_)); rintro e _ ⟨rfl, y, rfl⟩)))
  obtain ⟨V, hV, D⟩ := rdiv_base xl xh yl yh w y
  rw [hV]
  clear hV
  obtain ⟨kB, s1, s2, s3, c1, c2, c3, c4, c5, c6, f5, f6⟩ := D
  go_cut [9] (fun s wx => s = .bool (apartB xl xh yl yh) ∧ wx = V)
  case first =>
    by_cases ha : xh < yl
    · have HA := Lib.hid (show apartB xl xh yl yh = true by simp [apartB, ha])
      have da := decide_eq_true ha
      go_wp2_with fail
      go_meet
      exact ⟨by rw [HA.out], rfl⟩
    · have HA := Lib.hid (show apartB xl xh yl yh = decide (yh < xl) by simp [apartB, ha])
      have da := decide_eq_false ha
      go_wp2_with fail
      go_meet
      exact ⟨by rw [HA.out], rfl⟩
  case rest =>
    obtain ⟨rfl, hwc⟩ := hcut
    rw [hwc]
    clear hwc
    go_wp2_with fail
    refine (Calls.ext (rbitwise_any _ _ _ _ _ _ hx1 hx2 hx3 hx4 hy1 hy2 hy3 hy4 (by decide) (by decide) hxe hye)).mono ?_
    rintro e _ ⟨rfl, y4, rfl⟩
    obtain ⟨y5, hm⟩ := ext_alloc y4
    rw [hm]
    clear hm y4
    go_wp2
    all_goals
      refine bodyPost_ret (v := .agg #[.int .i32 (bitI 11 (xl, xh) (yl, yh)).1, .int .i32 (bitI 11 (xl, xh) (yl, yh)).2]) ?hr rfl ⟨rfl, ?bel⟩
      case hr =>
        simp [results, Try.results12, go_sem, c5, c6, s3]
      case bel =>
        exact Below.setCell (Below.setCell (Ext.below kB (by omega) y5) (by simp; omega) _) (by simp; omega) _


set_option maxRecDepth 100000 in
set_option maxHeartbeats 2000000 in
theorem rap_12_n (xl xh yl yh : Int) (w : World) (hx1 : -2147483648 ≤ xl) (hx2 : xl ≤ 2147483647) (hx3 : -2147483648 ≤ xh) (hx4 : xh ≤ 2147483647) (hy1 : -2147483648 ≤ yl) (hy2 : yl ≤ 2147483647) (hy3 : -2147483648 ≤ yh) (hy4 : yh ≤ 2147483647) (hxe : xl ≤ xh) (hye : yl ≤ yh) (hs : (xl == xh) = false) :
    Calls Try.prog 12 #[.int .u8 12, .agg #[.int .i32 xl, .int .i32 xh], .agg #[.int .i32 yl, .int .i32 yh]] w fun e w' => e = .returned (.agg #[.int .i32 (bitI 12 (xl, xh) (yl, yh)).1, .int .i32 (bitI 12 (xl, xh) (yl, yh)).2]) ∧ Below w.heap.size w w' := by
  have d3 : decide (xh < xl) = false := by simp; omega
  have d4 : decide (yh < yl) = false := by simp; omega
  go_enter Try.func12, Try.ntmps12
  go_upto_region 10 with (first | (go_at_call 37; ((first | (with_reducible refine (Calls.extq (rempty_any _ _ _)).mono ?_) | (refine (Calls.ext (rempty_any _ _ _)).mono ?_)); rintro e _ ⟨rfl, y, rfl⟩)) | (go_at_call 39; ((first | (with_reducible refine (Calls.extq (rsingle_any _ _ _)).mono ?_) | (refine (Calls.ext (rsingle_any _ _ _)).mono ?_)); rintro e _ ⟨rfl, y, rfl⟩)))
  obtain ⟨V, hV, D⟩ := rdiv_base xl xh yl yh w y
  rw [hV]
  clear hV
  obtain ⟨kB, s1, s2, s3, c1, c2, c3, c4, c5, c6, f5, f6⟩ := D
  go_cut [9] (fun s wx => s = .bool (apartB xl xh yl yh) ∧ wx = V)
  case first =>
    by_cases ha : xh < yl
    · have HA := Lib.hid (show apartB xl xh yl yh = true by simp [apartB, ha])
      have da := decide_eq_true ha
      go_wp2_with fail
      go_meet
      exact ⟨by rw [HA.out], rfl⟩
    · have HA := Lib.hid (show apartB xl xh yl yh = decide (yh < xl) by simp [apartB, ha])
      have da := decide_eq_false ha
      go_wp2_with fail
      go_meet
      exact ⟨by rw [HA.out], rfl⟩
  case rest =>
    obtain ⟨rfl, hwc⟩ := hcut
    rw [hwc]
    clear hwc
    go_wp2_with fail
    refine (Calls.ext (rbitwise_any _ _ _ _ _ _ hx1 hx2 hx3 hx4 hy1 hy2 hy3 hy4 (by decide) (by decide) hxe hye)).mono ?_
    rintro e _ ⟨rfl, y4, rfl⟩
    obtain ⟨y5, hm⟩ := ext_alloc y4
    rw [hm]
    clear hm y4
    go_wp2
    all_goals
      refine bodyPost_ret (v := .agg #[.int .i32 (bitI 12 (xl, xh) (yl, yh)).1, .int .i32 (bitI 12 (xl, xh) (yl, yh)).2]) ?hr rfl ⟨rfl, ?bel⟩
      case hr =>
        simp [results, Try.results12, go_sem, c5, c6, s3]
      case bel =>
        exact Below.setCell (Below.setCell (Ext.below kB (by omega) y5) (by simp; omega) _) (by simp; omega) _


set_option maxRecDepth 100000 in
set_option maxHeartbeats 2000000 in
theorem rap_12_s (xl xh yl yh : Int) (w : World) (hx1 : -2147483648 ≤ xl) (hx2 : xl ≤ 2147483647) (hx3 : -2147483648 ≤ xh) (hx4 : xh ≤ 2147483647) (hy1 : -2147483648 ≤ yl) (hy2 : yl ≤ 2147483647) (hy3 : -2147483648 ≤ yh) (hy4 : yh ≤ 2147483647) (hxe : xl ≤ xh) (hye : yl ≤ yh) (hs : (xl == xh) = true) (hs' : (yl == yh) = false) :
    Calls Try.prog 12 #[.int .u8 12, .agg #[.int .i32 xl, .int .i32 xh], .agg #[.int .i32 yl, .int .i32 yh]] w fun e w' => e = .returned (.agg #[.int .i32 (bitI 12 (xl, xh) (yl, yh)).1, .int .i32 (bitI 12 (xl, xh) (yl, yh)).2]) ∧ Below w.heap.size w w' := by
  have d3 : decide (xh < xl) = false := by simp; omega
  have d4 : decide (yh < yl) = false := by simp; omega
  go_enter Try.func12, Try.ntmps12
  go_upto_region 10 with (first | (go_at_call 37; ((first | (with_reducible refine (Calls.extq (rempty_any _ _ _)).mono ?_) | (refine (Calls.ext (rempty_any _ _ _)).mono ?_)); rintro e _ ⟨rfl, y, rfl⟩)) | (go_at_call 39; ((first | (with_reducible refine (Calls.extq (rsingle_any _ _ _)).mono ?_) | (refine (Calls.ext (rsingle_any _ _ _)).mono ?_)); rintro e _ ⟨rfl, y, rfl⟩)))
  obtain ⟨V, hV, D⟩ := rdiv_base xl xh yl yh w y
  rw [hV]
  clear hV
  obtain ⟨kB, s1, s2, s3, c1, c2, c3, c4, c5, c6, f5, f6⟩ := D
  go_cut [9] (fun s wx => s = .bool (apartB xl xh yl yh) ∧ wx = V)
  case first =>
    by_cases ha : xh < yl
    · have HA := Lib.hid (show apartB xl xh yl yh = true by simp [apartB, ha])
      have da := decide_eq_true ha
      go_wp2_with fail
      go_meet
      exact ⟨by rw [HA.out], rfl⟩
    · have HA := Lib.hid (show apartB xl xh yl yh = decide (yh < xl) by simp [apartB, ha])
      have da := decide_eq_false ha
      go_wp2_with fail
      go_meet
      exact ⟨by rw [HA.out], rfl⟩
  case rest =>
    obtain ⟨rfl, hwc⟩ := hcut
    rw [hwc]
    clear hwc
    go_wp2_with fail
    refine (Calls.ext (rbitwise_any _ _ _ _ _ _ hx1 hx2 hx3 hx4 hy1 hy2 hy3 hy4 (by decide) (by decide) hxe hye)).mono ?_
    rintro e _ ⟨rfl, y4, rfl⟩
    obtain ⟨y5, hm⟩ := ext_alloc y4
    rw [hm]
    clear hm y4
    go_wp2
    all_goals
      refine bodyPost_ret (v := .agg #[.int .i32 (bitI 12 (xl, xh) (yl, yh)).1, .int .i32 (bitI 12 (xl, xh) (yl, yh)).2]) ?hr rfl ⟨rfl, ?bel⟩
      case hr =>
        simp [results, Try.results12, go_sem, c5, c6, s3]
      case bel =>
        exact Below.setCell (Below.setCell (Ext.below kB (by omega) y5) (by simp; omega) _) (by simp; omega) _


set_option maxRecDepth 100000 in
set_option maxHeartbeats 2000000 in
theorem rap_13_n (xl xh yl yh : Int) (w : World) (hx1 : -2147483648 ≤ xl) (hx2 : xl ≤ 2147483647) (hx3 : -2147483648 ≤ xh) (hx4 : xh ≤ 2147483647) (hy1 : -2147483648 ≤ yl) (hy2 : yl ≤ 2147483647) (hy3 : -2147483648 ≤ yh) (hy4 : yh ≤ 2147483647) (hxe : xl ≤ xh) (hye : yl ≤ yh) (hs : (xl == xh) = false) :
    Calls Try.prog 12 #[.int .u8 13, .agg #[.int .i32 xl, .int .i32 xh], .agg #[.int .i32 yl, .int .i32 yh]] w fun e w' => e = .returned (.agg #[.int .i32 (bitI 13 (xl, xh) (yl, yh)).1, .int .i32 (bitI 13 (xl, xh) (yl, yh)).2]) ∧ Below w.heap.size w w' := by
  have d3 : decide (xh < xl) = false := by simp; omega
  have d4 : decide (yh < yl) = false := by simp; omega
  go_enter Try.func12, Try.ntmps12
  go_upto_region 10 with (first | (go_at_call 37; ((first | (with_reducible refine (Calls.extq (rempty_any _ _ _)).mono ?_) | (refine (Calls.ext (rempty_any _ _ _)).mono ?_)); rintro e _ ⟨rfl, y, rfl⟩)) | (go_at_call 39; ((first | (with_reducible refine (Calls.extq (rsingle_any _ _ _)).mono ?_) | (refine (Calls.ext (rsingle_any _ _ _)).mono ?_)); rintro e _ ⟨rfl, y, rfl⟩)))
  obtain ⟨V, hV, D⟩ := rdiv_base xl xh yl yh w y
  rw [hV]
  clear hV
  obtain ⟨kB, s1, s2, s3, c1, c2, c3, c4, c5, c6, f5, f6⟩ := D
  go_cut [9] (fun s wx => s = .bool (apartB xl xh yl yh) ∧ wx = V)
  case first =>
    by_cases ha : xh < yl
    · have HA := Lib.hid (show apartB xl xh yl yh = true by simp [apartB, ha])
      have da := decide_eq_true ha
      go_wp2_with fail
      go_meet
      exact ⟨by rw [HA.out], rfl⟩
    · have HA := Lib.hid (show apartB xl xh yl yh = decide (yh < xl) by simp [apartB, ha])
      have da := decide_eq_false ha
      go_wp2_with fail
      go_meet
      exact ⟨by rw [HA.out], rfl⟩
  case rest =>
    obtain ⟨rfl, hwc⟩ := hcut
    rw [hwc]
    clear hwc
    go_wp2_with fail
    refine (Calls.ext (rbitwise_any _ _ _ _ _ _ hx1 hx2 hx3 hx4 hy1 hy2 hy3 hy4 (by decide) (by decide) hxe hye)).mono ?_
    rintro e _ ⟨rfl, y4, rfl⟩
    obtain ⟨y5, hm⟩ := ext_alloc y4
    rw [hm]
    clear hm y4
    go_wp2
    all_goals
      refine bodyPost_ret (v := .agg #[.int .i32 (bitI 13 (xl, xh) (yl, yh)).1, .int .i32 (bitI 13 (xl, xh) (yl, yh)).2]) ?hr rfl ⟨rfl, ?bel⟩
      case hr =>
        simp [results, Try.results12, go_sem, c5, c6, s3]
      case bel =>
        exact Below.setCell (Below.setCell (Ext.below kB (by omega) y5) (by simp; omega) _) (by simp; omega) _


set_option maxRecDepth 100000 in
set_option maxHeartbeats 2000000 in
theorem rap_13_s (xl xh yl yh : Int) (w : World) (hx1 : -2147483648 ≤ xl) (hx2 : xl ≤ 2147483647) (hx3 : -2147483648 ≤ xh) (hx4 : xh ≤ 2147483647) (hy1 : -2147483648 ≤ yl) (hy2 : yl ≤ 2147483647) (hy3 : -2147483648 ≤ yh) (hy4 : yh ≤ 2147483647) (hxe : xl ≤ xh) (hye : yl ≤ yh) (hs : (xl == xh) = true) (hs' : (yl == yh) = false) :
    Calls Try.prog 12 #[.int .u8 13, .agg #[.int .i32 xl, .int .i32 xh], .agg #[.int .i32 yl, .int .i32 yh]] w fun e w' => e = .returned (.agg #[.int .i32 (bitI 13 (xl, xh) (yl, yh)).1, .int .i32 (bitI 13 (xl, xh) (yl, yh)).2]) ∧ Below w.heap.size w w' := by
  have d3 : decide (xh < xl) = false := by simp; omega
  have d4 : decide (yh < yl) = false := by simp; omega
  go_enter Try.func12, Try.ntmps12
  go_upto_region 10 with (first | (go_at_call 37; ((first | (with_reducible refine (Calls.extq (rempty_any _ _ _)).mono ?_) | (refine (Calls.ext (rempty_any _ _ _)).mono ?_)); rintro e _ ⟨rfl, y, rfl⟩)) | (go_at_call 39; ((first | (with_reducible refine (Calls.extq (rsingle_any _ _ _)).mono ?_) | (refine (Calls.ext (rsingle_any _ _ _)).mono ?_)); rintro e _ ⟨rfl, y, rfl⟩)))
  obtain ⟨V, hV, D⟩ := rdiv_base xl xh yl yh w y
  rw [hV]
  clear hV
  obtain ⟨kB, s1, s2, s3, c1, c2, c3, c4, c5, c6, f5, f6⟩ := D
  go_cut [9] (fun s wx => s = .bool (apartB xl xh yl yh) ∧ wx = V)
  case first =>
    by_cases ha : xh < yl
    · have HA := Lib.hid (show apartB xl xh yl yh = true by simp [apartB, ha])
      have da := decide_eq_true ha
      go_wp2_with fail
      go_meet
      exact ⟨by rw [HA.out], rfl⟩
    · have HA := Lib.hid (show apartB xl xh yl yh = decide (yh < xl) by simp [apartB, ha])
      have da := decide_eq_false ha
      go_wp2_with fail
      go_meet
      exact ⟨by rw [HA.out], rfl⟩
  case rest =>
    obtain ⟨rfl, hwc⟩ := hcut
    rw [hwc]
    clear hwc
    go_wp2_with fail
    refine (Calls.ext (rbitwise_any _ _ _ _ _ _ hx1 hx2 hx3 hx4 hy1 hy2 hy3 hy4 (by decide) (by decide) hxe hye)).mono ?_
    rintro e _ ⟨rfl, y4, rfl⟩
    obtain ⟨y5, hm⟩ := ext_alloc y4
    rw [hm]
    clear hm y4
    go_wp2
    all_goals
      refine bodyPost_ret (v := .agg #[.int .i32 (bitI 13 (xl, xh) (yl, yh)).1, .int .i32 (bitI 13 (xl, xh) (yl, yh)).2]) ?hr rfl ⟨rfl, ?bel⟩
      case hr =>
        simp [results, Try.results12, go_sem, c5, c6, s3]
      case bel =>
        exact Below.setCell (Below.setCell (Ext.below kB (by omega) y5) (by simp; omega) _) (by simp; omega) _


set_option maxRecDepth 100000 in
set_option maxHeartbeats 2000000 in
theorem rap_14_n (xl xh yl yh : Int) (w : World) (hx1 : -2147483648 ≤ xl) (hx2 : xl ≤ 2147483647) (hx3 : -2147483648 ≤ xh) (hx4 : xh ≤ 2147483647) (hy1 : -2147483648 ≤ yl) (hy2 : yl ≤ 2147483647) (hy3 : -2147483648 ≤ yh) (hy4 : yh ≤ 2147483647) (hxe : xl ≤ xh) (hye : yl ≤ yh) (hs : (xl == xh) = false) :
    Calls Try.prog 12 #[.int .u8 14, .agg #[.int .i32 xl, .int .i32 xh], .agg #[.int .i32 yl, .int .i32 yh]] w fun e w' => e = .returned (.agg #[.int .i32 (shI 14 (xl, xh) (yl, yh)).1, .int .i32 (shI 14 (xl, xh) (yl, yh)).2]) ∧ Below w.heap.size w w' := by
  have d3 : decide (xh < xl) = false := by simp; omega
  have d4 : decide (yh < yl) = false := by simp; omega
  go_enter Try.func12, Try.ntmps12
  go_upto_region 10 with (first | (go_at_call 37; ((first | (with_reducible refine (Calls.extq (rempty_any _ _ _)).mono ?_) | (refine (Calls.ext (rempty_any _ _ _)).mono ?_)); rintro e _ ⟨rfl, y, rfl⟩)) | (go_at_call 39; ((first | (with_reducible refine (Calls.extq (rsingle_any _ _ _)).mono ?_) | (refine (Calls.ext (rsingle_any _ _ _)).mono ?_)); rintro e _ ⟨rfl, y, rfl⟩)))
  obtain ⟨V, hV, D⟩ := rdiv_base xl xh yl yh w y
  rw [hV]
  clear hV
  obtain ⟨kB, s1, s2, s3, c1, c2, c3, c4, c5, c6, f5, f6⟩ := D
  go_cut [9] (fun s wx => s = .bool (apartB xl xh yl yh) ∧ wx = V)
  case first =>
    by_cases ha : xh < yl
    · have HA := Lib.hid (show apartB xl xh yl yh = true by simp [apartB, ha])
      have da := decide_eq_true ha
      go_wp2_with fail
      go_meet
      exact ⟨by rw [HA.out], rfl⟩
    · have HA := Lib.hid (show apartB xl xh yl yh = decide (yh < xl) by simp [apartB, ha])
      have da := decide_eq_false ha
      go_wp2_with fail
      go_meet
      exact ⟨by rw [HA.out], rfl⟩
  case rest =>
    obtain ⟨rfl, hwc⟩ := hcut
    rw [hwc]
    clear hwc
    go_wp2_with fail
    refine (Calls.ext (rshift_any _ _ _ _ _ _ hx1 hx2 hx3 hx4 hy1 hy2 hy3 hy4 (by decide) (by decide))).mono ?_
    rintro e _ ⟨rfl, y4, rfl⟩
    obtain ⟨y5, hm⟩ := ext_alloc y4
    rw [hm]
    clear hm y4
    go_wp2
    all_goals
      refine bodyPost_ret (v := .agg #[.int .i32 (shI 14 (xl, xh) (yl, yh)).1, .int .i32 (shI 14 (xl, xh) (yl, yh)).2]) ?hr rfl ⟨rfl, ?bel⟩
      case hr =>
        simp [results, Try.results12, go_sem, c5, c6, s3]
      case bel =>
        exact Below.setCell (Below.setCell (Ext.below kB (by omega) y5) (by simp; omega) _) (by simp; omega) _


set_option maxRecDepth 100000 in
set_option maxHeartbeats 2000000 in
theorem rap_14_s (xl xh yl yh : Int) (w : World) (hx1 : -2147483648 ≤ xl) (hx2 : xl ≤ 2147483647) (hx3 : -2147483648 ≤ xh) (hx4 : xh ≤ 2147483647) (hy1 : -2147483648 ≤ yl) (hy2 : yl ≤ 2147483647) (hy3 : -2147483648 ≤ yh) (hy4 : yh ≤ 2147483647) (hxe : xl ≤ xh) (hye : yl ≤ yh) (hs : (xl == xh) = true) (hs' : (yl == yh) = false) :
    Calls Try.prog 12 #[.int .u8 14, .agg #[.int .i32 xl, .int .i32 xh], .agg #[.int .i32 yl, .int .i32 yh]] w fun e w' => e = .returned (.agg #[.int .i32 (shI 14 (xl, xh) (yl, yh)).1, .int .i32 (shI 14 (xl, xh) (yl, yh)).2]) ∧ Below w.heap.size w w' := by
  have d3 : decide (xh < xl) = false := by simp; omega
  have d4 : decide (yh < yl) = false := by simp; omega
  go_enter Try.func12, Try.ntmps12
  go_upto_region 10 with (first | (go_at_call 37; ((first | (with_reducible refine (Calls.extq (rempty_any _ _ _)).mono ?_) | (refine (Calls.ext (rempty_any _ _ _)).mono ?_)); rintro e _ ⟨rfl, y, rfl⟩)) | (go_at_call 39; ((first | (with_reducible refine (Calls.extq (rsingle_any _ _ _)).mono ?_) | (refine (Calls.ext (rsingle_any _ _ _)).mono ?_)); rintro e _ ⟨rfl, y, rfl⟩)))
  obtain ⟨V, hV, D⟩ := rdiv_base xl xh yl yh w y
  rw [hV]
  clear hV
  obtain ⟨kB, s1, s2, s3, c1, c2, c3, c4, c5, c6, f5, f6⟩ := D
  go_cut [9] (fun s wx => s = .bool (apartB xl xh yl yh) ∧ wx = V)
  case first =>
    by_cases ha : xh < yl
    · have HA := Lib.hid (show apartB xl xh yl yh = true by simp [apartB, ha])
      have da := decide_eq_true ha
      go_wp2_with fail
      go_meet
      exact ⟨by rw [HA.out], rfl⟩
    · have HA := Lib.hid (show apartB xl xh yl yh = decide (yh < xl) by simp [apartB, ha])
      have da := decide_eq_false ha
      go_wp2_with fail
      go_meet
      exact ⟨by rw [HA.out], rfl⟩
  case rest =>
    obtain ⟨rfl, hwc⟩ := hcut
    rw [hwc]
    clear hwc
    go_wp2_with fail
    refine (Calls.ext (rshift_any _ _ _ _ _ _ hx1 hx2 hx3 hx4 hy1 hy2 hy3 hy4 (by decide) (by decide))).mono ?_
    rintro e _ ⟨rfl, y4, rfl⟩
    obtain ⟨y5, hm⟩ := ext_alloc y4
    rw [hm]
    clear hm y4
    go_wp2
    all_goals
      refine bodyPost_ret (v := .agg #[.int .i32 (shI 14 (xl, xh) (yl, yh)).1, .int .i32 (shI 14 (xl, xh) (yl, yh)).2]) ?hr rfl ⟨rfl, ?bel⟩
      case hr =>
        simp [results, Try.results12, go_sem, c5, c6, s3]
      case bel =>
        exact Below.setCell (Below.setCell (Ext.below kB (by omega) y5) (by simp; omega) _) (by simp; omega) _


set_option maxRecDepth 100000 in
set_option maxHeartbeats 2000000 in
theorem rap_15_n (xl xh yl yh : Int) (w : World) (hx1 : -2147483648 ≤ xl) (hx2 : xl ≤ 2147483647) (hx3 : -2147483648 ≤ xh) (hx4 : xh ≤ 2147483647) (hy1 : -2147483648 ≤ yl) (hy2 : yl ≤ 2147483647) (hy3 : -2147483648 ≤ yh) (hy4 : yh ≤ 2147483647) (hxe : xl ≤ xh) (hye : yl ≤ yh) (hs : (xl == xh) = false) :
    Calls Try.prog 12 #[.int .u8 15, .agg #[.int .i32 xl, .int .i32 xh], .agg #[.int .i32 yl, .int .i32 yh]] w fun e w' => e = .returned (.agg #[.int .i32 (shI 15 (xl, xh) (yl, yh)).1, .int .i32 (shI 15 (xl, xh) (yl, yh)).2]) ∧ Below w.heap.size w w' := by
  have d3 : decide (xh < xl) = false := by simp; omega
  have d4 : decide (yh < yl) = false := by simp; omega
  go_enter Try.func12, Try.ntmps12
  go_upto_region 10 with (first | (go_at_call 37; ((first | (with_reducible refine (Calls.extq (rempty_any _ _ _)).mono ?_) | (refine (Calls.ext (rempty_any _ _ _)).mono ?_)); rintro e _ ⟨rfl, y, rfl⟩)) | (go_at_call 39; ((first | (with_reducible refine (Calls.extq (rsingle_any _ _ _)).mono ?_) | (refine (Calls.ext (rsingle_any _ _ _)).mono ?_)); rintro e _ ⟨rfl, y, rfl⟩)))
  obtain ⟨V, hV, D⟩ := rdiv_base xl xh yl yh w y
  rw [hV]
  clear hV
  obtain ⟨kB, s1, s2, s3, c1, c2, c3, c4, c5, c6, f5, f6⟩ := D
  go_cut [9] (fun s wx => s = .bool (apartB xl xh yl yh) ∧ wx = V)
  case first =>
    by_cases ha : xh < yl
    · have HA := Lib.hid (show apartB xl xh yl yh = true by simp [apartB, ha])
      have da := decide_eq_true ha
      go_wp2_with fail
      go_meet
      exact ⟨by rw [HA.out], rfl⟩
    · have HA := Lib.hid (show apartB xl xh yl yh = decide (yh < xl) by simp [apartB, ha])
      have da := decide_eq_false ha
      go_wp2_with fail
      go_meet
      exact ⟨by rw [HA.out], rfl⟩
  case rest =>
    obtain ⟨rfl, hwc⟩ := hcut
    rw [hwc]
    clear hwc
    go_wp2_with fail
    refine (Calls.ext (rshift_any _ _ _ _ _ _ hx1 hx2 hx3 hx4 hy1 hy2 hy3 hy4 (by decide) (by decide))).mono ?_
    rintro e _ ⟨rfl, y4, rfl⟩
    obtain ⟨y5, hm⟩ := ext_alloc y4
    rw [hm]
    clear hm y4
    go_wp2
    all_goals
      refine bodyPost_ret (v := .agg #[.int .i32 (shI 15 (xl, xh) (yl, yh)).1, .int .i32 (shI 15 (xl, xh) (yl, yh)).2]) ?hr rfl ⟨rfl, ?bel⟩
      case hr =>
        simp [results, Try.results12, go_sem, c5, c6, s3]
      case bel =>
        exact Below.setCell (Below.setCell (Ext.below kB (by omega) y5) (by simp; omega) _) (by simp; omega) _


set_option maxRecDepth 100000 in
set_option maxHeartbeats 2000000 in
theorem rap_15_s (xl xh yl yh : Int) (w : World) (hx1 : -2147483648 ≤ xl) (hx2 : xl ≤ 2147483647) (hx3 : -2147483648 ≤ xh) (hx4 : xh ≤ 2147483647) (hy1 : -2147483648 ≤ yl) (hy2 : yl ≤ 2147483647) (hy3 : -2147483648 ≤ yh) (hy4 : yh ≤ 2147483647) (hxe : xl ≤ xh) (hye : yl ≤ yh) (hs : (xl == xh) = true) (hs' : (yl == yh) = false) :
    Calls Try.prog 12 #[.int .u8 15, .agg #[.int .i32 xl, .int .i32 xh], .agg #[.int .i32 yl, .int .i32 yh]] w fun e w' => e = .returned (.agg #[.int .i32 (shI 15 (xl, xh) (yl, yh)).1, .int .i32 (shI 15 (xl, xh) (yl, yh)).2]) ∧ Below w.heap.size w w' := by
  have d3 : decide (xh < xl) = false := by simp; omega
  have d4 : decide (yh < yl) = false := by simp; omega
  go_enter Try.func12, Try.ntmps12
  go_upto_region 10 with (first | (go_at_call 37; ((first | (with_reducible refine (Calls.extq (rempty_any _ _ _)).mono ?_) | (refine (Calls.ext (rempty_any _ _ _)).mono ?_)); rintro e _ ⟨rfl, y, rfl⟩)) | (go_at_call 39; ((first | (with_reducible refine (Calls.extq (rsingle_any _ _ _)).mono ?_) | (refine (Calls.ext (rsingle_any _ _ _)).mono ?_)); rintro e _ ⟨rfl, y, rfl⟩)))
  obtain ⟨V, hV, D⟩ := rdiv_base xl xh yl yh w y
  rw [hV]
  clear hV
  obtain ⟨kB, s1, s2, s3, c1, c2, c3, c4, c5, c6, f5, f6⟩ := D
  go_cut [9] (fun s wx => s = .bool (apartB xl xh yl yh) ∧ wx = V)
  case first =>
    by_cases ha : xh < yl
    · have HA := Lib.hid (show apartB xl xh yl yh = true by simp [apartB, ha])
      have da := decide_eq_true ha
      go_wp2_with fail
      go_meet
      exact ⟨by rw [HA.out], rfl⟩
    · have HA := Lib.hid (show apartB xl xh yl yh = decide (yh < xl) by simp [apartB, ha])
      have da := decide_eq_false ha
      go_wp2_with fail
      go_meet
      exact ⟨by rw [HA.out], rfl⟩
  case rest =>
    obtain ⟨rfl, hwc⟩ := hcut
    rw [hwc]
    clear hwc
    go_wp2_with fail
    refine (Calls.ext (rshift_any _ _ _ _ _ _ hx1 hx2 hx3 hx4 hy1 hy2 hy3 hy4 (by decide) (by decide))).mono ?_
    rintro e _ ⟨rfl, y4, rfl⟩
    obtain ⟨y5, hm⟩ := ext_alloc y4
    rw [hm]
    clear hm y4
    go_wp2
    all_goals
      refine bodyPost_ret (v := .agg #[.int .i32 (shI 15 (xl, xh) (yl, yh)).1, .int .i32 (shI 15 (xl, xh) (yl, yh)).2]) ?hr rfl ⟨rfl, ?bel⟩
      case hr =>
        simp [results, Try.results12, go_sem, c5, c6, s3]
      case bel =>
        exact Below.setCell (Below.setCell (Ext.below kB (by omega) y5) (by simp; omega) _) (by simp; omega) _


set_option maxRecDepth 100000 in
set_option maxHeartbeats 2000000 in
theorem rap_16_n (xl xh yl yh : Int) (w : World) (hx1 : -2147483648 ≤ xl) (hx2 : xl ≤ 2147483647) (hx3 : -2147483648 ≤ xh) (hx4 : xh ≤ 2147483647) (hy1 : -2147483648 ≤ yl) (hy2 : yl ≤ 2147483647) (hy3 : -2147483648 ≤ yh) (hy4 : yh ≤ 2147483647) (hxe : xl ≤ xh) (hye : yl ≤ yh) (hs : (xl == xh) = false) :
    Calls Try.prog 12 #[.int .u8 16, .agg #[.int .i32 xl, .int .i32 xh], .agg #[.int .i32 yl, .int .i32 yh]] w fun e w' => e = .returned (.agg #[.int .i32 (trI false (apartB xl xh yl yh)).1, .int .i32 (trI false (apartB xl xh yl yh)).2]) ∧ Below w.heap.size w w' := by
  have d3 : decide (xh < xl) = false := by simp; omega
  have d4 : decide (yh < yl) = false := by simp; omega
  go_enter Try.func12, Try.ntmps12
  go_upto_region 10 with (first | (go_at_call 37; ((first | (with_reducible refine (Calls.extq (rempty_any _ _ _)).mono ?_) | (refine (Calls.ext (rempty_any _ _ _)).mono ?_)); rintro e _ ⟨rfl, y, rfl⟩)) | (go_at_call 39; ((first | (with_reducible refine (Calls.extq (rsingle_any _ _ _)).mono ?_) | (refine (Calls.ext (rsingle_any _ _ _)).mono ?_)); rintro e _ ⟨rfl, y, rfl⟩)))
  obtain ⟨V, hV, D⟩ := rdiv_base xl xh yl yh w y
  rw [hV]
  clear hV
  obtain ⟨kB, s1, s2, s3, c1, c2, c3, c4, c5, c6, f5, f6⟩ := D
  go_cut [9] (fun s wx => s = .bool (apartB xl xh yl yh) ∧ wx = V)
  case first =>
    by_cases ha : xh < yl
    · have HA := Lib.hid (show apartB xl xh yl yh = true by simp [apartB, ha])
      have da := decide_eq_true ha
      go_wp2_with fail
      go_meet
      exact ⟨by rw [HA.out], rfl⟩
    · have HA := Lib.hid (show apartB xl xh yl yh = decide (yh < xl) by simp [apartB, ha])
      have da := decide_eq_false ha
      go_wp2_with fail
      go_meet
      exact ⟨by rw [HA.out], rfl⟩
  case rest =>
    obtain ⟨rfl, hwc⟩ := hcut
    rw [hwc]
    clear hwc
    go_wp2_with fail
    refine (Calls.ext (rtr_any _ _ _)).mono ?_
    rintro e _ ⟨rfl, y4, rfl⟩
    obtain ⟨y5, hm⟩ := ext_alloc y4
    rw [hm]
    clear hm y4
    go_wp2
    all_goals
      refine bodyPost_ret (v := .agg #[.int .i32 (trI false (apartB xl xh yl yh)).1, .int .i32 (trI false (apartB xl xh yl yh)).2]) ?hr rfl ⟨rfl, ?bel⟩
      case hr =>
        simp [results, Try.results12, go_sem, c5, c6, s3]
      case bel =>
        exact Below.setCell (Below.setCell (Ext.below kB (by omega) y5) (by simp; omega) _) (by simp; omega) _


set_option maxRecDepth 100000 in
set_option maxHeartbeats 2000000 in
theorem rap_16_s (xl xh yl yh : Int) (w : World) (hx1 : -2147483648 ≤ xl) (hx2 : xl ≤ 2147483647) (hx3 : -2147483648 ≤ xh) (hx4 : xh ≤ 2147483647) (hy1 : -2147483648 ≤ yl) (hy2 : yl ≤ 2147483647) (hy3 : -2147483648 ≤ yh) (hy4 : yh ≤ 2147483647) (hxe : xl ≤ xh) (hye : yl ≤ yh) (hs : (xl == xh) = true) (hs' : (yl == yh) = false) :
    Calls Try.prog 12 #[.int .u8 16, .agg #[.int .i32 xl, .int .i32 xh], .agg #[.int .i32 yl, .int .i32 yh]] w fun e w' => e = .returned (.agg #[.int .i32 (trI false (apartB xl xh yl yh)).1, .int .i32 (trI false (apartB xl xh yl yh)).2]) ∧ Below w.heap.size w w' := by
  have d3 : decide (xh < xl) = false := by simp; omega
  have d4 : decide (yh < yl) = false := by simp; omega
  go_enter Try.func12, Try.ntmps12
  go_upto_region 10 with (first | (go_at_call 37; ((first | (with_reducible refine (Calls.extq (rempty_any _ _ _)).mono ?_) | (refine (Calls.ext (rempty_any _ _ _)).mono ?_)); rintro e _ ⟨rfl, y, rfl⟩)) | (go_at_call 39; ((first | (with_reducible refine (Calls.extq (rsingle_any _ _ _)).mono ?_) | (refine (Calls.ext (rsingle_any _ _ _)).mono ?_)); rintro e _ ⟨rfl, y, rfl⟩)))
  obtain ⟨V, hV, D⟩ := rdiv_base xl xh yl yh w y
  rw [hV]
  clear hV
  obtain ⟨kB, s1, s2, s3, c1, c2, c3, c4, c5, c6, f5, f6⟩ := D
  go_cut [9] (fun s wx => s = .bool (apartB xl xh yl yh) ∧ wx = V)
  case first =>
    by_cases ha : xh < yl
    · have HA := Lib.hid (show apartB xl xh yl yh = true by simp [apartB, ha])
      have da := decide_eq_true ha
      go_wp2_with fail
      go_meet
      exact ⟨by rw [HA.out], rfl⟩
    · have HA := Lib.hid (show apartB xl xh yl yh = decide (yh < xl) by simp [apartB, ha])
      have da := decide_eq_false ha
      go_wp2_with fail
      go_meet
      exact ⟨by rw [HA.out], rfl⟩
  case rest =>
    obtain ⟨rfl, hwc⟩ := hcut
    rw [hwc]
    clear hwc
    go_wp2_with fail
    refine (Calls.ext (rtr_any _ _ _)).mono ?_
    rintro e _ ⟨rfl, y4, rfl⟩
    obtain ⟨y5, hm⟩ := ext_alloc y4
    rw [hm]
    clear hm y4
    go_wp2
    all_goals
      refine bodyPost_ret (v := .agg #[.int .i32 (trI false (apartB xl xh yl yh)).1, .int .i32 (trI false (apartB xl xh yl yh)).2]) ?hr rfl ⟨rfl, ?bel⟩
      case hr =>
        simp [results, Try.results12, go_sem, c5, c6, s3]
      case bel =>
        exact Below.setCell (Below.setCell (Ext.below kB (by omega) y5) (by simp; omega) _) (by simp; omega) _


set_option maxRecDepth 100000 in
set_option maxHeartbeats 2000000 in
theorem rap_17_n (xl xh yl yh : Int) (w : World) (hx1 : -2147483648 ≤ xl) (hx2 : xl ≤ 2147483647) (hx3 : -2147483648 ≤ xh) (hx4 : xh ≤ 2147483647) (hy1 : -2147483648 ≤ yl) (hy2 : yl ≤ 2147483647) (hy3 : -2147483648 ≤ yh) (hy4 : yh ≤ 2147483647) (hxe : xl ≤ xh) (hye : yl ≤ yh) (hs : (xl == xh) = false) :
    Calls Try.prog 12 #[.int .u8 17, .agg #[.int .i32 xl, .int .i32 xh], .agg #[.int .i32 yl, .int .i32 yh]] w fun e w' => e = .returned (.agg #[.int .i32 (trI (apartB xl xh yl yh) false).1, .int .i32 (trI (apartB xl xh yl yh) false).2]) ∧ Below w.heap.size w w' := by
  have d3 : decide (xh < xl) = false := by simp; omega
  have d4 : decide (yh < yl) = false := by simp; omega
  go_enter Try.func12, Try.ntmps12
  go_upto_region 10 with (first | (go_at_call 37; ((first | (with_reducible refine (Calls.extq (rempty_any _ _ _)).mono ?_) | (refine (Calls.ext (rempty_any _ _ _)).mono ?_)); rintro e _ ⟨rfl, y, rfl⟩)) | (go_at_call 39; ((first | (with_reducible refine (Calls.extq (rsingle_any _ _ _)).mono ?_) | (refine (Calls.ext (rsingle_any _ _ _)).mono ?_)); rintro e _ ⟨rfl, y, rfl⟩)))
  obtain ⟨V, hV, D⟩ := rdiv_base xl xh yl yh w y
  rw [hV]
  clear hV
  obtain ⟨kB, s1, s2, s3, c1, c2, c3, c4, c5, c6, f5, f6⟩ := D
  go_cut [9] (fun s wx => s = .bool (apartB xl xh yl yh) ∧ wx = V)
  case first =>
    by_cases ha : xh < yl
    · have HA := Lib.hid (show apartB xl xh yl yh = true by simp [apartB, ha])
      have da := decide_eq_true ha
      go_wp2_with fail
      go_meet
      exact ⟨by rw [HA.out], rfl⟩
    · have HA := Lib.hid (show apartB xl xh yl yh = decide (yh < xl) by simp [apartB, ha])
      have da := decide_eq_false ha
      go_wp2_with fail
      go_meet
      exact ⟨by rw [HA.out], rfl⟩
  case rest =>
    obtain ⟨rfl, hwc⟩ := hcut
    rw [hwc]
    clear hwc
    go_wp2_with fail
    refine (Calls.ext (rtr_any _ _ _)).mono ?_
    rintro e _ ⟨rfl, y4, rfl⟩
    obtain ⟨y5, hm⟩ := ext_alloc y4
    rw [hm]
    clear hm y4
    go_wp2
    all_goals
      refine bodyPost_ret (v := .agg #[.int .i32 (trI (apartB xl xh yl yh) false).1, .int .i32 (trI (apartB xl xh yl yh) false).2]) ?hr rfl ⟨rfl, ?bel⟩
      case hr =>
        simp [results, Try.results12, go_sem, c5, c6, s3]
      case bel =>
        exact Below.setCell (Below.setCell (Ext.below kB (by omega) y5) (by simp; omega) _) (by simp; omega) _


set_option maxRecDepth 100000 in
set_option maxHeartbeats 2000000 in
theorem rap_17_s (xl xh yl yh : Int) (w : World) (hx1 : -2147483648 ≤ xl) (hx2 : xl ≤ 2147483647) (hx3 : -2147483648 ≤ xh) (hx4 : xh ≤ 2147483647) (hy1 : -2147483648 ≤ yl) (hy2 : yl ≤ 2147483647) (hy3 : -2147483648 ≤ yh) (hy4 : yh ≤ 2147483647) (hxe : xl ≤ xh) (hye : yl ≤ yh) (hs : (xl == xh) = true) (hs' : (yl == yh) = false) :
    Calls Try.prog 12 #[.int .u8 17, .agg #[.int .i32 xl, .int .i32 xh], .agg #[.int .i32 yl, .int .i32 yh]] w fun e w' => e = .returned (.agg #[.int .i32 (trI (apartB xl xh yl yh) false).1, .int .i32 (trI (apartB xl xh yl yh) false).2]) ∧ Below w.heap.size w w' := by
  have d3 : decide (xh < xl) = false := by simp; omega
  have d4 : decide (yh < yl) = false := by simp; omega
  go_enter Try.func12, Try.ntmps12
  go_upto_region 10 with (first | (go_at_call 37; ((first | (with_reducible refine (Calls.extq (rempty_any _ _ _)).mono ?_) | (refine (Calls.ext (rempty_any _ _ _)).mono ?_)); rintro e _ ⟨rfl, y, rfl⟩)) | (go_at_call 39; ((first | (with_reducible refine (Calls.extq (rsingle_any _ _ _)).mono ?_) | (refine (Calls.ext (rsingle_any _ _ _)).mono ?_)); rintro e _ ⟨rfl, y, rfl⟩)))
  obtain ⟨V, hV, D⟩ := rdiv_base xl xh yl yh w y
  rw [hV]
  clear hV
  obtain ⟨kB, s1, s2, s3, c1, c2, c3, c4, c5, c6, f5, f6⟩ := D
  go_cut [9] (fun s wx => s = .bool (apartB xl xh yl yh) ∧ wx = V)
  case first =>
    by_cases ha : xh < yl
    · have HA := Lib.hid (show apartB xl xh yl yh = true by simp [apartB, ha])
      have da := decide_eq_true ha
      go_wp2_with fail
      go_meet
      exact ⟨by rw [HA.out], rfl⟩
    · have HA := Lib.hid (show apartB xl xh yl yh = decide (yh < xl) by simp [apartB, ha])
      have da := decide_eq_false ha
      go_wp2_with fail
      go_meet
      exact ⟨by rw [HA.out], rfl⟩
  case rest =>
    obtain ⟨rfl, hwc⟩ := hcut
    rw [hwc]
    clear hwc
    go_wp2_with fail
    refine (Calls.ext (rtr_any _ _ _)).mono ?_
    rintro e _ ⟨rfl, y4, rfl⟩
    obtain ⟨y5, hm⟩ := ext_alloc y4
    rw [hm]
    clear hm y4
    go_wp2
    all_goals
      refine bodyPost_ret (v := .agg #[.int .i32 (trI (apartB xl xh yl yh) false).1, .int .i32 (trI (apartB xl xh yl yh) false).2]) ?hr rfl ⟨rfl, ?bel⟩
      case hr =>
        simp [results, Try.results12, go_sem, c5, c6, s3]
      case bel =>
        exact Below.setCell (Below.setCell (Ext.below kB (by omega) y5) (by simp; omega) _) (by simp; omega) _


end Go.Proofs.Ytjkjcnamlankoaa
