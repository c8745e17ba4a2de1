/-
  What is proved here: parts vRapB.
-/
import Derived.Test.YtebklpnkcicpjaaGreatDoorXa
import Derived.Test.YtebklpnkcicpjaaGreatDoorXq
import Derived.Deep.DeepCutAuto
namespace Go.Proofs.YtebklpnkcicpjaaGreatDoor
set_option linter.unusedVariables false
set_option linter.unusedSimpArgs false
set_option maxRecDepth 100000
set_option maxHeartbeats 8000000
section
open Go.RowKit
theorem C6 (op xl xh yl yh : Int) (A N : Bool) (w : World) (hop : (op = 16 ∧ A = false ∧ N = bJ xl xh yl yh) ∨ (op = 17 ∧ A = bJ xl xh yl yh ∧ N = false) ∨ (op = 18 ∧ A = decide (xh < yl) ∧ N = decide (yh ≤ xl)) ∨ (op = 19 ∧ A = decide (xh ≤ yl) ∧ N = decide (yh < xl)) ∨ (op = 20 ∧ A = decide (yh < xl) ∧ N = decide (xh ≤ yl)) ∨ (op = 21 ∧ A = decide (yh ≤ xl) ∧ N = decide (xh < yl))) (hx1 : -2147483648 ≤ xl) (hx2 : xl ≤ 2147483647) (hx3 : -2147483648 ≤ xh) (hx4 : xh ≤ 2147483647) (hy1 : -2147483648 ≤ yl) (hy2 : yl ≤ 2147483647) (hy3 : -2147483648 ≤ yh) (hy4 : yh ≤ 2147483647) (gY : xl ≤ xh) (gL : yl ≤ yh) (hs : (xl == xh) = false) :
  Calls Tryz.prog 43 #[.int .u8 op, .agg #[.int .i32 xl, .int .i32 xh], .agg #[.int .i32 yl, .int .i32 yh]] w fun e w' => e = .returned (.agg #[.int .i32 (eD A N).1, .int .i32 (eD A N).2]) ∧ Below w.heap.size w w' := by
 have d3 : decide (xh < xl) = false := by simp; omega
 have d4 : decide (yh < yl) = false := by simp; omega
 rcases hop with ⟨rfl, rfl, rfl⟩ | ⟨rfl, rfl, rfl⟩ | ⟨rfl, rfl, rfl⟩ | ⟨rfl, rfl, rfl⟩ | ⟨rfl, rfl, rfl⟩ | ⟨rfl, rfl, rfl⟩
 all_goals
  go_enter Tryz.func43, Tryz.ntmps43
  go_upto_region 10 with (first | (go_at_call 83; ((first | (with_reducible refine (Calls.ay (bP _ _ _)).mono ?_) | (refine (Calls.ext (bP _ _ _)).mono ?_)); rintro e _ ⟨rfl, y, rfl⟩)) | (go_at_call 84; ((first | (with_reducible refine (Calls.ay (aY _ _ _)).mono ?_) | (refine (Calls.ext (aY _ _ _)).mono ?_)); rintro e _ ⟨rfl, y, rfl⟩)))
  obtain ⟨V, hV, D⟩ := dR xl xh yl yh w y
  rw [hV]
  clear hV
  obtain ⟨kB, s1, s2, s3, c1, c2, c3, c4, c5, c6, f5, f6⟩ := D
  go_cut [9] (fun s wx => s = .bool (bJ xl xh yl yh) ∧ wx = V)
  case first =>
   by_cases ha : xh < yl
   ·have HA := acD (show bJ xl xh yl yh = true by simp [bJ, ha])
    have da := decide_eq_true ha
    go_wp2_with fail
    go_meet
    exact ⟨by rw [HA.out], rfl⟩
   ·have HA := acD (show bJ xl xh yl yh = decide (yh < xl) by simp [bJ, ha])
    have da := decide_eq_false ha
    go_wp2_with fail
    go_meet
    exact ⟨by rw [HA.out], rfl⟩
  case rest =>
   obtain ⟨rfl, hwc⟩ := hcut
   rw [hwc]
   clear hwc
   as_aux_lemma =>
    go_wp2_with fail
    refine (Calls.ext (qw _ _ _)).mono ?_
    rintro e _ ⟨rfl, y4, rfl⟩
    obtain ⟨y5, hm⟩ := jD y4
    rw [hm]
    clear hm y4
    go_wp2
    all_goals
     refine bodyPost_ret (v := _) ?hr rfl ⟨rfl, ?aF⟩
     case hr =>
      simp [results, Tryz.results43, go_sem, c5, c6, s3]
     case aF =>
      exact Below.setCell (Below.setCell (Ext.below kB abo y5) abA _) abA _
theorem C5 (op xl xh yl yh : Int) (A N : Bool) (w : World) (hop : (op = 16 ∧ A = false ∧ N = bJ xl xh yl yh) ∨ (op = 17 ∧ A = bJ xl xh yl yh ∧ N = false) ∨ (op = 18 ∧ A = decide (xh < yl) ∧ N = decide (yh ≤ xl)) ∨ (op = 19 ∧ A = decide (xh ≤ yl) ∧ N = decide (yh < xl)) ∨ (op = 20 ∧ A = decide (yh < xl) ∧ N = decide (xh ≤ yl)) ∨ (op = 21 ∧ A = decide (yh ≤ xl) ∧ N = decide (xh < yl))) (hx1 : -2147483648 ≤ xl) (hx2 : xl ≤ 2147483647) (hx3 : -2147483648 ≤ xh) (hx4 : xh ≤ 2147483647) (hy1 : -2147483648 ≤ yl) (hy2 : yl ≤ 2147483647) (hy3 : -2147483648 ≤ yh) (hy4 : yh ≤ 2147483647) (gY : xl ≤ xh) (gL : yl ≤ yh) (hs : (xl == xh) = true) (hs' : (yl == yh) = false) :
  Calls Tryz.prog 43 #[.int .u8 op, .agg #[.int .i32 xl, .int .i32 xh], .agg #[.int .i32 yl, .int .i32 yh]] w fun e w' => e = .returned (.agg #[.int .i32 (eD A N).1, .int .i32 (eD A N).2]) ∧ Below w.heap.size w w' := by
 have d3 : decide (xh < xl) = false := by simp; omega
 have d4 : decide (yh < yl) = false := by simp; omega
 rcases hop with ⟨rfl, rfl, rfl⟩ | ⟨rfl, rfl, rfl⟩ | ⟨rfl, rfl, rfl⟩ | ⟨rfl, rfl, rfl⟩ | ⟨rfl, rfl, rfl⟩ | ⟨rfl, rfl, rfl⟩
 all_goals
  go_enter Tryz.func43, Tryz.ntmps43
  go_upto_region 10 with (first | (go_at_call 83; ((first | (with_reducible refine (Calls.ay (bP _ _ _)).mono ?_) | (refine (Calls.ext (bP _ _ _)).mono ?_)); rintro e _ ⟨rfl, y, rfl⟩)) | (go_at_call 84; ((first | (with_reducible refine (Calls.ay (aY _ _ _)).mono ?_) | (refine (Calls.ext (aY _ _ _)).mono ?_)); rintro e _ ⟨rfl, y, rfl⟩)))
  obtain ⟨V, hV, D⟩ := dR xl xh yl yh w y
  rw [hV]
  clear hV
  obtain ⟨kB, s1, s2, s3, c1, c2, c3, c4, c5, c6, f5, f6⟩ := D
  go_cut [9] (fun s wx => s = .bool (bJ xl xh yl yh) ∧ wx = V)
  case first =>
   by_cases ha : xh < yl
   ·have HA := acD (show bJ xl xh yl yh = true by simp [bJ, ha])
    have da := decide_eq_true ha
    go_wp2_with fail
    go_meet
    exact ⟨by rw [HA.out], rfl⟩
   ·have HA := acD (show bJ xl xh yl yh = decide (yh < xl) by simp [bJ, ha])
    have da := decide_eq_false ha
    go_wp2_with fail
    go_meet
    exact ⟨by rw [HA.out], rfl⟩
  case rest =>
   obtain ⟨rfl, hwc⟩ := hcut
   rw [hwc]
   clear hwc
   as_aux_lemma =>
    go_wp2_with fail
    refine (Calls.ext (qw _ _ _)).mono ?_
    rintro e _ ⟨rfl, y4, rfl⟩
    obtain ⟨y5, hm⟩ := jD y4
    rw [hm]
    clear hm y4
    go_wp2
    all_goals
     refine bodyPost_ret (v := _) ?hr rfl ⟨rfl, ?aF⟩
     case hr =>
      simp [results, Tryz.results43, go_sem, c5, c6, s3]
     case aF =>
      exact Below.setCell (Below.setCell (Ext.below kB abo y5) abA _) abA _
end
end Go.Proofs.YtebklpnkcicpjaaGreatDoor
