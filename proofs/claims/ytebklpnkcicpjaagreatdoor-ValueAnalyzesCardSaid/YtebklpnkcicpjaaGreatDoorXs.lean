/-
  What is proved here: parts vRapC.
-/
import Derived.Test.YtebklpnkcicpjaaGreatDoorXa
import Derived.Test.YtebklpnkcicpjaaGreatDoorXq
import Derived.Deep.DeepCutAuto
namespace Go.Proofs.YtebklpnkcicpjaaGreatDoor
set_option linter.unusedVariables false
set_option linter.unusedSimpArgs false
set_option maxRecDepth 100000
set_option maxHeartbeats 8000000
section
open Go.RowKit
theorem zB (op xl xh yl yh zl zh : Int) (g : FuncId) (qE : Array Value) (nz : Bool) (w : World) (NV : (yl == 0 && yh == 0) = nz) (hop : (op = 9 ∧ g = 88 ∧ qE = #[.agg #[.int .i32 xl, .int .i32 xh], .agg #[.int .i32 yl, .int .i32 yh]] ∧ nz = false) ∨ (op = 10 ∧ g = 89 ∧ qE = #[.agg #[.int .i32 xl, .int .i32 xh], .agg #[.int .i32 yl, .int .i32 yh]] ∧ nz = false) ∨ (op = 9 ∧ g = 51 ∧ qE = #[] ∧ nz = true) ∨ (op = 10 ∧ g = 51 ∧ qE = #[] ∧ nz = true) ∨ (op = 11 ∧ g = 90 ∧ qE = #[.int .u8 11, .agg #[.int .i32 xl, .int .i32 xh], .agg #[.int .i32 yl, .int .i32 yh]] ∧ nz = (yl == 0 && yh == 0)) ∨ (op = 12 ∧ g = 90 ∧ qE = #[.int .u8 12, .agg #[.int .i32 xl, .int .i32 xh], .agg #[.int .i32 yl, .int .i32 yh]] ∧ nz = (yl == 0 && yh == 0)) ∨ (op = 13 ∧ g = 90 ∧ qE = #[.int .u8 13, .agg #[.int .i32 xl, .int .i32 xh], .agg #[.int .i32 yl, .int .i32 yh]] ∧ nz = (yl == 0 && yh == 0)) ∨ (op = 14 ∧ g = 91 ∧ qE = #[.int .u8 14, .agg #[.int .i32 xl, .int .i32 xh], .agg #[.int .i32 yl, .int .i32 yh]] ∧ nz = (yl == 0 && yh == 0)) ∨ (op = 15 ∧ g = 91 ∧ qE = #[.int .u8 15, .agg #[.int .i32 xl, .int .i32 xh], .agg #[.int .i32 yl, .int .i32 yh]] ∧ nz = (yl == 0 && yh == 0))) (hx1 : -2147483648 ≤ xl) (hx2 : xl ≤ 2147483647) (hx3 : -2147483648 ≤ xh) (hx4 : xh ≤ 2147483647) (hy1 : -2147483648 ≤ yl) (hy2 : yl ≤ 2147483647) (hy3 : -2147483648 ≤ yh) (hy4 : yh ≤ 2147483647) (gY : xl ≤ xh) (gL : yl ≤ yh) (hs : (xl == xh) = false) (HC : Hid (∀ W, Calls Tryz.prog g qE W fun e w' => e = .returned (.agg #[.int .i32 zl, .int .i32 zh]) ∧ Below W.heap.size W w')) :
  Calls Tryz.prog 43 #[.int .u8 op, .agg #[.int .i32 xl, .int .i32 xh], .agg #[.int .i32 yl, .int .i32 yh]] w fun e w' => e = .returned (.agg #[.int .i32 zl, .int .i32 zh]) ∧ Below w.heap.size w w' := by
 have d3 : decide (xh < xl) = false := by simp; omega
 have d4 : decide (yh < yl) = false := by simp; omega
 rcases hop with ⟨rfl, rfl, rfl, hnz⟩ | ⟨rfl, rfl, rfl, hnz⟩ | ⟨rfl, rfl, rfl, hnz⟩ | ⟨rfl, rfl, rfl, hnz⟩ | ⟨rfl, rfl, rfl, hnz⟩ | ⟨rfl, rfl, rfl, hnz⟩ | ⟨rfl, rfl, rfl, hnz⟩ | ⟨rfl, rfl, rfl, hnz⟩ | ⟨rfl, rfl, rfl, hnz⟩
 all_goals rw [hnz] at NV
 all_goals clear hnz
 all_goals
  have e2 := Bt
  go_enter Tryz.func43, Tryz.ntmps43
  go_upto_region 10 with (first | (go_at_call 83; ((first | (with_reducible refine (Calls.ay (bP _ _ _)).mono ?_) | (refine (Calls.ext (bP _ _ _)).mono ?_)); rintro e _ ⟨rfl, y, rfl⟩)) | (go_at_call 84; ((first | (with_reducible refine (Calls.ay (aY _ _ _)).mono ?_) | (refine (Calls.ext (aY _ _ _)).mono ?_)); rintro e _ ⟨rfl, y, rfl⟩)))
  obtain ⟨V, hV, D⟩ := dR xl xh yl yh w y
  rw [hV]
  clear hV
  obtain ⟨kB, s1, s2, s3, c1, c2, c3, c4, c5, c6, f5, f6⟩ := D
  go_cut [9] (fun s wx => s = .bool (bJ xl xh yl yh) ∧ wx = V)
  case first =>
   by_cases ha : xh < yl
   ·have HA := acD (show bJ xl xh yl yh = true by simp [bJ, ha])
    have da := decide_eq_true ha
    go_wp2_with fail
    go_meet
    exact ⟨by rw [HA.out], rfl⟩
   ·have HA := acD (show bJ xl xh yl yh = decide (yh < xl) by simp [bJ, ha])
    have da := decide_eq_false ha
    go_wp2_with fail
    go_meet
    exact ⟨by rw [HA.out], rfl⟩
  case rest =>
   obtain ⟨rfl, hwc⟩ := hcut
   rw [hwc]
   clear hwc
   as_aux_lemma =>
    go_wp2_with fail
    refine (Calls.ext (HC.out _)).mono ?_
    rintro e _ ⟨rfl, y4, rfl⟩
    obtain ⟨y5, hm⟩ := jD y4
    rw [hm]
    clear hm y4
    go_wp2
    all_goals
     refine bodyPost_ret (v := .agg #[.int .i32 zl, .int .i32 zh]) ?hr rfl ⟨rfl, ?aF⟩
     case hr =>
      simp [results, Tryz.results43, go_sem, c5, c6, s3]
     case aF =>
      exact Below.setCell (Below.setCell (Ext.below kB abo y5) abA _) abA _
theorem zA (op xl xh yl yh zl zh : Int) (g : FuncId) (qE : Array Value) (nz : Bool) (w : World) (NV : (yl == 0 && yh == 0) = nz) (hop : (op = 9 ∧ g = 88 ∧ qE = #[.agg #[.int .i32 xl, .int .i32 xh], .agg #[.int .i32 yl, .int .i32 yh]] ∧ nz = false) ∨ (op = 10 ∧ g = 89 ∧ qE = #[.agg #[.int .i32 xl, .int .i32 xh], .agg #[.int .i32 yl, .int .i32 yh]] ∧ nz = false) ∨ (op = 9 ∧ g = 51 ∧ qE = #[] ∧ nz = true) ∨ (op = 10 ∧ g = 51 ∧ qE = #[] ∧ nz = true) ∨ (op = 11 ∧ g = 90 ∧ qE = #[.int .u8 11, .agg #[.int .i32 xl, .int .i32 xh], .agg #[.int .i32 yl, .int .i32 yh]] ∧ nz = (yl == 0 && yh == 0)) ∨ (op = 12 ∧ g = 90 ∧ qE = #[.int .u8 12, .agg #[.int .i32 xl, .int .i32 xh], .agg #[.int .i32 yl, .int .i32 yh]] ∧ nz = (yl == 0 && yh == 0)) ∨ (op = 13 ∧ g = 90 ∧ qE = #[.int .u8 13, .agg #[.int .i32 xl, .int .i32 xh], .agg #[.int .i32 yl, .int .i32 yh]] ∧ nz = (yl == 0 && yh == 0)) ∨ (op = 14 ∧ g = 91 ∧ qE = #[.int .u8 14, .agg #[.int .i32 xl, .int .i32 xh], .agg #[.int .i32 yl, .int .i32 yh]] ∧ nz = (yl == 0 && yh == 0)) ∨ (op = 15 ∧ g = 91 ∧ qE = #[.int .u8 15, .agg #[.int .i32 xl, .int .i32 xh], .agg #[.int .i32 yl, .int .i32 yh]] ∧ nz = (yl == 0 && yh == 0))) (hx1 : -2147483648 ≤ xl) (hx2 : xl ≤ 2147483647) (hx3 : -2147483648 ≤ xh) (hx4 : xh ≤ 2147483647) (hy1 : -2147483648 ≤ yl) (hy2 : yl ≤ 2147483647) (hy3 : -2147483648 ≤ yh) (hy4 : yh ≤ 2147483647) (gY : xl ≤ xh) (gL : yl ≤ yh) (hs : (xl == xh) = true) (hs' : (yl == yh) = false) (HC : Hid (∀ W, Calls Tryz.prog g qE W fun e w' => e = .returned (.agg #[.int .i32 zl, .int .i32 zh]) ∧ Below W.heap.size W w')) :
  Calls Tryz.prog 43 #[.int .u8 op, .agg #[.int .i32 xl, .int .i32 xh], .agg #[.int .i32 yl, .int .i32 yh]] w fun e w' => e = .returned (.agg #[.int .i32 zl, .int .i32 zh]) ∧ Below w.heap.size w w' := by
 have d3 : decide (xh < xl) = false := by simp; omega
 have d4 : decide (yh < yl) = false := by simp; omega
 rcases hop with ⟨rfl, rfl, rfl, hnz⟩ | ⟨rfl, rfl, rfl, hnz⟩ | ⟨rfl, rfl, rfl, hnz⟩ | ⟨rfl, rfl, rfl, hnz⟩ | ⟨rfl, rfl, rfl, hnz⟩ | ⟨rfl, rfl, rfl, hnz⟩ | ⟨rfl, rfl, rfl, hnz⟩ | ⟨rfl, rfl, rfl, hnz⟩ | ⟨rfl, rfl, rfl, hnz⟩
 all_goals rw [hnz] at NV
 all_goals clear hnz
 all_goals
  have e2 := Bt
  go_enter Tryz.func43, Tryz.ntmps43
  go_upto_region 10 with (first | (go_at_call 83; ((first | (with_reducible refine (Calls.ay (bP _ _ _)).mono ?_) | (refine (Calls.ext (bP _ _ _)).mono ?_)); rintro e _ ⟨rfl, y, rfl⟩)) | (go_at_call 84; ((first | (with_reducible refine (Calls.ay (aY _ _ _)).mono ?_) | (refine (Calls.ext (aY _ _ _)).mono ?_)); rintro e _ ⟨rfl, y, rfl⟩)))
  obtain ⟨V, hV, D⟩ := dR xl xh yl yh w y
  rw [hV]
  clear hV
  obtain ⟨kB, s1, s2, s3, c1, c2, c3, c4, c5, c6, f5, f6⟩ := D
  go_cut [9] (fun s wx => s = .bool (bJ xl xh yl yh) ∧ wx = V)
  case first =>
   by_cases ha : xh < yl
   ·have HA := acD (show bJ xl xh yl yh = true by simp [bJ, ha])
    have da := decide_eq_true ha
    go_wp2_with fail
    go_meet
    exact ⟨by rw [HA.out], rfl⟩
   ·have HA := acD (show bJ xl xh yl yh = decide (yh < xl) by simp [bJ, ha])
    have da := decide_eq_false ha
    go_wp2_with fail
    go_meet
    exact ⟨by rw [HA.out], rfl⟩
  case rest =>
   obtain ⟨rfl, hwc⟩ := hcut
   rw [hwc]
   clear hwc
   as_aux_lemma =>
    go_wp2_with fail
    refine (Calls.ext (HC.out _)).mono ?_
    rintro e _ ⟨rfl, y4, rfl⟩
    obtain ⟨y5, hm⟩ := jD y4
    rw [hm]
    clear hm y4
    go_wp2
    all_goals
     refine bodyPost_ret (v := .agg #[.int .i32 zl, .int .i32 zh]) ?hr rfl ⟨rfl, ?aF⟩
     case hr =>
      simp [results, Tryz.results43, go_sem, c5, c6, s3]
     case aF =>
      exact Below.setCell (Below.setCell (Ext.below kB abo y5) abA _) abA _
end
end Go.Proofs.YtebklpnkcicpjaaGreatDoor
