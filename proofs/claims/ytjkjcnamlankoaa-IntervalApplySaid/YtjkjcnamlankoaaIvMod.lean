/-
  What is proved here: what modulo returns.
-/
import Derived.Test.YtjkjcnamlankoaaIvEq
namespace Go.Proofs.Ytjkjcnamlankoaa
open Go.RowKit

/-- One less than the greatest absolute value of a bound. -/
def modM (y : Int × Int) : Int := max (max (max (-y.1) y.1) (-y.2)) y.2 - 1
def modI (x y : Int × Int) : Int × Int := if y.1 = 0 ∧ y.2 = 0 then (1, 0) else (if x.1 < 0 then max x.1 (-modM y) else 0, if 0 < x.2 then min x.2 (modM y) else 0)

theorem max4 (a b c d : Int) (w : World) : (Builtin.max_ #[2, 2, 2, 2] 2 #[.int .i64 a, .int .i64 b, .int .i64 c, .int .i64 d]).run Try.prog w = .ok (.int .i64 (max (max (max a b) c) d)) w := by
  have m2 : ∀ (x y : Int) (w : World), (Builtin.max2 (.int .i64 x) (.int .i64 y)).run Try.prog w = .ok (.int .i64 (max x y)) w := by
    intro x y w
    simp only [Builtin.max2]
    by_cases h : x < y
    · simp [h]; omega
    · simp [h]; omega
  simp [Builtin.max_, m2]

set_option maxHeartbeats 1000000 in
theorem modulo_zero (xl xh : Int) (w : World) :
    Calls Try.prog 31 #[.agg #[.int .i32 xl, .int .i32 xh], .agg #[.int .i32 0, .int .i32 0]] w fun e w' => e = .returned (.agg #[.int .i32 (modI (xl, xh) (0, 0)).1, .int .i32 (modI (xl, xh) (0, 0)).2]) ∧ Below w.heap.size w w' := by
  have HF := Lib.hid (show modI (xl, xh) (0, 0) = (1, 0) from rfl)
  have he := eq_iv
  go_enter Try.func31, Try.ntmps31
  go_wp2_with fail
  refine wp_region_ext (by kernel_rfl) (by kernel_rfl) ?_
  repeat (go_big_quiet_step (exact Calls.extq (of_any _ _)))
  refine wpQuiet_nil ?_
  rintro _ ⟨x1, rfl⟩
  go_wp2_with fail
  refine (Calls.extq (empty_any _)).mono ?_
  rintro e _ ⟨rfl, y, rfl⟩
  go_wp2
  all_goals
    refine bodyPost_ret (v := .agg #[.int .i32 (modI (xl, xh) (0, 0)).1, .int .i32 (modI (xl, xh) (0, 0)).2]) ?hr rfl ⟨rfl, ?bel⟩
    case hr =>
      simp [results, Try.results31, go_sem]
      rw [HF.out]
      constructor <;> rfl
    case bel =>
      (repeat (first | exact Below.refl _ _ | refine Below.setCell ?_ ?_ _ | refine Ext.below ?_ ?_ _ | refine Below.alloc ?_ ?_ _)) <;> (first | (simp; done) | (simp; omega) | omega)
set_option maxHeartbeats 1000000 in
theorem modulo_some (xl xh yl yh : Int) (w : World) (hx1 : -2147483648 ≤ xl) (hx2 : xl ≤ 2147483647) (hx3 : -2147483648 ≤ xh) (hx4 : xh ≤ 2147483647) (hy1 : -2147483648 ≤ yl) (hy2 : yl ≤ 2147483647) (hy3 : -2147483648 ≤ yh) (hy4 : yh ≤ 2147483647) (hy0 : yl ≤ yh) (hne : (yl == 0 && yh == 0) = false) :
    Calls Try.prog 31 #[.agg #[.int .i32 xl, .int .i32 xh], .agg #[.int .i32 yl, .int .i32 yh]] w fun e w' => e = .returned (.agg #[.int .i32 (modI (xl, xh) (yl, yh)).1, .int .i32 (modI (xl, xh) (yl, yh)).2]) ∧ Below w.heap.size w w' := by
  have hz : ¬ (yl = 0 ∧ yh = 0) := by simpa using hne
  have hf : modI (xl, xh) (yl, yh) = (if xl < 0 then max xl (-modM (yl, yh)) else 0, if 0 < xh then min xh (modM (yl, yh)) else 0) := by unfold modI; rw [if_neg hz]
  have hm : max (max (max (-yl) yl) (-yh)) yh - 1 = modM (yl, yh) := rfl
  have HF := Lib.hid hf
  have hM0 : 0 ≤ modM (yl, yh) := by rw [← hm]; omega
  have hM1 : modM (yl, yh) ≤ 2147483647 := by rw [← hm]; omega
  have he := eq_iv
  have h4 := max4
  have HM := Lib.hid hm
  clear hz hf hm
  go_enter Try.func31, Try.ntmps31
  go_wp2_with fail
  refine wp_region_ext (by kernel_rfl) (by kernel_rfl) ?_
  repeat (go_big_quiet_step (exact Calls.extq (of_any _ _)))
  refine wpQuiet_nil ?_
  rintro _ ⟨x1, rfl⟩
  go_wp2_with fail
  all_goals
    refine bodyPost_ret (v := .agg #[.int .i32 (modI (xl, xh) (yl, yh)).1, .int .i32 (modI (xl, xh) (yl, yh)).2]) ?hr rfl ⟨rfl, ?bel⟩
    case hr =>
      simp [results, Try.results31, go_sem]
      rw [HF.out]
      have hm := HM.out
      constructor <;> dsimp only <;> split <;> omega
    case bel =>
      (repeat (first | exact Below.refl _ _ | refine Below.setCell ?_ ?_ _ | refine Ext.below ?_ ?_ _ | refine Below.alloc ?_ ?_ _)) <;> (first | (simp; done) | (simp; omega) | omega)
theorem modulo_any (xl xh yl yh : Int) (w : World) (hx1 : -2147483648 ≤ xl) (hx2 : xl ≤ 2147483647) (hx3 : -2147483648 ≤ xh) (hx4 : xh ≤ 2147483647) (hy1 : -2147483648 ≤ yl) (hy2 : yl ≤ 2147483647) (hy3 : -2147483648 ≤ yh) (hy4 : yh ≤ 2147483647) (hy0 : yl ≤ yh) :
    Calls Try.prog 31 #[.agg #[.int .i32 xl, .int .i32 xh], .agg #[.int .i32 yl, .int .i32 yh]] w fun e w' => e = .returned (.agg #[.int .i32 (modI (xl, xh) (yl, yh)).1, .int .i32 (modI (xl, xh) (yl, yh)).2]) ∧ Below w.heap.size w w' := by
  by_cases h0 : yl = 0 ∧ yh = 0
  · obtain ⟨rfl, rfl⟩ := h0
    exact modulo_zero xl xh w
  · exact modulo_some xl xh yl yh w hx1 hx2 hx3 hx4 hy1 hy2 hy3 hy4 hy0 (by simpa using h0)

end Go.Proofs.Ytjkjcnamlankoaa
