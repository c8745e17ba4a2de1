/-
  What is proved here: widening in plain mathematics (no program): it contains both intervals, and an interval changes at most three times.
-/
import Derived.Test.YtjkjcnamlankoaaIvSets
namespace Go.Proofs.Ytjkjcnamlankoaa

/-- How often an interval may still change. -/
def phi (x : Int × Int) : Int := if x.2 < x.1 then 3 else (if -2147483648 < x.1 then 1 else 0) + (if x.2 < 2147483647 then 1 else 0)

theorem widen_bd {xl xh yl yh : Int} (hx1 : -2147483648 ≤ xl) (hx2 : xl ≤ 2147483647) (hx3 : -2147483648 ≤ xh) (hx4 : xh ≤ 2147483647) (hy1 : -2147483648 ≤ yl) (hy2 : yl ≤ 2147483647) (hy3 : -2147483648 ≤ yh) (hy4 : yh ≤ 2147483647) :
    -2147483648 ≤ (widenI (xl, xh) (yl, yh)).1 ∧ (widenI (xl, xh) (yl, yh)).1 ≤ 2147483647 ∧ -2147483648 ≤ (widenI (xl, xh) (yl, yh)).2 ∧ (widenI (xl, xh) (yl, yh)).2 ≤ 2147483647 := by
  simp only [widenI, emp, decide_eq_true_eq]
  by_cases h1 : xh < xl <;> by_cases h2 : yh < yl <;> simp only [h1, h2, if_true, if_false]
  all_goals
    refine ⟨?_, ?_, ?_, ?_⟩ <;> (try split) <;> omega

theorem widen_in {xl xh yl yh : Int} (hx1 : -2147483648 ≤ xl) (hx4 : xh ≤ 2147483647) (hy1 : -2147483648 ≤ yl) (hy4 : yh ≤ 2147483647) :
    withinI (xl, xh) (widenI (xl, xh) (yl, yh)) = true ∧ withinI (yl, yh) (widenI (xl, xh) (yl, yh)) = true := by
  simp only [withinI, widenI, emp, decide_eq_true_eq, Bool.or_eq_true, Bool.and_eq_true]
  by_cases h1 : xh < xl <;> by_cases h2 : yh < yl <;> simp only [h1, h2, if_true, if_false]
  all_goals
    constructor
  all_goals
    first
      | exact .inl trivial
      | (refine .inr ⟨?_, ?_⟩ <;> (try split) <;> omega)

theorem phi_step {xl xh yl yh : Int} (hy1 : -2147483648 ≤ yl) (hy4 : yh ≤ 2147483647) :
    (withinI (widenI (xl, xh) (yl, yh)) (xl, xh) = false → phi (widenI (xl, xh) (yl, yh)) + 1 ≤ phi (xl, xh)) ∧ (withinI (widenI (xl, xh) (yl, yh)) (xl, xh) = true → phi (widenI (xl, xh) (yl, yh)) ≤ phi (xl, xh)) := by
  by_cases h1 : xh < xl <;> by_cases h2 : yh < yl
  · have e : widenI (xl, xh) (yl, yh) = (1, 0) := by simp [widenI, emp, h1, h2]
    rw [e]; simp [withinI, emp, phi, h1]
  · have e : widenI (xl, xh) (yl, yh) = (yl, yh) := by simp [widenI, emp, h1, h2]
    rw [e]; simp only [withinI, emp, phi, h1, h2, if_true, if_false]
    constructor
    · intro _; split <;> split <;> omega
    · intro _; split <;> split <;> omega
  · have e : widenI (xl, xh) (yl, yh) = (xl, xh) := by simp [widenI, emp, h1, h2]
    rw [e]; simp [withinI]
  · have e : widenI (xl, xh) (yl, yh) = (if yl < xl then -2147483648 else xl, if xh < yh then 2147483647 else xh) := by simp [widenI, emp, h1, h2]
    rw [e]
    by_cases h3 : yl < xl <;> by_cases h4 : xh < yh <;> simp only [h3, h4, if_true, if_false, withinI, emp, phi]
    all_goals
      constructor
    all_goals
      intro h
      simp at h
      repeat (first | omega | split)

theorem phi_bd (x : Int × Int) : 0 ≤ phi x ∧ phi x ≤ 3 := by
  unfold phi
  repeat (first | omega | split)

end Go.Proofs.Ytjkjcnamlankoaa
