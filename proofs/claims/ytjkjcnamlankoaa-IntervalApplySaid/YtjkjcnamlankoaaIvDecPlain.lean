/-
  What is proved here: comparisons of intervals in plain mathematics (no program).
-/
import Derived.Test.YtjkjcnamlankoaaIvApp2
import Derived.Test.YtjkjcnamlankoaaIvJoinPlain
namespace Go.Proofs.Ytjkjcnamlankoaa
set_option linter.unusedVariables false
set_option linter.unusedSimpArgs false

theorem trI_cases (a n : Bool) : (a = true ∧ trI a n = (1, 1)) ∨ (a = false ∧ n = true ∧ trI a n = (0, 0)) ∨ (a = false ∧ n = false ∧ trI a n = (0, 1)) := by
  cases a <;> cases n <;> simp [trI]

/-- What a comparison of two non-empty intervals comes to. -/
def cmpN (op : Int) (x y : Int × Int) : Int × Int :=
  if op = 16 then trI (decide (x.1 = x.2 ∧ y.1 = y.2 ∧ x.1 = y.1)) (decide (x.2 < y.1 ∨ y.2 < x.1)) else if op = 17 then trI (decide (x.2 < y.1 ∨ y.2 < x.1)) (decide (x.1 = x.2 ∧ y.1 = y.2 ∧ x.1 = y.1))
  else if op = 18 then trI (decide (x.2 < y.1)) (decide (y.2 ≤ x.1)) else if op = 19 then trI (decide (x.2 ≤ y.1)) (decide (y.2 < x.1))
  else if op = 20 then trI (decide (y.2 < x.1)) (decide (x.2 ≤ y.1)) else trI (decide (y.2 ≤ x.1)) (decide (x.2 < y.1))

theorem apply_cmp (op : Int) (x y : Int × Int) (h1 : 16 ≤ op) (h2 : op ≤ 21) (hx : x.1 ≤ x.2) (hy : y.1 ≤ y.2) : applyI op x y = cmpN op x y := by
  have no : ¬ (op < 6 ∨ 23 < op) := by omega
  have ne : ¬ (x.2 < x.1 ∨ y.2 < y.1) := by omega
  have hm : emp (meetI x y) = decide (x.2 < y.1 ∨ y.2 < x.1) := by
    rcases meet_forms x y with ⟨c, e⟩ | ⟨c1, c2, c3, e⟩
    · rw [e, Bool.eq_iff_iff]; simp [emp]; omega
    · rw [e, Bool.eq_iff_iff]; simp only [emp, decide_eq_true_eq]; omega
  have h : op = 16 ∨ op = 17 ∨ op = 18 ∨ op = 19 ∨ op = 20 ∨ op = 21 := by omega
  rw [applyI, if_neg no, if_neg ne]
  by_cases s : x.1 = x.2 ∧ y.1 = y.2
  · obtain ⟨xl, xh⟩ := x
    obtain ⟨yl, yh⟩ := y
    dsimp only at *
    obtain ⟨rfl, rfl⟩ := s
    rw [if_pos ⟨rfl, rfl⟩]
    have hw : we op yl = 0 := by unfold we; rw [if_pos ⟨by omega, by omega⟩, if_neg (by omega)]
    rw [if_pos hw]
    rcases h with rfl | rfl | rfl | rfl | rfl | rfl
    · by_cases c : xl = yl
      · simp [wv, cmpN, trI, b2i, c]
      · have : xl < yl ∨ yl < xl := by omega
        simp [wv, cmpN, trI, b2i, c, this]
    · by_cases c : xl = yl
      · simp [wv, cmpN, trI, b2i, c]
      · have : xl < yl ∨ yl < xl := by omega
        simp [wv, cmpN, trI, b2i, c, this]
    all_goals
      simp only [wv, cmpN, trI, b2i]
      simp
      (repeat' split) <;> first | rfl | omega
  · rw [if_neg s]
    have s' : ¬ (x.1 = x.2 ∧ y.1 = y.2 ∧ x.1 = y.1) := fun h => s ⟨h.1, h.2.1⟩
    rcases h with rfl | rfl | rfl | rfl | rfl | rfl
    · simp only [genI, cmpI, cmpN, hm, s']; simp
    · simp only [genI, cmpI, cmpN, hm, s']; simp
    · simp only [genI, cmpI, cmpN]; simp
    · simp only [genI, cmpI, cmpN]; simp
    · simp only [genI, cmpI, cmpN]; simp
    · simp only [genI, cmpI, cmpN]; simp

theorem tr_flip (a n : Bool) (h : ¬ (a = true ∧ n = true)) : trI n a = (1 - (trI a n).2, 1 - (trI a n).1) := by
  cases a <;> cases n <;> simp_all [trI]
theorem tr_bd (a n : Bool) : 0 ≤ (trI a n).1 ∧ (trI a n).1 ≤ 1 ∧ 0 ≤ (trI a n).2 ∧ (trI a n).2 ≤ 1 := by
  cases a <;> cases n <;> simp [trI]
theorem tr_one (a n : Bool) (h : ¬ (a = true ∧ n = true)) : (decide ((trI a n).1 ≤ 1) && decide (1 ≤ (trI a n).2)) = !n := by
  cases a <;> cases n <;> simp_all [trI]
theorem tr_zero (a n : Bool) : (decide ((trI a n).1 ≤ 0) && decide (0 ≤ (trI a n).2)) = !a := by
  cases a <;> cases n <;> simp [trI]

theorem dec_flip (op : Int) (x y : Int × Int) (h : op = 16 ∨ op = 18 ∨ op = 19) (hx : x.1 ≤ x.2) (hy : y.1 ≤ y.2) :
    applyI (if op = 16 then 17 else if op = 18 then 21 else 20) x y = (1 - (applyI op x y).2, 1 - (applyI op x y).1) := by
  rcases h with rfl | rfl | rfl
  · rw [if_pos rfl, apply_cmp 17 x y (by decide) (by decide) hx hy, apply_cmp 16 x y (by decide) (by decide) hx hy]
    simp only [cmpN]
    exact tr_flip _ _ (by simp; omega)
  · rw [if_neg (by decide), if_pos rfl, apply_cmp 21 x y (by decide) (by decide) hx hy, apply_cmp 18 x y (by decide) (by decide) hx hy]
    simp only [cmpN]
    exact tr_flip _ _ (by simp; omega)
  · rw [if_neg (by decide), if_neg (by decide), apply_cmp 20 x y (by decide) (by decide) hx hy, apply_cmp 19 x y (by decide) (by decide) hx hy]
    simp only [cmpN]
    exact tr_flip _ _ (by simp; omega)
theorem dec_bd (op : Int) (x y : Int × Int) (h1 : 16 ≤ op) (h2 : op ≤ 21) (hx : x.1 ≤ x.2) (hy : y.1 ≤ y.2) : 0 ≤ (applyI op x y).1 ∧ (applyI op x y).1 ≤ 1 ∧ 0 ≤ (applyI op x y).2 ∧ (applyI op x y).2 ≤ 1 := by
  rw [apply_cmp op x y h1 h2 hx hy, cmpN]
  (repeat' split) <;> exact tr_bd _ _
theorem dec_lt1 (x y : Int × Int) (hx : x.1 ≤ x.2) (hy : y.1 ≤ y.2) : (decide ((applyI 18 x y).1 ≤ 1) && decide (1 ≤ (applyI 18 x y).2)) = decide (x.1 < y.2) := by
  rw [apply_cmp 18 x y (by decide) (by decide) hx hy]
  simp only [cmpN]
  refine (tr_one _ _ (by simp; omega)).trans ?_
  rw [Bool.eq_iff_iff]; simp
theorem dec_lt0 (x y : Int × Int) (hx : x.1 ≤ x.2) (hy : y.1 ≤ y.2) : (decide ((applyI 18 x y).1 ≤ 0) && decide (0 ≤ (applyI 18 x y).2)) = decide (y.1 ≤ x.2) := by
  rw [apply_cmp 18 x y (by decide) (by decide) hx hy]
  simp only [cmpN]
  refine (tr_zero _ _).trans ?_
  rw [Bool.eq_iff_iff]; simp
theorem dec_le1 (x y : Int × Int) (hx : x.1 ≤ x.2) (hy : y.1 ≤ y.2) : (decide ((applyI 19 x y).1 ≤ 1) && decide (1 ≤ (applyI 19 x y).2)) = decide (x.1 ≤ y.2) := by
  rw [apply_cmp 19 x y (by decide) (by decide) hx hy]
  simp only [cmpN]
  refine (tr_one _ _ (by simp; omega)).trans ?_
  rw [Bool.eq_iff_iff]; simp
theorem dec_le0 (x y : Int × Int) (hx : x.1 ≤ x.2) (hy : y.1 ≤ y.2) : (decide ((applyI 19 x y).1 ≤ 0) && decide (0 ≤ (applyI 19 x y).2)) = decide (y.1 < x.2) := by
  rw [apply_cmp 19 x y (by decide) (by decide) hx hy]
  simp only [cmpN]
  refine (tr_zero _ _).trans ?_
  rw [Bool.eq_iff_iff]; simp
theorem dec_eq1 (x y : Int × Int) (hx : x.1 ≤ x.2) (hy : y.1 ≤ y.2) : (decide ((applyI 16 x y).1 ≤ 1) && decide (1 ≤ (applyI 16 x y).2)) = (decide (x.1 ≤ y.2) && decide (y.1 ≤ x.2)) := by
  rw [apply_cmp 16 x y (by decide) (by decide) hx hy]
  simp only [cmpN]
  refine (tr_one _ _ (by simp; omega)).trans ?_
  rw [Bool.eq_iff_iff]; simp; omega

end Go.Proofs.Ytjkjcnamlankoaa
