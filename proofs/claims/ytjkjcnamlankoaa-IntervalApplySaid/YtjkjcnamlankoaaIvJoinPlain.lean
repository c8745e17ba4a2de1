/-
  What is proved here: joins and meets in plain mathematics (no program).
-/
import Derived.Test.YtjkjcnamlankoaaIvSets
namespace Go.Proofs.Ytjkjcnamlankoaa

/-- The forms of a join, by which operand is empty. -/
theorem join_forms (x y : Int × Int) : (x.2 < x.1 ∧ y.2 < y.1 ∧ joinI x y = (1, 0)) ∨ (x.2 < x.1 ∧ ¬ y.2 < y.1 ∧ joinI x y = y) ∨ (¬ x.2 < x.1 ∧ y.2 < y.1 ∧ joinI x y = x) ∨ (¬ x.2 < x.1 ∧ ¬ y.2 < y.1 ∧ joinI x y = (min x.1 y.1, max x.2 y.2)) := by
  by_cases h1 : x.2 < x.1 <;> by_cases h2 : y.2 < y.1 <;> simp [joinI, emp, h1, h2]
theorem meet_forms (x y : Int × Int) : ((x.2 < x.1 ∨ y.2 < y.1 ∨ min x.2 y.2 < max x.1 y.1) ∧ meetI x y = (1, 0)) ∨ (¬ x.2 < x.1 ∧ ¬ y.2 < y.1 ∧ ¬ min x.2 y.2 < max x.1 y.1 ∧ meetI x y = (max x.1 y.1, min x.2 y.2)) := by
  by_cases h1 : x.2 < x.1
  · left; exact ⟨.inl h1, by simp [meetI, emp, h1]⟩
  · by_cases h2 : y.2 < y.1
    · left; exact ⟨.inr (.inl h2), by simp [meetI, emp, h2]⟩
    · by_cases h3 : min x.2 y.2 < max x.1 y.1
      · left; exact ⟨.inr (.inr h3), by simp only [meetI, emp, h1, h2, h3]; simp⟩
      · right; exact ⟨h1, h2, h3, by simp only [meetI, emp, h1, h2, h3]; simp⟩
theorem within_iff (x y : Int × Int) : withinI x y = true ↔ (x.2 < x.1 ∨ (y.1 ≤ x.1 ∧ x.2 ≤ y.2)) := by
  simp [withinI, emp]

theorem join_left (x y : Int × Int) : withinI x (joinI x y) = true := by
  rw [within_iff]
  rcases join_forms x y with ⟨h1, h2, h⟩ | ⟨h1, h2, h⟩ | ⟨h1, h2, h⟩ | ⟨h1, h2, h⟩ <;> rw [h] <;> (try dsimp only) <;> omega
theorem join_right (x y : Int × Int) : withinI y (joinI x y) = true := by
  rw [within_iff]
  rcases join_forms x y with ⟨h1, h2, h⟩ | ⟨h1, h2, h⟩ | ⟨h1, h2, h⟩ | ⟨h1, h2, h⟩ <;> rw [h] <;> (try dsimp only) <;> omega
theorem join_least (x y z : Int × Int) (hx : withinI x z = true) (hy : withinI y z = true) : withinI (joinI x y) z = true := by
  rw [within_iff] at *
  rcases join_forms x y with ⟨h1, h2, h⟩ | ⟨h1, h2, h⟩ | ⟨h1, h2, h⟩ | ⟨h1, h2, h⟩ <;> rw [h] <;> (try dsimp only) <;> omega
theorem join_emp (x y : Int × Int) : (joinI x y).2 < (joinI x y).1 ↔ (x.2 < x.1 ∧ y.2 < y.1) := by
  rcases join_forms x y with ⟨h1, h2, h⟩ | ⟨h1, h2, h⟩ | ⟨h1, h2, h⟩ | ⟨h1, h2, h⟩ <;> rw [h] <;> (try dsimp only) <;> omega
theorem join_emp_is (x y : Int × Int) (he : (joinI x y).2 < (joinI x y).1) : joinI x y = (1, 0) := by
  rcases join_forms x y with ⟨h1, h2, h⟩ | ⟨h1, h2, h⟩ | ⟨h1, h2, h⟩ | ⟨h1, h2, h⟩
  · exact h
  all_goals (rw [h] at he; (try dsimp only at he); omega)
theorem meet_mem (x y : Int × Int) (n : Int) : ((meetI x y).1 ≤ n ∧ n ≤ (meetI x y).2) ↔ ((x.1 ≤ n ∧ n ≤ x.2) ∧ (y.1 ≤ n ∧ n ≤ y.2)) := by
  rcases meet_forms x y with ⟨h1, h⟩ | ⟨h1, h2, h3, h⟩ <;> rw [h] <;> (try dsimp only) <;> omega
theorem meet_emp_is (x y : Int × Int) (he : (meetI x y).2 < (meetI x y).1) : meetI x y = (1, 0) := by
  rcases meet_forms x y with ⟨h1, h⟩ | ⟨h1, h2, h3, h⟩
  · exact h
  · rw [h] at he; (try dsimp only at he); omega
theorem join_comm (x y : Int × Int) : joinI y x = joinI x y := by
  rcases join_forms x y with ⟨h1, h2, h⟩ | ⟨h1, h2, h⟩ | ⟨h1, h2, h⟩ | ⟨h1, h2, h⟩ <;> rcases join_forms y x with ⟨g1, g2, g⟩ | ⟨g1, g2, g⟩ | ⟨g1, g2, g⟩ | ⟨g1, g2, g⟩ <;> first | omega | (rw [g, h]) 
  congr 1 <;> omega
theorem meet_comm (x y : Int × Int) : meetI y x = meetI x y := by
  rcases meet_forms x y with ⟨h1, h⟩ | ⟨h1, h2, h3, h⟩ <;> rcases meet_forms y x with ⟨g1, g⟩ | ⟨g1, g2, g3, g⟩ <;> first | omega | (rw [g, h])
  congr 1 <;> omega
theorem pair_ext {p q : Int × Int} (h1 : p.1 = q.1) (h2 : p.2 = q.2) : p = q := by
  cases p; cases q; simp only at h1 h2; rw [h1, h2]
theorem join_assoc (x y z : Int × Int) : joinI (joinI x y) z = joinI x (joinI y z) := by
  rcases join_forms x y with ⟨h1, h2, h⟩ | ⟨h1, h2, h⟩ | ⟨h1, h2, h⟩ | ⟨h1, h2, h⟩ <;> rcases join_forms y z with ⟨g1, g2, g⟩ | ⟨g1, g2, g⟩ | ⟨g1, g2, g⟩ | ⟨g1, g2, g⟩ <;> (try (exfalso; omega)) <;> rw [h, g]
  all_goals
    simp only [joinI, emp, decide_eq_true_eq]
    apply pair_ext
  all_goals
    (repeat' split) <;> (try dsimp only at *) <;> omega
theorem meet_assoc (x y z : Int × Int) : meetI (meetI x y) z = meetI x (meetI y z) := by
  rcases meet_forms x y with ⟨h1, h⟩ | ⟨h1, h2, h3, h⟩ <;> rcases meet_forms y z with ⟨g1, g⟩ | ⟨g1, g2, g3, g⟩ <;> rw [h, g]
  all_goals
    simp only [meetI, emp, decide_eq_true_eq, Bool.or_eq_true]
    apply pair_ext
  all_goals
    (repeat' split) <;> (try dsimp only at *) <;> omega

end Go.Proofs.Ytjkjcnamlankoaa
