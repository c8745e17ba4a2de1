/-
  What is proved here: the arithmetic of the bus schedule (no program): Start is periodic, and the cores are served alike.
-/
import Derived.Test.YtbphlcldbcjncaaFns
namespace Go.Proofs.Ytbphlcldbcjncaa

theorem ediv_of {y m p : Int} (h0 : m * p ≤ y) (h1 : y < m * p + p) : y / p = m := by
  have hp : 0 < p := by omega
  have := Int.ediv_emod_unique (a := y) (b := p) (r := y - m * p) (q := m) hp
  exact (this.2 ⟨by rw [Int.mul_comm p m]; omega, by omega, by omega⟩).1

theorem stt_period {a b c k t n : Int} (h1 : 1 ≤ a * b) : stt a b c k (t + n * (a * b)) = stt a b c k t + n * (a * b) := by
  unfold stt
  have e : (t + n * (a * b)) / (a * b) = t / (a * b) + n := Int.add_mul_ediv_right _ _ (by omega)
  rw [e, Int.add_mul]
  split <;> split <;> omega

theorem stt_next {a b c k t : Int} (h1 : 1 ≤ a) (h2 : a ≤ 4) (h3 : 1 ≤ c) (h4 : c ≤ b) (h5 : b ≤ 1000000) (h6 : 0 ≤ k) (h7 : k < a) (h8 : 0 ≤ t) : stt a b c ((k + 1) % a) (t + b) = stt a b c k t + b := by
  obtain ⟨m1, m2, m3⟩ := mul_bd (b := b) h1 h2 (by omega) h5
  obtain ⟨k1, k2⟩ := core_bd (a := a) (b := b) (by omega) h6 h7
  obtain ⟨d1, d2, d3, d4, d5⟩ := div_bd h8 m1
  have e1 : ((t / (a * b)) + 1) * (a * b) = t / (a * b) * (a * b) + a * b := by rw [Int.add_mul]; omega
  have e2 : (k + 1) * b = k * b + b := by rw [Int.add_mul]; omega
  have hk : (k + 1 < a ∧ (k + 1) % a = k + 1) ∨ (k + 1 = a ∧ (k + 1) % a = 0) := by
    by_cases hlt : k + 1 < a
    · exact .inl ⟨hlt, Int.emod_eq_of_lt (by omega) hlt⟩
    · have he : k + 1 = a := by omega
      exact .inr ⟨he, by rw [he]; simp⟩
  have hq : (t + b < t / (a * b) * (a * b) + a * b ∧ (t + b) / (a * b) = t / (a * b)) ∨ (t / (a * b) * (a * b) + a * b ≤ t + b ∧ (t + b) / (a * b) = t / (a * b) + 1) := by
    by_cases hlt : t + b < t / (a * b) * (a * b) + a * b
    · exact .inl ⟨hlt, ediv_of (by omega) hlt⟩
    · exact .inr ⟨by omega, ediv_of (by rw [e1]; omega) (by rw [e1]; omega)⟩
  unfold stt
  rcases hk with ⟨hk1, hk2⟩ | ⟨hk1, hk2⟩
  · have kk : (k + 1) * b + b ≤ a * b := (core_bd (a := a) (b := b) (k := k + 1) (by omega) (by omega) hk1).2
    rcases hq with ⟨hq1, hq2⟩ | ⟨hq1, hq2⟩
    · rw [hk2, hq2, e2]; split <;> split <;> omega
    · rw [hk2, hq2, e2, e1]; split <;> split <;> omega
  · have kk : k * b + b = a * b := by rw [← hk1]; omega
    rcases hq with ⟨hq1, hq2⟩ | ⟨hq1, hq2⟩
    · rw [hk2, hq2, Int.zero_mul]; split <;> split <;> omega
    · rw [hk2, hq2, e1, Int.zero_mul]; split <;> split <;> omega

end Go.Proofs.Ytbphlcldbcjncaa
