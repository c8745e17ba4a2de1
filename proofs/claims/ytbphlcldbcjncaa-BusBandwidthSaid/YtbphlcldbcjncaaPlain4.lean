/-
  What is proved here: the arithmetic of the bus schedule (no program): the greatest wait, and that it occurs in every round.
-/
import Derived.Test.YtbphlcldbcjncaaPlain2
namespace Go.Proofs.Ytbphlcldbcjncaa

theorem wait_le {a b c k t : Int} (h1 : 1 ≤ a) (h2 : a ≤ 4) (h3 : 1 ≤ c) (h4 : c ≤ b) (h5 : b ≤ 1000000) (h6 : 0 ≤ k) (h7 : k < a) (h8 : 0 ≤ t) : stt a b c k t - t ≤ (a - 1) * b + c - 1 := by
  obtain ⟨m1, m2, m3⟩ := mul_bd (b := b) h1 h2 (by omega) h5
  obtain ⟨k1, k2⟩ := core_bd (a := a) (b := b) (by omega) h6 h7
  obtain ⟨d1, d2, d3, d4, d5⟩ := div_bd h8 m1
  rw [Int.sub_mul]
  unfold stt
  split <;> omega

theorem stt_at {a b c k t m : Int} (h1 : m * (a * b) ≤ t) (h2 : t < m * (a * b) + a * b) : stt a b c k t = if m * (a * b) + k * b + b - c < t then max t (m * (a * b) + k * b + a * b) else max t (m * (a * b) + k * b) := by
  unfold stt
  rw [ediv_of h1 h2]

theorem wait_occurs {a b c k t : Int} (h1 : 1 ≤ a) (h2 : a ≤ 4) (h3 : 1 ≤ c) (h4 : c ≤ b) (h5 : b ≤ 1000000) (h6 : 0 ≤ k) (h7 : k < a) (h8 : 0 ≤ t) : ∃ z, t ≤ z ∧ z < t + a * b ∧ stt a b c k z - z = (a - 1) * b + c - 1 := by
  obtain ⟨m1, m2, m3⟩ := mul_bd (b := b) h1 h2 (by omega) h5
  obtain ⟨k1, k2⟩ := core_bd (a := a) (b := b) (by omega) h6 h7
  obtain ⟨d1, d2, d3, d4, d5⟩ := div_bd h8 m1
  have e1 : ((t / (a * b)) + 1) * (a * b) = t / (a * b) * (a * b) + a * b := by rw [Int.add_mul]; omega
  rw [Int.sub_mul]
  generalize hm : t / (a * b) = m at *
  generalize hX : m * (a * b) = X at *
  by_cases c1 : X + k * b + b - c + 1 < t
  · refine ⟨X + k * b + b - c + 1 + a * b, by omega, by omega, ?_⟩
    by_cases c2 : X + k * b + b - c + 1 = X + a * b
    · omega
    · rw [stt_at (m := m + 1) (by omega) (by omega), e1]
      split <;> omega
  · by_cases c2 : X + k * b + b - c + 1 < X + a * b
    · refine ⟨X + k * b + b - c + 1, by omega, by omega, ?_⟩
      rw [stt_at (m := m) (by omega) (by omega), hX]
      split <;> omega
    · by_cases c3 : t = X
      · refine ⟨X, by omega, by omega, ?_⟩
        rw [stt_at (m := m) (by omega) (by omega), hX]
        split <;> omega
      · refine ⟨X + a * b, by omega, by omega, ?_⟩
        rw [stt_at (m := m + 1) (by omega) (by omega), e1]
        split <;> omega

end Go.Proofs.Ytbphlcldbcjncaa
