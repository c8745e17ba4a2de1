/-
  What is proved here: the arithmetic of the bus schedule (no program): the cycles of a transfer belong to its core alone, and transfers of different cores do not overlap.
-/
import Derived.Test.YtbphlcldbcjncaaPlain2
namespace Go.Proofs.Ytbphlcldbcjncaa

theorem stt_slot {a b c k t : Int} (h1 : 1 ≤ a) (h2 : a ≤ 4) (h3 : 1 ≤ c) (h4 : c ≤ b) (h5 : b ≤ 1000000) (h6 : 0 ≤ k) (h7 : k < a) (h8 : 0 ≤ t) : stt a b c k t / b % a = k ∧ stt a b c k t % b + c ≤ b :=
  (fit_iff h1 h3 h4).1 (stt_fits h1 h2 h3 h4 h5 h6 h7 h8)

theorem owner_in {a b c k s z : Int} (hc : 1 ≤ b) (h : s / b % a = k ∧ s % b + c ≤ b) (hz : s ≤ z) (hz' : z < s + c) : z / b % a = k := by
  have e := emod_eq (s := s) (p := b)
  have e0 := Int.emod_nonneg s (show b ≠ 0 by omega)
  rw [ediv_of (y := z) (m := s / b) (by omega) (by omega)]
  exact h.1

theorem apart {a b c k j s z : Int} (hc : 1 ≤ b) (h : s / b % a = k ∧ s % b + c ≤ b) (h' : z / b % a = j ∧ z % b + c ≤ b) (hkj : k ≠ j) : s + c ≤ z ∨ z + c ≤ s := by
  have e := emod_eq (s := s) (p := b)
  have e' := emod_eq (s := z) (p := b)
  have e0 := Int.emod_nonneg s (show b ≠ 0 by omega)
  have e0' := Int.emod_nonneg z (show b ≠ 0 by omega)
  have hne : s / b ≠ z / b := fun he => hkj (by rw [← h.1, ← h'.1, he])
  by_cases hlt : s / b < z / b
  · have : (s / b + 1) * b ≤ z / b * b := Int.mul_le_mul_of_nonneg_right (by omega) (by omega)
    rw [Int.add_mul] at this
    omega
  · have : (z / b + 1) * b ≤ s / b * b := Int.mul_le_mul_of_nonneg_right (by omega) (by omega)
    rw [Int.add_mul] at this
    omega

end Go.Proofs.Ytbphlcldbcjncaa
