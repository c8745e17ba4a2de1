/-
  What is proved here: the arithmetic of the bus schedule (no program): Start is the first cycle at which a transfer fits; slots and owners.
-/
import Derived.Test.YtbphlcldbcjncaaFns2
import Derived.Test.YtbphlcldbcjncaaPlain1
namespace Go.Proofs.Ytbphlcldbcjncaa

/-- A transfer of core k fits at s. -/
def Fit (a b c k s : Int) : Prop := k * b ≤ s % (a * b) ∧ s % (a * b) ≤ k * b + b - c

theorem emod_eq {s p : Int} : s % p = s - s / p * p := by
  have := Int.mul_ediv_add_emod s p
  rw [Int.mul_comm] at this
  omega

theorem stt_fits {a b c k t : Int} (h1 : 1 ≤ a) (h2 : a ≤ 4) (h3 : 1 ≤ c) (h4 : c ≤ b) (h5 : b ≤ 1000000) (h6 : 0 ≤ k) (h7 : k < a) (h8 : 0 ≤ t) : Fit a b c k (stt a b c k t) := by
  obtain ⟨m1, m2, m3⟩ := mul_bd (b := b) h1 h2 (by omega) h5
  obtain ⟨k1, k2⟩ := core_bd (a := a) (b := b) (by omega) h6 h7
  obtain ⟨d1, d2, d3, d4, d5⟩ := div_bd h8 m1
  have e1 : ((t / (a * b)) + 1) * (a * b) = t / (a * b) * (a * b) + a * b := by rw [Int.add_mul]; omega
  have key : ∀ z m : Int, m * (a * b) ≤ z → z < m * (a * b) + a * b → k * b ≤ z - m * (a * b) → z - m * (a * b) ≤ k * b + b - c → Fit a b c k z := by
    intro z m g1 g2 g3 g4
    unfold Fit
    rw [emod_eq, ediv_of g1 g2]
    exact ⟨g3, g4⟩
  unfold stt
  split
  · rename_i hlt
    refine key _ (t / (a * b) + 1) ?_ ?_ ?_ ?_ <;> rw [e1] <;> omega
  · rename_i hlt
    refine key _ (t / (a * b)) ?_ ?_ ?_ ?_ <;> omega

theorem stt_least {a b c k t s : Int} (h1 : 1 ≤ a) (h2 : a ≤ 4) (h3 : 1 ≤ c) (h4 : c ≤ b) (h5 : b ≤ 1000000) (h6 : 0 ≤ k) (h7 : k < a) (h8 : 0 ≤ t) (hs : t ≤ s) (hf : Fit a b c k s) : stt a b c k t ≤ s := by
  obtain ⟨m1, m2, m3⟩ := mul_bd (b := b) h1 h2 (by omega) h5
  obtain ⟨k1, k2⟩ := core_bd (a := a) (b := b) (by omega) h6 h7
  obtain ⟨d1, d2, d3, d4, d5⟩ := div_bd h8 m1
  obtain ⟨f1, f2, f3, f4, f5⟩ := div_bd (show 0 ≤ s by omega) m1
  have dm : t / (a * b) ≤ s / (a * b) := Int.ediv_le_ediv (by omega) hs
  unfold Fit at hf
  rw [emod_eq] at hf
  unfold stt
  by_cases he : s / (a * b) = t / (a * b)
  · rw [he] at hf f2 f3 f4
    split <;> omega
  · have hY : (t / (a * b) + 1) * (a * b) ≤ s / (a * b) * (a * b) := Int.mul_le_mul_of_nonneg_right (by omega) (by omega)
    rw [Int.add_mul] at hY
    split <;> omega

theorem stt_mono {a b c k t t' : Int} (h1 : 1 ≤ a) (h2 : a ≤ 4) (h3 : 1 ≤ c) (h4 : c ≤ b) (h5 : b ≤ 1000000) (h6 : 0 ≤ k) (h7 : k < a) (h8 : 0 ≤ t) (h : t ≤ t') : stt a b c k t ≤ stt a b c k t' :=
  stt_least h1 h2 h3 h4 h5 h6 h7 h8 (by have := (stt_bd h1 h2 h3 h4 h5 h6 h7 (show 0 ≤ t' by omega)).1; omega) (stt_fits h1 h2 h3 h4 h5 h6 h7 (by omega))

theorem stt_same {a b c k t t' : Int} (h1 : 1 ≤ a) (h2 : a ≤ 4) (h3 : 1 ≤ c) (h4 : c ≤ b) (h5 : b ≤ 1000000) (h6 : 0 ≤ k) (h7 : k < a) (h8 : 0 ≤ t) (h : t ≤ t') (h' : t' ≤ stt a b c k t) : stt a b c k t' = stt a b c k t := by
  have e1 := stt_mono h1 h2 h3 h4 h5 h6 h7 h8 h
  have e2 := stt_least h1 h2 h3 h4 h5 h6 h7 (show 0 ≤ t' by omega) h' (stt_fits h1 h2 h3 h4 h5 h6 h7 h8)
  omega

theorem stt_idem {a b c k t : Int} (h1 : 1 ≤ a) (h2 : a ≤ 4) (h3 : 1 ≤ c) (h4 : c ≤ b) (h5 : b ≤ 1000000) (h6 : 0 ≤ k) (h7 : k < a) (h8 : 0 ≤ t) : stt a b c k (stt a b c k t) = stt a b c k t :=
  stt_same h1 h2 h3 h4 h5 h6 h7 h8 (stt_bd h1 h2 h3 h4 h5 h6 h7 h8).1 (Int.le_refl _)

/-- The slot of s and its owner, seen from the round. -/
theorem slot_of {a b s : Int} (hb : 1 ≤ b) : s / b = s / (a * b) * a + s % (a * b) / b ∧ s % b = s % (a * b) % b := by
  have e := Int.mul_ediv_add_emod s (a * b)
  have e' : s = s % (a * b) + s / (a * b) * a * b := by rw [Int.mul_assoc, Int.mul_comm (s / (a * b))]; omega
  constructor
  · conv => lhs; rw [e']
    rw [Int.add_mul_ediv_right _ _ (by omega)]
    omega
  · conv => lhs; rw [e']
    rw [Int.add_mul_emod_self_right]

theorem fit_iff {a b c k s : Int} (h1 : 1 ≤ a) (h3 : 1 ≤ c) (h4 : c ≤ b) : Fit a b c k s ↔ s / b % a = k ∧ s % b + c ≤ b := by
  have hab : 0 < a * b := Int.mul_pos (by omega) (by omega)
  obtain ⟨s1, s2⟩ := slot_of (a := a) (b := b) (s := s) (by omega)
  have r0 := Int.emod_nonneg s (show a * b ≠ 0 by omega)
  have r1 := Int.emod_lt_of_pos s hab
  unfold Fit
  rw [s1, s2]
  generalize s % (a * b) = r at *
  have q0 : 0 ≤ r / b := Int.ediv_nonneg r0 (by omega)
  have q1 : r / b < a := Int.ediv_lt_of_lt_mul (by omega) r1
  have e := Int.mul_ediv_add_emod r b
  rw [Int.mul_comm] at e
  have e0 := Int.emod_nonneg r (show b ≠ 0 by omega)
  have e1 := Int.emod_lt_of_pos r (show 0 < b by omega)
  rw [Int.add_comm (s / (a * b) * a), Int.add_mul_emod_self_right, Int.emod_eq_of_lt q0 q1]
  constructor
  · rintro ⟨f1, f2⟩
    have hk : r / b = k := ediv_of f1 (by omega)
    rw [hk] at e
    exact ⟨hk, by omega⟩
  · rintro ⟨f1, f2⟩
    rw [f1] at e
    omega

end Go.Proofs.Ytbphlcldbcjncaa
