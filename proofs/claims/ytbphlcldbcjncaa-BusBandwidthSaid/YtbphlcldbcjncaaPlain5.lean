/-
  What is proved here: the arithmetic of the bus schedule (no program): the number of transfers in a window as a sum over the rounds; how it changes with the window.
-/
import Derived.Test.YtbphlcldbcjncaaBandNo
import Derived.Test.YtbphlcldbcjncaaPlain4
namespace Go.Proofs.Ytbphlcldbcjncaa

def ssum (g : Nat → Int) : Nat → Int
  | 0 => 0
  | n + 1 => ssum g n + g n

theorem ssum_congr {g g' : Nat → Int} {N : Nat} (h : ∀ n, n < N → g n = g' n) : ssum g N = ssum g' N := by
  induction N with
  | zero => rfl
  | succ N ih => simp only [ssum]; rw [ih (fun n hn => h n (by omega)), h N (by omega)]

theorem ssum_one {g g' : Nat → Int} {N m : Nat} {d : Int} (hm : m < N) (h : ∀ n, n < N → n ≠ m → g n = g' n) (hd : g m = d + g' m) : ssum g N = d + ssum g' N := by
  induction N with
  | zero => omega
  | succ N ih =>
    simp only [ssum]
    by_cases he : m = N
    · subst he
      rw [ssum_congr (fun n hn => h n (by omega) (by omega)), hd]; omega
    · rw [ih (by omega) (fun n hn => h n (by omega)), h N (by omega) (by omega)]; omega

theorem ssum_add {g g' : Nat → Int} {N : Nat} : ssum (fun n => g n + g' n) N = ssum g N + ssum g' N := by
  induction N with
  | zero => rfl
  | succ N ih => simp only [ssum, ih]; omega

def cw (p b c k f t : Int) (n : Nat) : Int := cntw p b c k f t n
def bs (p b c k f t : Int) (N : Nat) : Int := ssum (cw p b c k f t) N

/-- n * p against m * p. -/
theorem mul_lt_step {n m p : Int} (hp : 0 ≤ p) (h : n < m) : n * p + p ≤ m * p := by
  have := Int.mul_le_mul_of_nonneg_right (show n + 1 ≤ m by omega) hp
  rw [Int.add_mul] at this
  omega

theorem cntw_zero {p b c k f t n : Int} (hc : 1 ≤ c) (h : min (n * p + k * b + b) t - max (n * p + k * b) f < c) : cntw p b c k f t n = 0 := by
  unfold cntw
  exact Int.ediv_eq_zero_of_lt (by omega) (by omega)

theorem cw_before {n : Int} {p b c k f t : Int} (hc : 1 ≤ c) (hcb : c ≤ b) (k1 : 0 ≤ k * b) (k2 : k * b + b ≤ p) (hf : 0 ≤ f) (h : n < f / p) : cntw p b c k f t n = 0 := by
  obtain ⟨d1, d2, d3, d4, d5⟩ := div_bd hf (show 1 ≤ p by omega)
  have := mul_lt_step (show 0 ≤ p by omega) h
  exact cntw_zero hc (by omega)

theorem cw_behind {n : Int} {p b c k f t : Int} (hc : 1 ≤ c) (hcb : c ≤ b) (k1 : 0 ≤ k * b) (k2 : k * b + b ≤ p) (ht : 0 ≤ t) (h : t / p < n) : cntw p b c k f t n = 0 := by
  obtain ⟨d1, d2, d3, d4, d5⟩ := div_bd ht (show 1 ≤ p by omega)
  have := mul_lt_step (show 0 ≤ p by omega) h
  exact cntw_zero hc (by omega)

theorem cw_mid {n : Int} {p b c k f t : Int} (hc : 1 ≤ c) (hcb : c ≤ b) (k1 : 0 ≤ k * b) (k2 : k * b + b ≤ p) (hf : 0 ≤ f) (ht : 0 ≤ t) (h : f / p < n) (h' : n < t / p) : cntw p b c k f t n = b / c := by
  obtain ⟨d1, d2, d3, d4, d5⟩ := div_bd hf (show 1 ≤ p by omega)
  obtain ⟨e1, e2, e3, e4, e5⟩ := div_bd ht (show 1 ≤ p by omega)
  have g1 := mul_lt_step (show 0 ≤ p by omega) h
  have g2 := mul_lt_step (show 0 ≤ p by omega) h'
  unfold cntw
  congr 1
  omega

theorem bs_partial {p b c k f t : Int} (hc : 1 ≤ c) (hcb : c ≤ b) (k1 : 0 ≤ k * b) (k2 : k * b + b ≤ p) (hf : 0 ≤ f) (hft : f ≤ t) : ∀ m : Nat, ((m : Int) ≤ f / p → bs p b c k f t m = 0) ∧ (f / p < m → (m : Int) ≤ t / p → bs p b c k f t m = cntw p b c k f t (f / p) + (m - f / p - 1) * (b / c)) ∧ (t / p < m → bs p b c k f t m = bw p b c k f t) := by
  obtain ⟨d1, d2, d3, d4, d5⟩ := div_bd hf (show 1 ≤ p by omega)
  have dm : f / p ≤ t / p := div_mono hft (by omega)
  intro m
  induction m with
  | zero => exact ⟨fun _ => rfl, by omega, by omega⟩
  | succ m ih =>
    obtain ⟨i1, i2, i3⟩ := ih
    have step : bs p b c k f t (m + 1) = bs p b c k f t m + cntw p b c k f t m := rfl
    refine ⟨fun h => ?_, fun h h' => ?_, fun h => ?_⟩
    · rw [step, i1 (by omega), cw_before hc hcb k1 k2 hf (by omega)]; rfl
    · rw [step]
      by_cases he : (m : Int) = f / p
      · rw [i1 (by omega), he]
        have : ((m + 1 : Nat) : Int) - f / p - 1 = 0 := by omega
        rw [this]; omega
      · rw [i2 (by omega) (by omega), cw_mid (n := m) hc hcb k1 k2 hf (by omega) (by omega) (by omega)]
        have : ((m + 1 : Nat) : Int) - f / p - 1 = (m - f / p - 1) + 1 := by omega
        rw [this, Int.add_mul]; omega
    · rw [step]
      by_cases hl : t / p < (m : Int)
      · rw [i3 hl, cw_behind hc hcb k1 k2 (by omega) hl]; omega
      · have he : (m : Int) = t / p := by omega
        unfold bw
        by_cases hj : t / p ≤ f / p
        · have : f / p = t / p := by omega
          rw [if_pos hj, i1 (by omega), he, this]; omega
        · rw [if_neg hj, i2 (by omega) (by omega), he]; omega

theorem bw_sum {p b c k f t : Int} (hc : 1 ≤ c) (hcb : c ≤ b) (k1 : 0 ≤ k * b) (k2 : k * b + b ≤ p) (hf : 0 ≤ f) (hft : f ≤ t) {N : Nat} (hN : t / p < N) : bw p b c k f t = bs p b c k f t N :=
  ((bs_partial hc hcb k1 k2 hf hft N).2.2 hN).symm

theorem bs_empty {p b c k f t : Int} (hc : 1 ≤ c) (htf : t ≤ f) (N : Nat) : bs p b c k f t N = 0 := by
  unfold bs
  rw [ssum_congr (g' := fun _ => 0)]
  · induction N with
    | zero => rfl
    | succ N ih => simp only [ssum, ih]; rfl
  · intro n _
    exact cntw_zero hc (by omega)
end Go.Proofs.Ytbphlcldbcjncaa
