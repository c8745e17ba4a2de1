/-
  What is proved here: the arithmetic of the bus schedule (no program): the number of transfers in a window, one transfer at a time; a window that is split in two.
-/
import Derived.Test.YtbphlcldbcjncaaPlain5
namespace Go.Proofs.Ytbphlcldbcjncaa

theorem ediv_succ {x c : Int} (hc : 1 ≤ c) : (x + c) / c = x / c + 1 := by
  have := Int.add_mul_ediv_right x 1 (show c ≠ 0 by omega)
  rwa [Int.one_mul] at this

theorem floor_two {x y c : Int} (hc : 1 ≤ c) : x / c + y / c ≤ (x + y) / c ∧ (x + y) / c ≤ x / c + y / c + 1 := by
  have e1 := Int.mul_ediv_add_emod x c
  have e2 := Int.mul_ediv_add_emod y c
  have r1 := Int.emod_nonneg x (show c ≠ 0 by omega)
  have r2 := Int.emod_nonneg y (show c ≠ 0 by omega)
  have s1 := Int.emod_lt_of_pos x (show 0 < c by omega)
  have s2 := Int.emod_lt_of_pos y (show 0 < c by omega)
  have e3 : x + y = (x % c + y % c) + (x / c + y / c) * c := by rw [Int.add_mul, Int.mul_comm (x / c), Int.mul_comm (y / c)]; omega
  rw [e3, Int.add_mul_ediv_right _ _ (show c ≠ 0 by omega)]
  have q0 : 0 ≤ (x % c + y % c) / c := Int.ediv_nonneg (by omega) (by omega)
  have q1 : (x % c + y % c) / c < 2 := Int.ediv_lt_of_lt_mul (by omega) (by omega)
  omega

theorem bs_step {p b c k f t s : Int} {m N : Nat} (hc : 1 ≤ c) (hcb : c ≤ b) (k1 : 0 ≤ k * b) (k2 : k * b + b ≤ p) (ht : 0 ≤ t) (hN : t / p < N)
    (m1 : s = max f (m * p + k * b)) (m2 : s + c ≤ m * p + k * b + b) (m3 : ∀ n : Nat, n < m → n * p + k * b + b - f < c) :
    bs p b c k f t N = if s + c ≤ t then 1 + bs p b c k (s + c) t N else 0 := by
  have up : ∀ n : Nat, m < n → s + c ≤ n * p + k * b := by
    intro n hn
    have := mul_lt_step (n := m) (m := n) (show 0 ≤ p by omega) (by omega)
    omega
  split
  · rename_i hle
    have hmN : m < N := by
      have e := div_bd ht (show 1 ≤ p by omega)
      rcases Nat.lt_or_ge m N with h | h
      · exact h
      · have := mul_lt_step (n := t / p) (m := m) (show 0 ≤ p by omega) (by omega)
        omega
    refine ssum_one hmN (fun n hn hne => ?_) ?_
    · by_cases hlt : n < m
      · have := m3 n hlt
        show cntw _ _ _ _ _ _ _ = cntw _ _ _ _ _ _ _
        rw [cntw_zero hc (by omega), cntw_zero hc (by omega)]
      · have := up n (by omega)
        show cntw _ _ _ _ _ _ _ = cntw _ _ _ _ _ _ _
        unfold cntw
        congr 1
        omega
    · show cntw _ _ _ _ _ _ _ = 1 + cntw _ _ _ _ _ _ _
      unfold cntw
      have e : max (min (m * p + k * b + b) t - max (m * p + k * b) f) 0 = max (min (m * p + k * b + b) t - max (m * p + k * b) (s + c)) 0 + c := by omega
      rw [e, ediv_succ hc]
      omega
  · rename_i hgt
    unfold bs
    rw [ssum_congr (g' := fun _ => 0)]
    · clear hN
      induction N with
      | zero => rfl
      | succ N ih => simp only [ssum, ih]; rfl
    · intro n _
      show cntw _ _ _ _ _ _ _ = 0
      by_cases hlt : n < m
      · have := m3 n hlt
        exact cntw_zero hc (by omega)
      · by_cases he : n = m
        · subst he
          exact cntw_zero hc (by omega)
        · have := up n (by omega)
          exact cntw_zero hc (by omega)

theorem bs_rec {a b c k f t : Int} {N : Nat} (h1 : 1 ≤ a) (h2 : a ≤ 4) (h3 : 1 ≤ c) (h4 : c ≤ b) (h5 : b ≤ 1000000) (h6 : 0 ≤ k) (h7 : k < a) (h8 : 0 ≤ f) (ht : 0 ≤ t) (hN : t / (a * b) < N) :
    bs (a * b) b c k f t N = if stt a b c k f + c ≤ t then 1 + bs (a * b) b c k (stt a b c k f + c) t N else 0 := by
  obtain ⟨m1, m2, m3⟩ := mul_bd (b := b) h1 h2 (by omega) h5
  obtain ⟨k1, k2⟩ := core_bd (a := a) (b := b) (by omega) h6 h7
  obtain ⟨d1, d2, d3, d4, d5⟩ := div_bd h8 m1
  have e1 : ((f / (a * b)) + 1) * (a * b) = f / (a * b) * (a * b) + a * b := by rw [Int.add_mul]; omega
  have low : ∀ n : Int, n < f / (a * b) → n * (a * b) + k * b + b - f < c := by
    intro n hn
    have := mul_lt_step (show 0 ≤ a * b by omega) hn
    omega
  unfold stt
  split
  · rename_i hlt
    refine bs_step (m := (f / (a * b) + 1).toNat) h3 h4 k1 k2 ht hN ?_ ?_ ?_
    · rw [Int.toNat_of_nonneg (by omega), e1]; omega
    · rw [Int.toNat_of_nonneg (by omega), e1]; omega
    · intro n hn
      by_cases he : (n : Int) = f / (a * b)
      · rw [he]; omega
      · exact low n (by omega)
  · rename_i hlt
    refine bs_step (m := (f / (a * b)).toNat) h3 h4 k1 k2 ht hN ?_ ?_ ?_
    · rw [Int.toNat_of_nonneg (by omega)]
    · rw [Int.toNat_of_nonneg (by omega)]; omega
    · intro n hn
      exact low n (by omega)

theorem bs_split {p b c k f u t : Int} {N : Nat} (hc : 1 ≤ c) (hcb : c ≤ b) (k1 : 0 ≤ k * b) (k2 : k * b + b ≤ p) (h8 : 0 ≤ f) (hfu : f ≤ u) (hut : u ≤ t) (hN : t / p < N) :
    bs p b c k f u N + bs p b c k u t N ≤ bs p b c k f t N ∧ bs p b c k f t N ≤ bs p b c k f u N + bs p b c k u t N + 1 := by
  obtain ⟨d1, d2, d3, d4, d5⟩ := div_bd (show 0 ≤ u by omega) (show 1 ≤ p by omega)
  have dm : u / p ≤ t / p := div_mono hut (by omega)
  have hm : ((u / p).toNat : Int) = u / p := Int.toNat_of_nonneg d1
  have fl := floor_two (x := max (min ((u / p).toNat * p + k * b + b) u - max ((u / p).toNat * p + k * b) f) 0) (y := max (min ((u / p).toNat * p + k * b + b) t - max ((u / p).toNat * p + k * b) u) 0) hc
  have e : max (min ((u / p).toNat * p + k * b + b) u - max ((u / p).toNat * p + k * b) f) 0 + max (min ((u / p).toNat * p + k * b + b) t - max ((u / p).toNat * p + k * b) u) 0 = max (min ((u / p).toNat * p + k * b + b) t - max ((u / p).toNat * p + k * b) f) 0 := by omega
  rw [e] at fl
  have key := ssum_one (g := cw p b c k f t) (g' := fun n => cw p b c k f u n + cw p b c k u t n) (N := N) (m := (u / p).toNat)
    (d := cw p b c k f t (u / p).toNat - (cw p b c k f u (u / p).toNat + cw p b c k u t (u / p).toNat)) (by omega) (fun n _ hne => by
      show cntw _ _ _ _ _ _ _ = cntw _ _ _ _ _ _ _ + cntw _ _ _ _ _ _ _
      by_cases hlt : (n : Int) < u / p
      · have := mul_lt_step (show 0 ≤ p by omega) hlt
        rw [cntw_zero (f := u) (t := t) hc (by omega)]
        unfold cntw
        rw [Int.add_zero]
        congr 1
        omega
      · have := mul_lt_step (n := u / p) (m := n) (show 0 ≤ p by omega) (by omega)
        rw [cntw_zero (f := f) (t := u) hc (by omega)]
        unfold cntw
        rw [Int.zero_add]
        congr 1
        omega) (by show _ = _ - (_ + _) + (_ + _); omega)
  rw [ssum_add] at key
  unfold bs
  have f1 : cw p b c k f t (u / p).toNat = max (min ((u / p).toNat * p + k * b + b) t - max ((u / p).toNat * p + k * b) f) 0 / c := rfl
  have f2 : cw p b c k f u (u / p).toNat = max (min ((u / p).toNat * p + k * b + b) u - max ((u / p).toNat * p + k * b) f) 0 / c := rfl
  have f3 : cw p b c k u t (u / p).toNat = max (min ((u / p).toNat * p + k * b + b) t - max ((u / p).toNat * p + k * b) u) 0 / c := rfl
  rw [← f1, ← f2, ← f3] at fl
  omega

theorem bs_nonneg {p b c k f t : Int} {N : Nat} (hb : 0 ≤ b) (hc : 1 ≤ c) : 0 ≤ bs p b c k f t N := by
  unfold bs
  induction N with
  | zero => exact Int.le_refl _
  | succ N ih =>
    have := (cntw_bd (p := p) (k := k) (f := f) (t := t) (n := N) hb hc).1
    show 0 ≤ ssum _ N + cntw _ _ _ _ _ _ _
    omega

/-- A whole round has as many transfers as fit into a slot. -/
theorem bw_round {p b c k m : Int} (hc : 1 ≤ c) (hcb : c ≤ b) (k1 : 0 ≤ k * b) (k2 : k * b + b ≤ p) : bw p b c k (m * p) (m * p + p) = b / c := by
  have e1 : (m + 1) * p = m * p + p := by rw [Int.add_mul]; omega
  have g1 : m * p / p = m := Int.mul_ediv_cancel m (show p ≠ 0 by omega)
  have g2 : (m * p + p) / p = m + 1 := by rw [← e1]; exact Int.mul_ediv_cancel _ (show p ≠ 0 by omega)
  unfold bw
  rw [g1, g2, if_neg (by omega)]
  rw [cntw_zero (n := m + 1) hc (by rw [e1]; omega)]
  have e3 : (m + 1 - m - 1) = 0 := by omega
  rw [e3, Int.zero_mul]
  unfold cntw
  have e4 : max (min (m * p + k * b + b) (m * p + p) - max (m * p + k * b) (m * p)) 0 = b := by omega
  rw [e4]
  omega

end Go.Proofs.Ytbphlcldbcjncaa
