/-
  What is proved here: what Bandwidth returns.
-/
import Derived.Test.YtbphlcldbcjncaaFns2
namespace Go.Proofs.Ytbphlcldbcjncaa
open Go.RowKit

def cntw (p b c k f t n : Int) : Int := max (min (n * p + k * b + b) t - max (n * p + k * b) f) 0 / c
def bw (p b c k f t : Int) : Int :=
  if t / p ≤ f / p then cntw p b c k f t (f / p) else (t / p - f / p - 1) * (b / c) + cntw p b c k f t (f / p) + cntw p b c k f t (t / p)

theorem div_mono {x y p : Int} (h : x ≤ y) (hp : 1 ≤ p) : x / p ≤ y / p := Int.ediv_le_ediv (by omega) h
theorem quo_bd {x c : Int} (h : 0 ≤ x) (hc : 1 ≤ c) : 0 ≤ x / c ∧ x / c ≤ x := ⟨Int.ediv_nonneg h (by omega), Int.ediv_le_self c h⟩
theorem cntw_bd {p b c k f t n : Int} (hb : 0 ≤ b) (hc : 1 ≤ c) : 0 ≤ cntw p b c k f t n ∧ cntw p b c k f t n ≤ b := by
  unfold cntw
  have h := quo_bd (x := max (min (n * p + k * b + b) t - max (n * p + k * b) f) 0) (c := c) (by omega) hc
  omega
theorem prod_bd {x y : Int} (h0 : 0 ≤ x) (h1 : x ≤ 1099511627776) (h2 : 0 ≤ y) (h3 : y ≤ 1000000) : 0 ≤ x * y ∧ x * y ≤ 1099511627776000000 := by
  have e1 := Int.mul_nonneg h0 h2
  have e2 : x * y ≤ 1099511627776 * y := Int.mul_le_mul_of_nonneg_right h1 h2
  omega

theorem cnt_walk (X Y t f c : Int) : (if ((if t < X then t else X) - if Y < f then f else Y) < 0 then 0 else (if t < X then t else X) - if Y < f then f else Y) / c = max (min X t - max Y f) 0 / c := by
  congr 1
  have e1 : (if t < X then t else X) = min X t := by split <;> omega
  have e2 : (if Y < f then f else Y) = max Y f := by split <;> omega
  rw [e1, e2]
  split <;> omega
theorem num_eq {x y : Int} (h : x = y) : Value.int .i64 x = Value.int .i64 y := by rw [h]
theorem w64 {x y : Int} (h : x = y) (h0 : 0 ≤ y) (h1 : y ≤ 9223372036854775807) : Value.int .i64 (wrap64 x) = Value.int .i64 y := by
  subst h
  unfold wrap64
  congr 1
  omega

set_option maxHeartbeats 2000000 in
theorem band_yes (a b c : Int) (v3 v4 v5 v6 v7 v8 v9 v10 v11 v12 v13 v14 : Value) (k f t : Int) (w : World) (h1 : 1 ≤ a) (h2 : a ≤ 4) (h3 : 1 ≤ c) (h4 : c ≤ b) (h5 : b ≤ 1000000) (h6 : 0 ≤ k) (h7 : k < a) (h8 : 0 ≤ f) (h9 : f ≤ 1099511627776) (h10 : f < t) (h11 : t ≤ 1099511627776) :
    Calls Try.prog 16 #[.agg #[.int .i64 a, .int .i64 b, .int .i64 c, v3, v4, v5, v6, v7, v8, v9, v10, v11, v12, v13, v14], .int .i64 k, .int .i64 f, .int .i64 t] w fun e w' => e = .returned (.int .i64 (bw (a * b) b c k f t)) ∧ Below w.heap.size w w' := by
  obtain ⟨m1, m2, m3⟩ := mul_bd (b := b) h1 h2 (by omega) h5
  obtain ⟨k1, k2⟩ := core_bd (a := a) (b := b) (by omega) h6 h7
  obtain ⟨d1, d2, d3, d4, d5⟩ := div_bd h8 m1
  obtain ⟨d1', d2', d3', d4', d5'⟩ := div_bd (show 0 ≤ t by omega) m1
  have dm := div_mono (show f ≤ t by omega) m1
  obtain ⟨q1, q2⟩ := quo_bd (show 0 ≤ b by omega) h3
  have htf : decide (t ≤ f) = false := by simp; omega
  go_enter Try.func16, Try.ntmps16
  go_wp2_with fail
  refine (Calls.ext (valid_yes a b c v3 v4 v5 v6 v7 v8 v9 v10 v11 v12 v13 v14 _ h1 h2 h3 h4 h5)).mono ?_
  rintro e _ ⟨rfl, y1, rfl⟩
  go_wp2_with fail
  refine (Calls.extq (isCore_yes a b c v3 v4 v5 v6 v7 v8 v9 v10 v11 v12 v13 v14 k _ h6 h7)).mono ?_
  rintro e _ ⟨rfl, y2, rfl⟩
  go_wp2_with fail
  refine (Calls.extq (isCycle_yes f _ h8 h9)).mono ?_
  rintro e _ ⟨rfl, y3, rfl⟩
  go_wp2_with fail
  refine (Calls.extq (isCycle_yes t _ (by omega) h11)).mono ?_
  rintro e _ ⟨rfl, y4, rfl⟩
  go_wp2_with fail
  refine wp_region_extq (by kernel_rfl) (by kernel_rfl) ?_
  repeat (go_big_quiet_step (fail))
  refine wpQuiet_nil ?_
  rintro _ ⟨x1, rfl⟩
  have cb1 := cntw_bd (p := a * b) (b := b) (c := c) (k := k) (f := f) (t := t) (n := f / (a * b)) (by omega) h3
  have cb2 := cntw_bd (p := a * b) (b := b) (c := c) (k := k) (f := f) (t := t) (n := t / (a * b)) (by omega) h3
  by_cases hj : t / (a * b) ≤ f / (a * b)
  · have hfin : bw (a * b) b c k f t = cntw (a * b) b c k f t (f / (a * b)) := by unfold bw; rw [if_pos hj]
    have HF := Lib.hid hfin
    clear hfin
    go_wp2_with fail
    go_loop [13, 14] (fun u n => (n = .int .i64 (f / (a * b)) ∧ u = .int .i64 0) ∨ (n = .int .i64 (f / (a * b) + 1) ∧ u = .int .i64 (cntw (a * b) b c k f t (f / (a * b))))) (fun _ n => (f / (a * b) + 1 - intOf n).toNat)
    case atStart => exact Or.inl ⟨rfl, rfl⟩
    case round =>
      rcases hrel with ⟨rfl, rfl⟩ | ⟨rfl, rfl⟩
      · go_wp2
        all_goals
          go_round
          case rel => exact Or.inr ⟨rfl, w64 (cnt_walk _ _ _ _ _) cb1.1 (by have := cb1.2; omega)⟩
          case measure => simp [intOf]; omega
      · go_wp2
        go_ret
        exact ⟨ret_int HF.out.symm, Ext.below ((Below.refl _ _).alloc (Nat.le_refl _) _) (by simp) _⟩
  · have hfin : bw (a * b) b c k f t = (t / (a * b) - f / (a * b) - 1) * (b / c) + cntw (a * b) b c k f t (f / (a * b)) + cntw (a * b) b c k f t (t / (a * b)) := by unfold bw; rw [if_neg hj]
    have HF := Lib.hid hfin
    clear hfin
    obtain ⟨pb1, pb2⟩ := prod_bd (x := t / (a * b) - f / (a * b) - 1) (y := b / c) (by omega) (by omega) (by omega) (by omega)
    go_wp2_with fail
    go_loop [13, 14] (fun u n => (n = .int .i64 (f / (a * b)) ∧ u = .int .i64 ((t / (a * b) - f / (a * b) - 1) * (b / c))) ∨ (n = .int .i64 (t / (a * b)) ∧ u = .int .i64 ((t / (a * b) - f / (a * b) - 1) * (b / c) + cntw (a * b) b c k f t (f / (a * b)))) ∨ (n = .int .i64 (t / (a * b) + (t / (a * b) - f / (a * b))) ∧ u = .int .i64 ((t / (a * b) - f / (a * b) - 1) * (b / c) + cntw (a * b) b c k f t (f / (a * b)) + cntw (a * b) b c k f t (t / (a * b))))) (fun _ n => (t / (a * b) + 1 - intOf n).toNat)
    case atStart => exact Or.inl ⟨rfl, rfl⟩
    case round =>
      rcases hrel with ⟨rfl, rfl⟩ | ⟨rfl, rfl⟩ | ⟨rfl, rfl⟩
      · go_wp2
        all_goals
          go_round
          case rel => exact Or.inr (Or.inl ⟨num_eq (by omega), w64 (congrArg _ (cnt_walk _ _ _ _ _)) (by have := cb1.1; unfold cntw at this; omega) (by have := cb1.2; unfold cntw at this; omega)⟩)
          case measure => simp [intOf]; omega
      · go_wp2
        all_goals
          go_round
          case rel => exact Or.inr (Or.inr ⟨rfl, w64 (congrArg _ (cnt_walk _ _ _ _ _)) (by have := cb1.1; have := cb2.1; unfold cntw at *; omega) (by have := cb1.2; have := cb2.2; unfold cntw at *; omega)⟩)
          case measure => simp [intOf]; omega
      · go_wp2
        go_ret
        exact ⟨ret_int HF.out.symm, Ext.below ((Below.refl _ _).alloc (Nat.le_refl _) _) (by simp) _⟩

set_option maxHeartbeats 2000000 in
theorem band_zero (a b c : Int) (v3 v4 v5 v6 v7 v8 v9 v10 v11 v12 v13 v14 : Value) (k f t : Int) (w : World) (h1 : 1 ≤ a) (h2 : a ≤ 4) (h3 : 1 ≤ c) (h4 : c ≤ b) (h5 : b ≤ 1000000) (h6 : 0 ≤ k) (h7 : k < a) (h8 : 0 ≤ f) (h9 : f ≤ 1099511627776) (h10 : t ≤ f) (h11 : 0 ≤ t) :
    Calls Try.prog 16 #[.agg #[.int .i64 a, .int .i64 b, .int .i64 c, v3, v4, v5, v6, v7, v8, v9, v10, v11, v12, v13, v14], .int .i64 k, .int .i64 f, .int .i64 t] w fun e w' => e = .returned (.int .i64 0) ∧ Below w.heap.size w w' := by
  go_enter Try.func16, Try.ntmps16
  go_wp2_with fail
  refine (Calls.ext (valid_yes a b c v3 v4 v5 v6 v7 v8 v9 v10 v11 v12 v13 v14 _ h1 h2 h3 h4 h5)).mono ?_
  rintro e _ ⟨rfl, y1, rfl⟩
  go_wp2_with fail
  refine (Calls.extq (isCore_yes a b c v3 v4 v5 v6 v7 v8 v9 v10 v11 v12 v13 v14 k _ h6 h7)).mono ?_
  rintro e _ ⟨rfl, y2, rfl⟩
  go_wp2_with fail
  refine (Calls.extq (isCycle_yes f _ h8 h9)).mono ?_
  rintro e _ ⟨rfl, y3, rfl⟩
  go_wp2_with fail
  refine (Calls.extq (isCycle_yes t _ h11 (by omega))).mono ?_
  rintro e _ ⟨rfl, y4, rfl⟩
  go_wp2
  go_ret
  exact ⟨rfl, Ext.below ((Below.refl _ _).alloc (Nat.le_refl _) _) (by simp) _⟩

end Go.Proofs.Ytbphlcldbcjncaa
