/-
  What is proved here: what each function of package bus returns (contracts), for valid configurations and for refused ones.
-/
import Derived.Test.YtbphlcldbcjncaaExt
namespace Go.Proofs.Ytbphlcldbcjncaa
open Go.RowKit

def vld (a b c : Int) : Bool := decide (1 ≤ a) && decide (a ≤ 4) && decide (1 ≤ c) && decide (c ≤ b) && decide (b ≤ 1000000)

set_option maxHeartbeats 400000 in
theorem valid_any (a b c : Int) (v3 v4 v5 v6 v7 v8 v9 v10 v11 v12 v13 v14 : Value) (w : World) :
    Calls Try.prog 12 #[.agg #[.int .i64 a, .int .i64 b, .int .i64 c, v3, v4, v5, v6, v7, v8, v9, v10, v11, v12, v13, v14]] w fun e w' => e = .returned (.bool (vld a b c)) ∧ Below w.heap.size w w' := by
  go_enter Try.func12, Try.ntmps12
  go_wp2
  all_goals
    go_ret
    refine ⟨?_, (Below.refl _ _).alloc (Nat.le_refl _) _⟩
    simp [vld, *]
  all_goals omega

set_option maxHeartbeats 400000 in
theorem isCore_any (a b c : Int) (v3 v4 v5 v6 v7 v8 v9 v10 v11 v12 v13 v14 : Value) (k : Int) (w : World) :
    Calls Try.prog 24 #[.agg #[.int .i64 a, .int .i64 b, .int .i64 c, v3, v4, v5, v6, v7, v8, v9, v10, v11, v12, v13, v14], .int .i64 k] w fun e w' => e = .returned (.bool (decide (0 ≤ k) && decide (k < a))) ∧ Below w.heap.size w w' := by
  go_enter Try.func24, Try.ntmps24
  go_wp2
  all_goals
    go_ret
    refine ⟨?_, (Below.refl _ _).alloc (Nat.le_refl _) _⟩
    simp [*]
  all_goals omega

set_option maxHeartbeats 400000 in
theorem isCycle_any (k : Int) (w : World) :
    Calls Try.prog 25 #[.int .i64 k] w fun e w' => e = .returned (.bool (decide (0 ≤ k) && decide (k ≤ 1099511627776))) ∧ Below w.heap.size w w' := by
  go_enter Try.func25, Try.ntmps25
  go_wp2
  all_goals
    go_ret
    refine ⟨?_, Below.refl _ _⟩
    simp [*]
  all_goals omega

theorem vld_true {a b c : Int} (h1 : 1 ≤ a) (h2 : a ≤ 4) (h3 : 1 ≤ c) (h4 : c ≤ b) (h5 : b ≤ 1000000) : vld a b c = true := by simp [vld, *]
theorem valid_yes (a b c : Int) (v3 v4 v5 v6 v7 v8 v9 v10 v11 v12 v13 v14 : Value) (w : World) (h1 : 1 ≤ a) (h2 : a ≤ 4) (h3 : 1 ≤ c) (h4 : c ≤ b) (h5 : b ≤ 1000000) :
    Calls Try.prog 12 #[.agg #[.int .i64 a, .int .i64 b, .int .i64 c, v3, v4, v5, v6, v7, v8, v9, v10, v11, v12, v13, v14]] w fun e w' => e = .returned (.bool true) ∧ Below w.heap.size w w' :=
  (valid_any a b c v3 v4 v5 v6 v7 v8 v9 v10 v11 v12 v13 v14 w).mono fun _ _ ⟨h, k⟩ => ⟨by rw [h, vld_true h1 h2 h3 h4 h5], k⟩
theorem valid_no (a b c : Int) (v3 v4 v5 v6 v7 v8 v9 v10 v11 v12 v13 v14 : Value) (w : World) (h1 : vld a b c = false) :
    Calls Try.prog 12 #[.agg #[.int .i64 a, .int .i64 b, .int .i64 c, v3, v4, v5, v6, v7, v8, v9, v10, v11, v12, v13, v14]] w fun e w' => e = .returned (.bool false) ∧ Below w.heap.size w w' :=
  (valid_any a b c v3 v4 v5 v6 v7 v8 v9 v10 v11 v12 v13 v14 w).mono fun _ _ ⟨h, k⟩ => ⟨by rw [h, h1], k⟩
theorem isCore_yes (a b c : Int) (v3 v4 v5 v6 v7 v8 v9 v10 v11 v12 v13 v14 : Value) (k : Int) (w : World) (h1 : 0 ≤ k) (h2 : k < a) :
    Calls Try.prog 24 #[.agg #[.int .i64 a, .int .i64 b, .int .i64 c, v3, v4, v5, v6, v7, v8, v9, v10, v11, v12, v13, v14], .int .i64 k] w fun e w' => e = .returned (.bool true) ∧ Below w.heap.size w w' :=
  (isCore_any a b c v3 v4 v5 v6 v7 v8 v9 v10 v11 v12 v13 v14 k w).mono fun _ _ ⟨h, k⟩ => ⟨by rw [h]; simp [h1, h2], k⟩
theorem isCore_no (a b c : Int) (v3 v4 v5 v6 v7 v8 v9 v10 v11 v12 v13 v14 : Value) (k : Int) (w : World) (h1 : k < 0 ∨ a ≤ k) :
    Calls Try.prog 24 #[.agg #[.int .i64 a, .int .i64 b, .int .i64 c, v3, v4, v5, v6, v7, v8, v9, v10, v11, v12, v13, v14], .int .i64 k] w fun e w' => e = .returned (.bool false) ∧ Below w.heap.size w w' :=
  (isCore_any a b c v3 v4 v5 v6 v7 v8 v9 v10 v11 v12 v13 v14 k w).mono fun _ _ ⟨h, k⟩ => ⟨by rw [h]; congr 2; simp; omega, k⟩
theorem isCycle_yes (k : Int) (w : World) (h1 : 0 ≤ k) (h2 : k ≤ 1099511627776) :
    Calls Try.prog 25 #[.int .i64 k] w fun e w' => e = .returned (.bool true) ∧ Below w.heap.size w w' :=
  (isCycle_any k w).mono fun _ _ ⟨h, k⟩ => ⟨by rw [h]; simp [h1, h2], k⟩
theorem isCycle_no (k : Int) (w : World) (h1 : k < 0 ∨ 1099511627776 < k) :
    Calls Try.prog 25 #[.int .i64 k] w fun e w' => e = .returned (.bool false) ∧ Below w.heap.size w w' :=
  (isCycle_any k w).mono fun _ _ ⟨h, k⟩ => ⟨by rw [h]; congr 2; simp; omega, k⟩

def stt (a b c k t : Int) : Int := if t / (a * b) * (a * b) + k * b + b - c < t then max t (t / (a * b) * (a * b) + k * b + a * b) else max t (t / (a * b) * (a * b) + k * b)

theorem mul_bd {a b : Int} (h1 : 1 ≤ a) (h2 : a ≤ 4) (h3 : 1 ≤ b) (h4 : b ≤ 1000000) : 1 ≤ a * b ∧ a * b ≤ 4000000 ∧ b ≤ a * b := by
  have e1 : 1 * b ≤ a * b := Int.mul_le_mul_of_nonneg_right h1 (by omega)
  have e2 : a * b ≤ 4 * b := Int.mul_le_mul_of_nonneg_right h2 (by omega)
  omega
theorem core_bd {a b k : Int} (h1 : 1 ≤ b) (h2 : 0 ≤ k) (h3 : k < a) : 0 ≤ k * b ∧ k * b + b ≤ a * b := by
  have e1 : 0 ≤ k * b := Int.mul_nonneg h2 (by omega)
  have e2 : (k + 1) * b ≤ a * b := Int.mul_le_mul_of_nonneg_right (by omega) (by omega)
  rw [Int.add_mul] at e2
  omega
theorem div_bd {t p : Int} (h1 : 0 ≤ t) (h2 : 1 ≤ p) : 0 ≤ t / p ∧ 0 ≤ t / p * p ∧ t / p * p ≤ t ∧ t < t / p * p + p ∧ t / p ≤ t := by
  have e1 : 0 ≤ t / p := Int.ediv_nonneg h1 (by omega)
  have e2 := Int.mul_ediv_add_emod t p
  have e3 := Int.emod_nonneg t (show p ≠ 0 by omega)
  have e4 := Int.emod_lt_of_pos t (show 0 < p by omega)
  have e5 := Int.ediv_le_self p h1
  rw [Int.mul_comm] at e2
  have e6 : 0 ≤ t / p * p := Int.mul_nonneg e1 (by omega)
  omega

set_option maxHeartbeats 1000000 in
theorem start_yes (a b c : Int) (v3 v4 v5 v6 v7 v8 v9 v10 v11 v12 v13 v14 : Value) (k t : Int) (w : World) (h1 : 1 ≤ a) (h2 : a ≤ 4) (h3 : 1 ≤ c) (h4 : c ≤ b) (h5 : b ≤ 1000000) (h6 : 0 ≤ k) (h7 : k < a) (h8 : 0 ≤ t) (h9 : t ≤ 1099511627776) :
    Calls Try.prog 14 #[.agg #[.int .i64 a, .int .i64 b, .int .i64 c, v3, v4, v5, v6, v7, v8, v9, v10, v11, v12, v13, v14], .int .i64 k, .int .i64 t] w fun e w' => e = .returned (.int .i64 (stt a b c k t)) ∧ Below w.heap.size w w' := by
  obtain ⟨m1, m2, m3⟩ := mul_bd (b := b) h1 h2 (by omega) h5
  obtain ⟨k1, k2⟩ := core_bd (a := a) (b := b) (by omega) h6 h7
  obtain ⟨d1, d2, d3, d4, d5⟩ := div_bd h8 m1
  go_enter Try.func14, Try.ntmps14
  go_wp2_with fail
  refine (Calls.ext (valid_yes a b c v3 v4 v5 v6 v7 v8 v9 v10 v11 v12 v13 v14 _ h1 h2 h3 h4 h5)).mono ?_
  rintro e _ ⟨rfl, y1, rfl⟩
  go_wp2_with fail
  refine (Calls.extq (isCore_yes a b c v3 v4 v5 v6 v7 v8 v9 v10 v11 v12 v13 v14 k _ h6 h7)).mono ?_
  rintro e _ ⟨rfl, y2, rfl⟩
  go_wp2_with fail
  refine (Calls.extq (isCycle_yes t _ h8 h9)).mono ?_
  rintro e _ ⟨rfl, y3, rfl⟩
  go_wp2_with fail
  refine wp_region_extq (by kernel_rfl) (by kernel_rfl) ?_
  repeat (go_big_quiet_step (fail))
  refine wpQuiet_nil ?_
  rintro _ ⟨x1, rfl⟩
  go_wp2
  all_goals
    go_ret
    refine ⟨ret_int ?_, ?_⟩
    · unfold stt
      split <;> omega
    · exact Ext.below ((Below.refl _ _).alloc (Nat.le_refl _) _) (by simp) _

end Go.Proofs.Ytbphlcldbcjncaa
