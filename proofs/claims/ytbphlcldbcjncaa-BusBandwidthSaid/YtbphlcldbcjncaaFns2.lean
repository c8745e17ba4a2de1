/-
  What is proved here: what Done, Owner, MaxWait and MaxTransfer return, and that Start refuses with -1.
-/
import Derived.Test.YtbphlcldbcjncaaFns
namespace Go.Proofs.Ytbphlcldbcjncaa
open Go.RowKit

/-! Refusals: each function answers -1. -/
set_option maxHeartbeats 1000000 in
theorem start_no (a b c : Int) (v3 v4 v5 v6 v7 v8 v9 v10 v11 v12 v13 v14 : Value) (k t : Int) (w : World) (h : vld a b c = false ∨ (k < 0 ∨ a ≤ k) ∨ (t < 0 ∨ 1099511627776 < t)) :
    Calls Try.prog 14 #[.agg #[.int .i64 a, .int .i64 b, .int .i64 c, v3, v4, v5, v6, v7, v8, v9, v10, v11, v12, v13, v14], .int .i64 k, .int .i64 t] w fun e w' => e = .returned (.int .i64 (-1)) ∧ Below w.heap.size w w' := by
  by_cases hv : vld a b c = true
  · have H := Lib.hid h
    have HV := Lib.hid hv
    clear h hv
    go_enter Try.func14, Try.ntmps14
    go_wp2_with fail
    refine (Calls.ext ((valid_any a b c v3 v4 v5 v6 v7 v8 v9 v10 v11 v12 v13 v14 _).mono fun _ _ ⟨h, k⟩ => ⟨by rw [h, HV.out], k⟩)).mono ?_
    rintro e _ ⟨rfl, y1, rfl⟩
    by_cases hk : k < 0 ∨ a ≤ k
    · have HK := Lib.hid hk
      clear hk
      go_wp2_with fail
      refine (Calls.extq (isCore_no a b c v3 v4 v5 v6 v7 v8 v9 v10 v11 v12 v13 v14 k _ HK.out)).mono ?_
      rintro e _ ⟨rfl, y2, rfl⟩
      go_wp2
      go_ret
      exact ⟨rfl, Ext.below ((Below.refl _ _).alloc (Nat.le_refl _) _) (by simp) _⟩
    · have ht : t < 0 ∨ 1099511627776 < t := by
        rcases H.out with h | h | h
        · rw [HV.out] at h; cases h
        · exact absurd h hk
        · exact h
      have HK := Lib.hid hk
      have HT := Lib.hid ht
      clear hk ht
      go_wp2_with fail
      refine (Calls.extq (isCore_yes a b c v3 v4 v5 v6 v7 v8 v9 v10 v11 v12 v13 v14 k _ (by have := HK.out; omega) (by have := HK.out; omega))).mono ?_
      rintro e _ ⟨rfl, y2, rfl⟩
      go_wp2_with fail
      refine (Calls.extq (isCycle_no t _ HT.out)).mono ?_
      rintro e _ ⟨rfl, y3, rfl⟩
      go_wp2
      go_ret
      exact ⟨rfl, Ext.below ((Below.refl _ _).alloc (Nat.le_refl _) _) (by simp) _⟩
  · have hv' : vld a b c = false := by simpa using hv
    have HV := Lib.hid hv'
    clear h hv hv'
    go_enter Try.func14, Try.ntmps14
    go_wp2_with fail
    refine (Calls.ext (valid_no a b c v3 v4 v5 v6 v7 v8 v9 v10 v11 v12 v13 v14 _ HV.out)).mono ?_
    rintro e _ ⟨rfl, y1, rfl⟩
    go_wp2
    go_ret
    exact ⟨rfl, Ext.below ((Below.refl _ _).alloc (Nat.le_refl _) _) (by simp) _⟩


theorem stt_bd {a b c k t : Int} (h1 : 1 ≤ a) (h2 : a ≤ 4) (h3 : 1 ≤ c) (h4 : c ≤ b) (h5 : b ≤ 1000000) (h6 : 0 ≤ k) (h7 : k < a) (h8 : 0 ≤ t) : t ≤ stt a b c k t ∧ stt a b c k t ≤ t + 8000000 := by
  obtain ⟨m1, m2, m3⟩ := mul_bd (b := b) h1 h2 (by omega) h5
  obtain ⟨k1, k2⟩ := core_bd (a := a) (b := b) (by omega) h6 h7
  obtain ⟨d1, d2, d3, d4, d5⟩ := div_bd h8 m1
  unfold stt
  split <;> omega

set_option maxHeartbeats 1000000 in
theorem done_yes (a b c : Int) (v3 v4 v5 v6 v7 v8 v9 v10 v11 v12 v13 v14 : Value) (k t : Int) (w : World) (h1 : 1 ≤ a) (h2 : a ≤ 4) (h3 : 1 ≤ c) (h4 : c ≤ b) (h5 : b ≤ 1000000) (h6 : 0 ≤ k) (h7 : k < a) (h8 : 0 ≤ t) (h9 : t ≤ 1099511627776) :
    Calls Try.prog 20 #[.agg #[.int .i64 a, .int .i64 b, .int .i64 c, v3, v4, v5, v6, v7, v8, v9, v10, v11, v12, v13, v14], .int .i64 k, .int .i64 t] w fun e w' => e = .returned (.int .i64 (stt a b c k t + c)) ∧ Below w.heap.size w w' := by
  obtain ⟨s1, s2⟩ := stt_bd (c := c) h1 h2 h3 h4 h5 h6 h7 h8
  go_enter Try.func20, Try.ntmps20
  go_wp2_with fail
  refine (Calls.ext (start_yes a b c v3 v4 v5 v6 v7 v8 v9 v10 v11 v12 v13 v14 k t _ h1 h2 h3 h4 h5 h6 h7 h8 h9)).mono ?_
  rintro e _ ⟨rfl, y1, rfl⟩
  go_wp2
  go_ret
  exact ⟨rfl, Ext.below ((Below.refl _ _).alloc (Nat.le_refl _) _) (by simp) _⟩

set_option maxHeartbeats 1000000 in
theorem done_no (a b c : Int) (v3 v4 v5 v6 v7 v8 v9 v10 v11 v12 v13 v14 : Value) (k t : Int) (w : World) (h : vld a b c = false ∨ (k < 0 ∨ a ≤ k) ∨ (t < 0 ∨ 1099511627776 < t)) :
    Calls Try.prog 20 #[.agg #[.int .i64 a, .int .i64 b, .int .i64 c, v3, v4, v5, v6, v7, v8, v9, v10, v11, v12, v13, v14], .int .i64 k, .int .i64 t] w fun e w' => e = .returned (.int .i64 (-1)) ∧ Below w.heap.size w w' := by
  have H := Lib.hid h
  clear h
  go_enter Try.func20, Try.ntmps20
  go_wp2_with fail
  refine (Calls.ext (start_no a b c v3 v4 v5 v6 v7 v8 v9 v10 v11 v12 v13 v14 k t _ H.out)).mono ?_
  rintro e _ ⟨rfl, y1, rfl⟩
  go_wp2
  go_ret
  exact ⟨rfl, Ext.below ((Below.refl _ _).alloc (Nat.le_refl _) _) (by simp) _⟩

set_option maxHeartbeats 1000000 in
theorem owner_yes (a b c : Int) (v3 v4 v5 v6 v7 v8 v9 v10 v11 v12 v13 v14 : Value) (t : Int) (w : World) (h1 : 1 ≤ a) (h2 : a ≤ 4) (h3 : 1 ≤ c) (h4 : c ≤ b) (h5 : b ≤ 1000000) (h8 : 0 ≤ t) (h9 : t ≤ 1099511627776) :
    Calls Try.prog 22 #[.agg #[.int .i64 a, .int .i64 b, .int .i64 c, v3, v4, v5, v6, v7, v8, v9, v10, v11, v12, v13, v14], .int .i64 t] w fun e w' => e = .returned (.int .i64 (t / b % a)) ∧ Below w.heap.size w w' := by
  obtain ⟨d1, d2, d3, d4, d5⟩ := div_bd (p := b) h8 (by omega)
  go_enter Try.func22, Try.ntmps22
  go_wp2_with fail
  refine (Calls.ext (valid_yes a b c v3 v4 v5 v6 v7 v8 v9 v10 v11 v12 v13 v14 _ h1 h2 h3 h4 h5)).mono ?_
  rintro e _ ⟨rfl, y1, rfl⟩
  go_wp2_with fail
  refine (Calls.extq (isCycle_yes t _ h8 h9)).mono ?_
  rintro e _ ⟨rfl, y3, rfl⟩
  go_wp2_with fail
  refine wp_region_extq (by kernel_rfl) (by kernel_rfl) ?_
  repeat (go_big_quiet_step (fail))
  refine wpQuiet_nil ?_
  rintro _ ⟨x1, rfl⟩
  go_wp2
  go_ret
  exact ⟨rfl, Ext.below ((Below.refl _ _).alloc (Nat.le_refl _) _) (by simp) _⟩

set_option maxHeartbeats 1000000 in
theorem owner_no (a b c : Int) (v3 v4 v5 v6 v7 v8 v9 v10 v11 v12 v13 v14 : Value) (t : Int) (w : World) (h : vld a b c = false ∨ (t < 0 ∨ 1099511627776 < t)) :
    Calls Try.prog 22 #[.agg #[.int .i64 a, .int .i64 b, .int .i64 c, v3, v4, v5, v6, v7, v8, v9, v10, v11, v12, v13, v14], .int .i64 t] w fun e w' => e = .returned (.int .i64 (-1)) ∧ Below w.heap.size w w' := by
  by_cases hv : vld a b c = true
  · have ht : t < 0 ∨ 1099511627776 < t := by
      rcases h with h | h
      · rw [hv] at h; cases h
      · exact h
    have HT := Lib.hid ht
    have HV := Lib.hid hv
    clear h hv ht
    go_enter Try.func22, Try.ntmps22
    go_wp2_with fail
    refine (Calls.ext ((valid_any a b c v3 v4 v5 v6 v7 v8 v9 v10 v11 v12 v13 v14 _).mono fun _ _ ⟨h, k⟩ => ⟨by rw [h, HV.out], k⟩)).mono ?_
    rintro e _ ⟨rfl, y1, rfl⟩
    go_wp2_with fail
    refine (Calls.extq (isCycle_no t _ HT.out)).mono ?_
    rintro e _ ⟨rfl, y3, rfl⟩
    go_wp2
    go_ret
    exact ⟨rfl, Ext.below ((Below.refl _ _).alloc (Nat.le_refl _) _) (by simp) _⟩
  · have hv' : vld a b c = false := by simpa using hv
    have HV := Lib.hid hv'
    clear h hv hv'
    go_enter Try.func22, Try.ntmps22
    go_wp2_with fail
    refine (Calls.ext (valid_no a b c v3 v4 v5 v6 v7 v8 v9 v10 v11 v12 v13 v14 _ HV.out)).mono ?_
    rintro e _ ⟨rfl, y1, rfl⟩
    go_wp2
    go_ret
    exact ⟨rfl, Ext.below ((Below.refl _ _).alloc (Nat.le_refl _) _) (by simp) _⟩

theorem wait_bd {a b c : Int} (h1 : 1 ≤ a) (h2 : a ≤ 4) (h3 : 1 ≤ c) (h4 : c ≤ b) (h5 : b ≤ 1000000) : 0 ≤ (a - 1) * b ∧ (a - 1) * b ≤ 3000000 := by
  obtain ⟨m1, m2, m3⟩ := mul_bd (b := b) h1 h2 (by omega) h5
  have e2 : a * b ≤ 4 * b := Int.mul_le_mul_of_nonneg_right h2 (by omega)
  rw [Int.sub_mul]
  omega

set_option maxHeartbeats 1000000 in
theorem maxWait_yes (a b c : Int) (v3 v4 v5 v6 v7 v8 v9 v10 v11 v12 v13 v14 : Value) (w : World) (h1 : 1 ≤ a) (h2 : a ≤ 4) (h3 : 1 ≤ c) (h4 : c ≤ b) (h5 : b ≤ 1000000) :
    Calls Try.prog 19 #[.agg #[.int .i64 a, .int .i64 b, .int .i64 c, v3, v4, v5, v6, v7, v8, v9, v10, v11, v12, v13, v14]] w fun e w' => e = .returned (.int .i64 ((a - 1) * b + c - 1)) ∧ Below w.heap.size w w' := by
  obtain ⟨m1, m2⟩ := wait_bd h1 h2 h3 h4 h5
  go_enter Try.func19, Try.ntmps19
  go_wp2_with fail
  refine (Calls.ext (valid_yes a b c v3 v4 v5 v6 v7 v8 v9 v10 v11 v12 v13 v14 _ h1 h2 h3 h4 h5)).mono ?_
  rintro e _ ⟨rfl, y1, rfl⟩
  go_wp2
  go_ret
  exact ⟨rfl, Ext.below ((Below.refl _ _).alloc (Nat.le_refl _) _) (by simp) _⟩

set_option maxHeartbeats 1000000 in
theorem maxWait_no (a b c : Int) (v3 v4 v5 v6 v7 v8 v9 v10 v11 v12 v13 v14 : Value) (w : World) (h : vld a b c = false) :
    Calls Try.prog 19 #[.agg #[.int .i64 a, .int .i64 b, .int .i64 c, v3, v4, v5, v6, v7, v8, v9, v10, v11, v12, v13, v14]] w fun e w' => e = .returned (.int .i64 (-1)) ∧ Below w.heap.size w w' := by
  have HV := Lib.hid h
  clear h
  go_enter Try.func19, Try.ntmps19
  go_wp2_with fail
  refine (Calls.ext (valid_no a b c v3 v4 v5 v6 v7 v8 v9 v10 v11 v12 v13 v14 _ HV.out)).mono ?_
  rintro e _ ⟨rfl, y1, rfl⟩
  go_wp2
  go_ret
  exact ⟨rfl, Ext.below ((Below.refl _ _).alloc (Nat.le_refl _) _) (by simp) _⟩

set_option maxHeartbeats 1000000 in
theorem maxTransfer_yes (a b c : Int) (v3 v4 v5 v6 v7 v8 v9 v10 v11 v12 v13 v14 : Value) (w : World) (h1 : 1 ≤ a) (h2 : a ≤ 4) (h3 : 1 ≤ c) (h4 : c ≤ b) (h5 : b ≤ 1000000) :
    Calls Try.prog 18 #[.agg #[.int .i64 a, .int .i64 b, .int .i64 c, v3, v4, v5, v6, v7, v8, v9, v10, v11, v12, v13, v14]] w fun e w' => e = .returned (.int .i64 ((a - 1) * b + c - 1 + c)) ∧ Below w.heap.size w w' := by
  obtain ⟨m1, m2⟩ := wait_bd h1 h2 h3 h4 h5
  go_enter Try.func18, Try.ntmps18
  go_wp2_with fail
  refine (Calls.ext (valid_yes a b c v3 v4 v5 v6 v7 v8 v9 v10 v11 v12 v13 v14 _ h1 h2 h3 h4 h5)).mono ?_
  rintro e _ ⟨rfl, y1, rfl⟩
  go_wp2_with fail
  refine wp_region_extq (by kernel_rfl) (by kernel_rfl) ?_
  repeat (go_big_quiet_step (exact Calls.extq (maxWait_yes a b c v3 v4 v5 v6 v7 v8 v9 v10 v11 v12 v13 v14 _ h1 h2 h3 h4 h5)))
  refine wpQuiet_nil ?_
  rintro _ ⟨x1, rfl⟩
  go_wp2
  go_ret
  exact ⟨rfl, Ext.below ((Below.refl _ _).alloc (Nat.le_refl _) _) (by simp) _⟩

set_option maxHeartbeats 1000000 in
theorem maxTransfer_no (a b c : Int) (v3 v4 v5 v6 v7 v8 v9 v10 v11 v12 v13 v14 : Value) (w : World) (h : vld a b c = false) :
    Calls Try.prog 18 #[.agg #[.int .i64 a, .int .i64 b, .int .i64 c, v3, v4, v5, v6, v7, v8, v9, v10, v11, v12, v13, v14]] w fun e w' => e = .returned (.int .i64 (-1)) ∧ Below w.heap.size w w' := by
  have HV := Lib.hid h
  clear h
  go_enter Try.func18, Try.ntmps18
  go_wp2_with fail
  refine (Calls.ext (valid_no a b c v3 v4 v5 v6 v7 v8 v9 v10 v11 v12 v13 v14 _ HV.out)).mono ?_
  rintro e _ ⟨rfl, y1, rfl⟩
  go_wp2
  go_ret
  exact ⟨rfl, Ext.below ((Below.refl _ _).alloc (Nat.le_refl _) _) (by simp) _⟩

end Go.Proofs.Ytbphlcldbcjncaa
