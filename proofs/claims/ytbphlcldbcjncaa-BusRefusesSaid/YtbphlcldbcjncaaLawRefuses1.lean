/-
  What is proved here: the law BusRefuses (its first part) returns true for every input.
-/
import Derived.Test.YtbphlcldbcjncaaAwake
import Derived.Test.YtbphlcldbcjncaaBandNo
import Derived.Test.YtbphlcldbcjncaaPlain2
import Derived.Test.YtbphlcldbcjncaaOpen
import Derived.Test.YtbphlcldbcjncaaLawPeriodic
namespace Go.Proofs.Ytbphlcldbcjncaa
open Go.ChangeShapes Go.WideShapes Go.ChangeAt Go.RowKit

set_option maxHeartbeats 2000000 in
theorem refuses_invalid (a b c : Int) (v3 v4 v5 v6 v7 v8 v9 v10 v11 v12 v13 v14 : Value) (k t : Int) (w : World) (h : vld a b c = false) :
    Calls Try.prog 9 #[.agg #[.int .i64 a, .int .i64 b, .int .i64 c, v3, v4, v5, v6, v7, v8, v9, v10, v11, v12, v13, v14], .int .i64 k, .int .i64 t] w fun e w' => e = .returned (.bool true) ∧ Below w.heap.size w w' := by
  have H := Lib.hid h
  clear h
  go_enter Try.func9, Try.ntmps9
  go_wp2_with fail
  refine (Calls.ext (awake_any _)).mono ?_
  rintro e _ ⟨rfl, y1, rfl⟩
  go_wp2_with fail
  refine (Calls.extq (valid_no a b c v3 v4 v5 v6 v7 v8 v9 v10 v11 v12 v13 v14 _ H.out)).mono ?_
  rintro e _ ⟨rfl, y2, rfl⟩
  go_wp2_with fail
  refine (Calls.extq (owner_no a b c v3 v4 v5 v6 v7 v8 v9 v10 v11 v12 v13 v14 _ _ (.inl H.out))).mono ?_
  rintro e _ ⟨rfl, y3, rfl⟩
  go_wp2_with fail
  refine (Calls.extq (start_no a b c v3 v4 v5 v6 v7 v8 v9 v10 v11 v12 v13 v14 _ _ _ (.inl H.out))).mono ?_
  rintro e _ ⟨rfl, y4, rfl⟩
  go_wp2_with fail
  refine (Calls.extq (done_no a b c v3 v4 v5 v6 v7 v8 v9 v10 v11 v12 v13 v14 _ _ _ (.inl H.out))).mono ?_
  rintro e _ ⟨rfl, y5, rfl⟩
  go_wp2_with fail
  refine (Calls.extq (maxWait_no a b c v3 v4 v5 v6 v7 v8 v9 v10 v11 v12 v13 v14 _ H.out)).mono ?_
  rintro e _ ⟨rfl, y6, rfl⟩
  go_wp2_with fail
  refine (Calls.extq (maxTransfer_no a b c v3 v4 v5 v6 v7 v8 v9 v10 v11 v12 v13 v14 _ H.out)).mono ?_
  rintro e _ ⟨rfl, y7, rfl⟩
  go_wp2_with fail
  refine (Calls.extq (band_no a b c v3 v4 v5 v6 v7 v8 v9 v10 v11 v12 v13 v14 _ _ _ _ (.inl H.out))).mono ?_
  rintro e _ ⟨rfl, y8, rfl⟩
  go_wp2
  go_ret
  exact ⟨rfl, Ext.below ((Below.refl _ _).alloc (Nat.le_refl _) _) (by simp) _⟩

set_option maxHeartbeats 2000000 in
theorem refuses_good (a b c : Int) (v3 v4 v5 v6 v7 v8 v9 v10 v11 v12 v13 v14 : Value) (k t : Int) (w : World) (h1 : 1 ≤ a) (h2 : a ≤ 4) (h3 : 1 ≤ c) (h4 : c ≤ b) (h5 : b ≤ 1000000) (h6 : 0 ≤ k) (h7 : k < a) (h8 : 0 ≤ t) (h9 : t ≤ 1099511627776) :
    Calls Try.prog 9 #[.agg #[.int .i64 a, .int .i64 b, .int .i64 c, v3, v4, v5, v6, v7, v8, v9, v10, v11, v12, v13, v14], .int .i64 k, .int .i64 t] w fun e w' => e = .returned (.bool true) ∧ Below w.heap.size w w' := by
  have o1 := Int.emod_nonneg (t / b) (show a ≠ 0 by omega)
  have s1 := (stt_bd h1 h2 h3 h4 h5 h6 h7 h8).1
  have w1 := bw_nonneg (p := a * b) (b := b) (c := c) (k := k) (f := 0) (t := t) (by omega) h3
  have s2 : (stt a b c k t == -1) = false := by simp; omega
  have s3 : (stt a b c k t + c == -1) = false := by simp; omega
  have w2 : (bw (a * b) b c k 0 t == -1) = false := by simp; omega
  go_enter Try.func9, Try.ntmps9
  go_wp2_with fail
  refine (Calls.ext (awake_any _)).mono ?_
  rintro e _ ⟨rfl, y1, rfl⟩
  go_wp2_with fail
  refine (Calls.extq (valid_yes a b c v3 v4 v5 v6 v7 v8 v9 v10 v11 v12 v13 v14 _ h1 h2 h3 h4 h5)).mono ?_
  rintro e _ ⟨rfl, y2, rfl⟩
  go_wp2_with fail
  refine (Calls.extq (owner_yes a b c v3 v4 v5 v6 v7 v8 v9 v10 v11 v12 v13 v14 _ _ h1 h2 h3 h4 h5 h8 h9)).mono ?_
  rintro e _ ⟨rfl, y3, rfl⟩
  go_wp2_with fail
  refine (Calls.extq (start_yes a b c v3 v4 v5 v6 v7 v8 v9 v10 v11 v12 v13 v14 _ _ _ h1 h2 h3 h4 h5 h6 h7 h8 h9)).mono ?_
  rintro e _ ⟨rfl, y4, rfl⟩
  go_wp2_with fail
  refine (Calls.extq (done_yes a b c v3 v4 v5 v6 v7 v8 v9 v10 v11 v12 v13 v14 _ _ _ h1 h2 h3 h4 h5 h6 h7 h8 h9)).mono ?_
  rintro e _ ⟨rfl, y5, rfl⟩
  go_wp2_with fail
  refine (Calls.extq (band_zero a b c v3 v4 v5 v6 v7 v8 v9 v10 v11 v12 v13 v14 _ _ _ _ h1 h2 h3 h4 h5 h6 h7 h8 h9 (by omega) h8)).mono ?_
  rintro e _ ⟨rfl, y6, rfl⟩
  by_cases hl : 100000 < t
  · go_wp2
    go_ret
    exact ⟨rfl, Ext.below ((Below.refl _ _).alloc (Nat.le_refl _) _) (by simp) _⟩

  · have hl' : decide (100000 < t) = false := by simpa using hl
    by_cases h0 : 0 < t
    · go_wp2_with fail
      refine (Calls.extq (band_yes a b c v3 v4 v5 v6 v7 v8 v9 v10 v11 v12 v13 v14 _ _ _ _ h1 h2 h3 h4 h5 h6 h7 (by omega) (by omega) h0 h9)).mono ?_
      rintro e _ ⟨rfl, y7, rfl⟩
      go_wp2
      go_ret
      exact ⟨rfl, Ext.below ((Below.refl _ _).alloc (Nat.le_refl _) _) (by simp) _⟩

    · go_wp2_with fail
      refine (Calls.extq (band_zero a b c v3 v4 v5 v6 v7 v8 v9 v10 v11 v12 v13 v14 _ _ _ _ h1 h2 h3 h4 h5 h6 h7 (by omega) (by omega) (by omega) h8)).mono ?_
      rintro e _ ⟨rfl, y7, rfl⟩
      go_wp2
      go_ret
      exact ⟨rfl, Ext.below ((Below.refl _ _).alloc (Nat.le_refl _) _) (by simp) _⟩

end Go.Proofs.Ytbphlcldbcjncaa
