/-
  What is proved here: the law BusRefuses (a part) returns true for every input.
-/
import Derived.Test.YtbphlcldbcjncaaAwake
import Derived.Test.YtbphlcldbcjncaaBandNo
import Derived.Test.YtbphlcldbcjncaaPlain2
import Derived.Test.YtbphlcldbcjncaaOpen
import Derived.Test.YtbphlcldbcjncaaLawPeriodic
namespace Go.Proofs.Ytbphlcldbcjncaa
open Go.ChangeShapes Go.WideShapes Go.ChangeAt Go.RowKit

set_option maxHeartbeats 2000000 in
theorem refuses_late_g1k1 (a b c : Int) (v3 v4 v5 v6 v7 v8 v9 v10 v11 v12 v13 v14 : Value) (k t : Int) (w : World) (h1 : 1 ≤ a) (h2 : a ≤ 4) (h3 : 1 ≤ c) (h4 : c ≤ b) (h5 : b ≤ 1000000) (ht : t < 0 ∨ 1099511627776 < t) (g1 : decide (0 ≤ t) = false) (k1 : decide (k < 0) = true) :
    Calls Try.prog 9 #[.agg #[.int .i64 a, .int .i64 b, .int .i64 c, v3, v4, v5, v6, v7, v8, v9, v10, v11, v12, v13, v14], .int .i64 k, .int .i64 t] w fun e w' => e = .returned (.bool true) ∧ Below w.heap.size w w' := by
  have HT := Lib.hid ht
  have H := Lib.hid (show (k < 0 ∨ a ≤ k) ∨ (t < 0 ∨ 1099511627776 < t) from .inr ht)
  have H' := Lib.hid (show (k < 0 ∨ a ≤ k) ∨ (t < 0 ∨ 1099511627776 < t) ∨ (t < 0 ∨ 1099511627776 < t) from .inr (.inr ht))
  have H'' := Lib.hid (show (k < 0 ∨ a ≤ k) ∨ ((0 : Int) < 0 ∨ 1099511627776 < (0 : Int)) ∨ (t < 0 ∨ 1099511627776 < t) from .inr (.inr ht))
  clear ht
  go_enter Try.func9, Try.ntmps9
  go_wp2_with fail
  refine (Calls.ext (awake_any _)).mono ?_
  rintro e _ ⟨rfl, y1, rfl⟩
  go_wp2_with fail
  refine (Calls.extq (valid_yes a b c v3 v4 v5 v6 v7 v8 v9 v10 v11 v12 v13 v14 _ h1 h2 h3 h4 h5)).mono ?_
  rintro e _ ⟨rfl, y2, rfl⟩
  go_wp2_with fail
  refine (Calls.extq (owner_no a b c v3 v4 v5 v6 v7 v8 v9 v10 v11 v12 v13 v14 _ _ (.inr HT.out))).mono ?_
  rintro e _ ⟨rfl, y3, rfl⟩
  go_wp2_with fail
  refine (Calls.extq (start_no a b c v3 v4 v5 v6 v7 v8 v9 v10 v11 v12 v13 v14 _ _ _ (.inr H.out))).mono ?_
  rintro e _ ⟨rfl, y4, rfl⟩
  go_wp2_with fail
  refine (Calls.extq (done_no a b c v3 v4 v5 v6 v7 v8 v9 v10 v11 v12 v13 v14 _ _ _ (.inr H.out))).mono ?_
  rintro e _ ⟨rfl, y5, rfl⟩
  go_wp2_with fail
  refine (Calls.extq (band_no a b c v3 v4 v5 v6 v7 v8 v9 v10 v11 v12 v13 v14 _ _ _ _ (.inr H'.out))).mono ?_
  rintro e _ ⟨rfl, y6, rfl⟩
  go_wp2_with fail
  refine (Calls.extq (band_no a b c v3 v4 v5 v6 v7 v8 v9 v10 v11 v12 v13 v14 _ _ _ _ (.inr H''.out))).mono ?_
  rintro e _ ⟨rfl, y7, rfl⟩
  go_wp2
  go_ret
  exact ⟨rfl, Ext.below ((Below.refl _ _).alloc (Nat.le_refl _) _) (by simp) _⟩

set_option maxHeartbeats 2000000 in
theorem refuses_late_g1k2 (a b c : Int) (v3 v4 v5 v6 v7 v8 v9 v10 v11 v12 v13 v14 : Value) (k t : Int) (w : World) (h1 : 1 ≤ a) (h2 : a ≤ 4) (h3 : 1 ≤ c) (h4 : c ≤ b) (h5 : b ≤ 1000000) (ht : t < 0 ∨ 1099511627776 < t) (g1 : decide (0 ≤ t) = false) (k1 : decide (k < 0) = false) (k2 : decide (a ≤ k) = true) :
    Calls Try.prog 9 #[.agg #[.int .i64 a, .int .i64 b, .int .i64 c, v3, v4, v5, v6, v7, v8, v9, v10, v11, v12, v13, v14], .int .i64 k, .int .i64 t] w fun e w' => e = .returned (.bool true) ∧ Below w.heap.size w w' := by
  have HT := Lib.hid ht
  have H := Lib.hid (show (k < 0 ∨ a ≤ k) ∨ (t < 0 ∨ 1099511627776 < t) from .inr ht)
  have H' := Lib.hid (show (k < 0 ∨ a ≤ k) ∨ (t < 0 ∨ 1099511627776 < t) ∨ (t < 0 ∨ 1099511627776 < t) from .inr (.inr ht))
  have H'' := Lib.hid (show (k < 0 ∨ a ≤ k) ∨ ((0 : Int) < 0 ∨ 1099511627776 < (0 : Int)) ∨ (t < 0 ∨ 1099511627776 < t) from .inr (.inr ht))
  clear ht
  go_enter Try.func9, Try.ntmps9
  go_wp2_with fail
  refine (Calls.ext (awake_any _)).mono ?_
  rintro e _ ⟨rfl, y1, rfl⟩
  go_wp2_with fail
  refine (Calls.extq (valid_yes a b c v3 v4 v5 v6 v7 v8 v9 v10 v11 v12 v13 v14 _ h1 h2 h3 h4 h5)).mono ?_
  rintro e _ ⟨rfl, y2, rfl⟩
  go_wp2_with fail
  refine (Calls.extq (owner_no a b c v3 v4 v5 v6 v7 v8 v9 v10 v11 v12 v13 v14 _ _ (.inr HT.out))).mono ?_
  rintro e _ ⟨rfl, y3, rfl⟩
  go_wp2_with fail
  refine (Calls.extq (start_no a b c v3 v4 v5 v6 v7 v8 v9 v10 v11 v12 v13 v14 _ _ _ (.inr H.out))).mono ?_
  rintro e _ ⟨rfl, y4, rfl⟩
  go_wp2_with fail
  refine (Calls.extq (done_no a b c v3 v4 v5 v6 v7 v8 v9 v10 v11 v12 v13 v14 _ _ _ (.inr H.out))).mono ?_
  rintro e _ ⟨rfl, y5, rfl⟩
  go_wp2_with fail
  refine (Calls.extq (band_no a b c v3 v4 v5 v6 v7 v8 v9 v10 v11 v12 v13 v14 _ _ _ _ (.inr H'.out))).mono ?_
  rintro e _ ⟨rfl, y6, rfl⟩
  go_wp2_with fail
  refine (Calls.extq (band_no a b c v3 v4 v5 v6 v7 v8 v9 v10 v11 v12 v13 v14 _ _ _ _ (.inr H''.out))).mono ?_
  rintro e _ ⟨rfl, y7, rfl⟩
  go_wp2
  go_ret
  exact ⟨rfl, Ext.below ((Below.refl _ _).alloc (Nat.le_refl _) _) (by simp) _⟩

set_option maxHeartbeats 2000000 in
theorem refuses_late_g1k3 (a b c : Int) (v3 v4 v5 v6 v7 v8 v9 v10 v11 v12 v13 v14 : Value) (k t : Int) (w : World) (h1 : 1 ≤ a) (h2 : a ≤ 4) (h3 : 1 ≤ c) (h4 : c ≤ b) (h5 : b ≤ 1000000) (ht : t < 0 ∨ 1099511627776 < t) (g1 : decide (0 ≤ t) = false) (k1 : decide (k < 0) = false) (k2 : decide (a ≤ k) = false) :
    Calls Try.prog 9 #[.agg #[.int .i64 a, .int .i64 b, .int .i64 c, v3, v4, v5, v6, v7, v8, v9, v10, v11, v12, v13, v14], .int .i64 k, .int .i64 t] w fun e w' => e = .returned (.bool true) ∧ Below w.heap.size w w' := by
  have HT := Lib.hid ht
  have H := Lib.hid (show (k < 0 ∨ a ≤ k) ∨ (t < 0 ∨ 1099511627776 < t) from .inr ht)
  have H' := Lib.hid (show (k < 0 ∨ a ≤ k) ∨ (t < 0 ∨ 1099511627776 < t) ∨ (t < 0 ∨ 1099511627776 < t) from .inr (.inr ht))
  have H'' := Lib.hid (show (k < 0 ∨ a ≤ k) ∨ ((0 : Int) < 0 ∨ 1099511627776 < (0 : Int)) ∨ (t < 0 ∨ 1099511627776 < t) from .inr (.inr ht))
  clear ht
  go_enter Try.func9, Try.ntmps9
  go_wp2_with fail
  refine (Calls.ext (awake_any _)).mono ?_
  rintro e _ ⟨rfl, y1, rfl⟩
  go_wp2_with fail
  refine (Calls.extq (valid_yes a b c v3 v4 v5 v6 v7 v8 v9 v10 v11 v12 v13 v14 _ h1 h2 h3 h4 h5)).mono ?_
  rintro e _ ⟨rfl, y2, rfl⟩
  go_wp2_with fail
  refine (Calls.extq (owner_no a b c v3 v4 v5 v6 v7 v8 v9 v10 v11 v12 v13 v14 _ _ (.inr HT.out))).mono ?_
  rintro e _ ⟨rfl, y3, rfl⟩
  go_wp2_with fail
  refine (Calls.extq (start_no a b c v3 v4 v5 v6 v7 v8 v9 v10 v11 v12 v13 v14 _ _ _ (.inr H.out))).mono ?_
  rintro e _ ⟨rfl, y4, rfl⟩
  go_wp2_with fail
  refine (Calls.extq (done_no a b c v3 v4 v5 v6 v7 v8 v9 v10 v11 v12 v13 v14 _ _ _ (.inr H.out))).mono ?_
  rintro e _ ⟨rfl, y5, rfl⟩
  go_wp2_with fail
  refine (Calls.extq (band_no a b c v3 v4 v5 v6 v7 v8 v9 v10 v11 v12 v13 v14 _ _ _ _ (.inr H'.out))).mono ?_
  rintro e _ ⟨rfl, y6, rfl⟩
  go_wp2_with fail
  refine (Calls.extq (band_no a b c v3 v4 v5 v6 v7 v8 v9 v10 v11 v12 v13 v14 _ _ _ _ (.inr H''.out))).mono ?_
  rintro e _ ⟨rfl, y7, rfl⟩
  go_wp2
  go_ret
  exact ⟨rfl, Ext.below ((Below.refl _ _).alloc (Nat.le_refl _) _) (by simp) _⟩

set_option maxHeartbeats 2000000 in
theorem refuses_core_k1 (a b c : Int) (v3 v4 v5 v6 v7 v8 v9 v10 v11 v12 v13 v14 : Value) (k t : Int) (w : World) (h1 : 1 ≤ a) (h2 : a ≤ 4) (h3 : 1 ≤ c) (h4 : c ≤ b) (h5 : b ≤ 1000000) (h8 : 0 ≤ t) (h9 : t ≤ 1099511627776) (hk : k < 0 ∨ a ≤ k) (k1 : decide (k < 0) = true) :
    Calls Try.prog 9 #[.agg #[.int .i64 a, .int .i64 b, .int .i64 c, v3, v4, v5, v6, v7, v8, v9, v10, v11, v12, v13, v14], .int .i64 k, .int .i64 t] w fun e w' => e = .returned (.bool true) ∧ Below w.heap.size w w' := by
  have H := Lib.hid (show (k < 0 ∨ a ≤ k) ∨ (t < 0 ∨ 1099511627776 < t) from .inl hk)
  have H' := Lib.hid (show (k < 0 ∨ a ≤ k) ∨ (t < 0 ∨ 1099511627776 < t) ∨ (t < 0 ∨ 1099511627776 < t) from .inl hk)
  have H'' := Lib.hid (show (k < 0 ∨ a ≤ k) ∨ ((0 : Int) < 0 ∨ 1099511627776 < (0 : Int)) ∨ (t < 0 ∨ 1099511627776 < t) from .inl hk)
  have o1 := Int.emod_nonneg (t / b) (show a ≠ 0 by omega)
  clear hk
  go_enter Try.func9, Try.ntmps9
  go_wp2_with fail
  refine (Calls.ext (awake_any _)).mono ?_
  rintro e _ ⟨rfl, y1, rfl⟩
  go_wp2_with fail
  refine (Calls.extq (valid_yes a b c v3 v4 v5 v6 v7 v8 v9 v10 v11 v12 v13 v14 _ h1 h2 h3 h4 h5)).mono ?_
  rintro e _ ⟨rfl, y2, rfl⟩
  go_wp2_with fail
  refine (Calls.extq (owner_yes a b c v3 v4 v5 v6 v7 v8 v9 v10 v11 v12 v13 v14 _ _ h1 h2 h3 h4 h5 h8 h9)).mono ?_
  rintro e _ ⟨rfl, y3, rfl⟩
  go_wp2_with fail
  refine (Calls.extq (start_no a b c v3 v4 v5 v6 v7 v8 v9 v10 v11 v12 v13 v14 _ _ _ (.inr H.out))).mono ?_
  rintro e _ ⟨rfl, y4, rfl⟩
  go_wp2_with fail
  refine (Calls.extq (done_no a b c v3 v4 v5 v6 v7 v8 v9 v10 v11 v12 v13 v14 _ _ _ (.inr H.out))).mono ?_
  rintro e _ ⟨rfl, y5, rfl⟩
  go_wp2_with fail
  refine (Calls.extq (band_no a b c v3 v4 v5 v6 v7 v8 v9 v10 v11 v12 v13 v14 _ _ _ _ (.inr H'.out))).mono ?_
  rintro e _ ⟨rfl, y6, rfl⟩
  go_wp2_with fail
  refine (Calls.extq (band_no a b c v3 v4 v5 v6 v7 v8 v9 v10 v11 v12 v13 v14 _ _ _ _ (.inr H''.out))).mono ?_
  rintro e _ ⟨rfl, y7, rfl⟩
  go_wp2
  go_ret
  exact ⟨rfl, Ext.below ((Below.refl _ _).alloc (Nat.le_refl _) _) (by simp) _⟩

set_option maxHeartbeats 2000000 in
theorem refuses_core_k2 (a b c : Int) (v3 v4 v5 v6 v7 v8 v9 v10 v11 v12 v13 v14 : Value) (k t : Int) (w : World) (h1 : 1 ≤ a) (h2 : a ≤ 4) (h3 : 1 ≤ c) (h4 : c ≤ b) (h5 : b ≤ 1000000) (h8 : 0 ≤ t) (h9 : t ≤ 1099511627776) (hk : k < 0 ∨ a ≤ k) (k1 : decide (k < 0) = false) (k2 : decide (a ≤ k) = true) :
    Calls Try.prog 9 #[.agg #[.int .i64 a, .int .i64 b, .int .i64 c, v3, v4, v5, v6, v7, v8, v9, v10, v11, v12, v13, v14], .int .i64 k, .int .i64 t] w fun e w' => e = .returned (.bool true) ∧ Below w.heap.size w w' := by
  have H := Lib.hid (show (k < 0 ∨ a ≤ k) ∨ (t < 0 ∨ 1099511627776 < t) from .inl hk)
  have H' := Lib.hid (show (k < 0 ∨ a ≤ k) ∨ (t < 0 ∨ 1099511627776 < t) ∨ (t < 0 ∨ 1099511627776 < t) from .inl hk)
  have H'' := Lib.hid (show (k < 0 ∨ a ≤ k) ∨ ((0 : Int) < 0 ∨ 1099511627776 < (0 : Int)) ∨ (t < 0 ∨ 1099511627776 < t) from .inl hk)
  have o1 := Int.emod_nonneg (t / b) (show a ≠ 0 by omega)
  clear hk
  go_enter Try.func9, Try.ntmps9
  go_wp2_with fail
  refine (Calls.ext (awake_any _)).mono ?_
  rintro e _ ⟨rfl, y1, rfl⟩
  go_wp2_with fail
  refine (Calls.extq (valid_yes a b c v3 v4 v5 v6 v7 v8 v9 v10 v11 v12 v13 v14 _ h1 h2 h3 h4 h5)).mono ?_
  rintro e _ ⟨rfl, y2, rfl⟩
  go_wp2_with fail
  refine (Calls.extq (owner_yes a b c v3 v4 v5 v6 v7 v8 v9 v10 v11 v12 v13 v14 _ _ h1 h2 h3 h4 h5 h8 h9)).mono ?_
  rintro e _ ⟨rfl, y3, rfl⟩
  go_wp2_with fail
  refine (Calls.extq (start_no a b c v3 v4 v5 v6 v7 v8 v9 v10 v11 v12 v13 v14 _ _ _ (.inr H.out))).mono ?_
  rintro e _ ⟨rfl, y4, rfl⟩
  go_wp2_with fail
  refine (Calls.extq (done_no a b c v3 v4 v5 v6 v7 v8 v9 v10 v11 v12 v13 v14 _ _ _ (.inr H.out))).mono ?_
  rintro e _ ⟨rfl, y5, rfl⟩
  go_wp2_with fail
  refine (Calls.extq (band_no a b c v3 v4 v5 v6 v7 v8 v9 v10 v11 v12 v13 v14 _ _ _ _ (.inr H'.out))).mono ?_
  rintro e _ ⟨rfl, y6, rfl⟩
  go_wp2_with fail
  refine (Calls.extq (band_no a b c v3 v4 v5 v6 v7 v8 v9 v10 v11 v12 v13 v14 _ _ _ _ (.inr H''.out))).mono ?_
  rintro e _ ⟨rfl, y7, rfl⟩
  go_wp2
  go_ret
  exact ⟨rfl, Ext.below ((Below.refl _ _).alloc (Nat.le_refl _) _) (by simp) _⟩


end Go.Proofs.Ytbphlcldbcjncaa
