/-
  What is proved here: awake returns true.
-/
import Derived.Test.YtbphlcldbcjncaaBand
namespace Go.Proofs.Ytbphlcldbcjncaa
open Go.RowKit

set_option maxHeartbeats 2000000 in
theorem awake_any (w : World) : Calls Try.prog 11 #[] w fun e w' => e = .returned (.bool true) ∧ Below w.heap.size w w' := by
  go_enter Try.func11, Try.ntmps11
  go_wp2_with fail
  refine (Calls.ext ((start_yes 2 5 2 _ _ _ _ _ _ _ _ _ _ _ _ 1 0 _ (by omega) (by omega) (by omega) (by omega) (by omega) (by omega) (by omega) (by omega) (by omega)).mono fun _ _ ⟨h, k⟩ => ⟨h.trans (ret_int (b := 5) (by decide)), k⟩)).mono ?_
  rintro e _ ⟨rfl, y1, rfl⟩
  go_wp2_with fail
  refine (Calls.extq ((start_yes 2 5 2 _ _ _ _ _ _ _ _ _ _ _ _ 1 8 _ (by omega) (by omega) (by omega) (by omega) (by omega) (by omega) (by omega) (by omega) (by omega)).mono fun _ _ ⟨h, k⟩ => ⟨h.trans (ret_int (b := 8) (by decide)), k⟩)).mono ?_
  rintro e _ ⟨rfl, y2, rfl⟩
  go_wp2_with fail
  refine (Calls.extq ((start_yes 2 5 2 _ _ _ _ _ _ _ _ _ _ _ _ 1 9 _ (by omega) (by omega) (by omega) (by omega) (by omega) (by omega) (by omega) (by omega) (by omega)).mono fun _ _ ⟨h, k⟩ => ⟨h.trans (ret_int (b := 15) (by decide)), k⟩)).mono ?_
  rintro e _ ⟨rfl, y3, rfl⟩
  go_wp2_with fail
  refine (Calls.extq ((maxWait_yes 2 5 2 _ _ _ _ _ _ _ _ _ _ _ _ _ (by omega) (by omega) (by omega) (by omega) (by omega)).mono fun _ _ ⟨h, k⟩ => ⟨h.trans (ret_int (b := 6) (by decide)), k⟩)).mono ?_
  rintro e _ ⟨rfl, y4, rfl⟩
  go_wp2_with fail
  refine (Calls.extq ((maxTransfer_yes 2 5 2 _ _ _ _ _ _ _ _ _ _ _ _ _ (by omega) (by omega) (by omega) (by omega) (by omega)).mono fun _ _ ⟨h, k⟩ => ⟨h.trans (ret_int (b := 8) (by decide)), k⟩)).mono ?_
  rintro e _ ⟨rfl, y5, rfl⟩
  go_wp2_with fail
  refine (Calls.extq ((band_yes 2 5 2 _ _ _ _ _ _ _ _ _ _ _ _ 0 0 20 _ (by omega) (by omega) (by omega) (by omega) (by omega) (by omega) (by omega) (by omega) (by omega) (by omega) (by omega)).mono fun _ _ ⟨h, k⟩ => ⟨h.trans (ret_int (b := 4) (by decide)), k⟩)).mono ?_
  rintro e _ ⟨rfl, y6, rfl⟩
  go_wp2
  go_ret
  exact ⟨rfl, Ext.below ((Below.refl _ _).alloc (Nat.le_refl _) _) (by simp) _⟩

set_option maxHeartbeats 400000 in
theorem cycle_any (n : Int) (w : World) (h0 : 0 ≤ n) (h1 : n ≤ 4294967295) : Calls Try.prog 13 #[.int .u32 n] w fun e w' => e = .returned (.int .i64 n) ∧ w = w' := by
  go_enter Try.func13, Try.ntmps13
  go_wp2
  go_ret
  exact ⟨rfl, rfl⟩

end Go.Proofs.Ytbphlcldbcjncaa
