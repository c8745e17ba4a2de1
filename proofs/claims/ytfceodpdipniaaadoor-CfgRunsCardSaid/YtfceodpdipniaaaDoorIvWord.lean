/-
  What is proved here: what word.Apply returns.
-/
import Derived.Test.YtfceodpdipniaaaDoorIvDef
namespace Go.Proofs.YtfceodpdipniaaaDoor
open Go.RowKit

set_option maxHeartbeats 400000 in
theorem wtruth_any (b : Bool) (w : World) : Calls Tryd.prog 76 #[.bool b] w fun e w' => e = .returned (.int .i32 (b2i b)) ∧ w = w' := by
  cases b
  all_goals
    go_enter Tryd.func76, Tryd.ntmps76
    go_wp2
    go_ret
    exact ⟨rfl, rfl⟩

set_option maxRecDepth 100000 in
set_option maxHeartbeats 400000 in
theorem wapply_6 (x y : Int) (w : World) (hx : W32 x) (hy : W32 y) :
    Calls Tryd.prog 68 #[.int .u8 6, .int .i32 x, .int .i32 y] w fun e w' => e = .returned (.tuple #[.int .i32 (wrap32 (x + y)), .int .i64 0]) ∧ w = w' := by
  obtain ⟨hx1, hx2⟩ := hx
  obtain ⟨hy1, hy2⟩ := hy
  go_enter Tryd.func68, Tryd.ntmps68
  go_wp2
  go_ret2
  exact ⟨rfl, rfl⟩

set_option maxRecDepth 100000 in
set_option maxHeartbeats 400000 in
theorem wapply_7 (x y : Int) (w : World) (hx : W32 x) (hy : W32 y) :
    Calls Tryd.prog 68 #[.int .u8 7, .int .i32 x, .int .i32 y] w fun e w' => e = .returned (.tuple #[.int .i32 (wrap32 (x - y)), .int .i64 0]) ∧ w = w' := by
  obtain ⟨hx1, hx2⟩ := hx
  obtain ⟨hy1, hy2⟩ := hy
  go_enter Tryd.func68, Tryd.ntmps68
  go_wp2
  go_ret2
  exact ⟨rfl, rfl⟩

set_option maxRecDepth 100000 in
set_option maxHeartbeats 400000 in
theorem wapply_8 (x y : Int) (w : World) (hx : W32 x) (hy : W32 y) :
    Calls Tryd.prog 68 #[.int .u8 8, .int .i32 x, .int .i32 y] w fun e w' => e = .returned (.tuple #[.int .i32 (wrap32 (x * y)), .int .i64 0]) ∧ w = w' := by
  obtain ⟨hx1, hx2⟩ := hx
  obtain ⟨hy1, hy2⟩ := hy
  go_enter Tryd.func68, Tryd.ntmps68
  go_wp2
  go_ret2
  exact ⟨rfl, rfl⟩

set_option maxRecDepth 100000 in
set_option maxHeartbeats 400000 in
theorem wapply_9_zero (x : Int) (w : World) :
    Calls Tryd.prog 68 #[.int .u8 9, .int .i32 x, .int .i32 0] w fun e w' => e = .returned (.tuple #[.int .i32 0, .int .i64 9]) ∧ w = w' := by
  go_enter Tryd.func68, Tryd.ntmps68
  go_wp2
  go_ret2
  exact ⟨rfl, rfl⟩
set_option maxRecDepth 100000 in
set_option maxHeartbeats 400000 in
theorem wapply_9 (x y : Int) (w : World) (hx : W32 x) (hy : W32 y) (h0 : ¬ y = 0) :
    Calls Tryd.prog 68 #[.int .u8 9, .int .i32 x, .int .i32 y] w fun e w' => e = .returned (.tuple #[.int .i32 (wrap32 (x.tdiv y)), .int .i64 0]) ∧ w = w' := by
  obtain ⟨hx1, hx2⟩ := hx
  obtain ⟨hy1, hy2⟩ := hy
  go_enter Tryd.func68, Tryd.ntmps68
  go_wp2
  go_ret2
  exact ⟨rfl, rfl⟩

set_option maxRecDepth 100000 in
set_option maxHeartbeats 400000 in
theorem wapply_10_zero (x : Int) (w : World) :
    Calls Tryd.prog 68 #[.int .u8 10, .int .i32 x, .int .i32 0] w fun e w' => e = .returned (.tuple #[.int .i32 0, .int .i64 9]) ∧ w = w' := by
  go_enter Tryd.func68, Tryd.ntmps68
  go_wp2
  go_ret2
  exact ⟨rfl, rfl⟩
set_option maxRecDepth 100000 in
set_option maxHeartbeats 400000 in
theorem wapply_10 (x y : Int) (w : World) (hx : W32 x) (hy : W32 y) (h0 : ¬ y = 0) :
    Calls Tryd.prog 68 #[.int .u8 10, .int .i32 x, .int .i32 y] w fun e w' => e = .returned (.tuple #[.int .i32 (x.tmod y), .int .i64 0]) ∧ w = w' := by
  obtain ⟨hx1, hx2⟩ := hx
  obtain ⟨hy1, hy2⟩ := hy
  go_enter Tryd.func68, Tryd.ntmps68
  go_wp2
  go_ret2
  exact ⟨rfl, rfl⟩

set_option maxRecDepth 100000 in
set_option maxHeartbeats 400000 in
theorem wapply_11 (x y : Int) (w : World) (hx : W32 x) (hy : W32 y) :
    Calls Tryd.prog 68 #[.int .u8 11, .int .i32 x, .int .i32 y] w fun e w' => e = .returned (.tuple #[.int .i32 (bits .and .i32 x y), .int .i64 0]) ∧ w = w' := by
  obtain ⟨hx1, hx2⟩ := hx
  obtain ⟨hy1, hy2⟩ := hy
  go_enter Tryd.func68, Tryd.ntmps68
  go_wp2
  go_ret2
  exact ⟨rfl, rfl⟩

set_option maxRecDepth 100000 in
set_option maxHeartbeats 400000 in
theorem wapply_12 (x y : Int) (w : World) (hx : W32 x) (hy : W32 y) :
    Calls Tryd.prog 68 #[.int .u8 12, .int .i32 x, .int .i32 y] w fun e w' => e = .returned (.tuple #[.int .i32 (bits .or .i32 x y), .int .i64 0]) ∧ w = w' := by
  obtain ⟨hx1, hx2⟩ := hx
  obtain ⟨hy1, hy2⟩ := hy
  go_enter Tryd.func68, Tryd.ntmps68
  go_wp2
  go_ret2
  exact ⟨rfl, rfl⟩

set_option maxRecDepth 100000 in
set_option maxHeartbeats 400000 in
theorem wapply_13 (x y : Int) (w : World) (hx : W32 x) (hy : W32 y) :
    Calls Tryd.prog 68 #[.int .u8 13, .int .i32 x, .int .i32 y] w fun e w' => e = .returned (.tuple #[.int .i32 (bits .xor .i32 x y), .int .i64 0]) ∧ w = w' := by
  obtain ⟨hx1, hx2⟩ := hx
  obtain ⟨hy1, hy2⟩ := hy
  go_enter Tryd.func68, Tryd.ntmps68
  go_wp2
  go_ret2
  exact ⟨rfl, rfl⟩

set_option maxRecDepth 100000 in
set_option maxHeartbeats 400000 in
theorem wapply_14 (x y : Int) (w : World) (hx : W32 x) (hy : W32 y) :
    Calls Tryd.prog 68 #[.int .u8 14, .int .i32 x, .int .i32 y] w fun e w' => e = .returned (.tuple #[.int .i32 (wrap32 (x * 2 ^ (y % 32).toNat)), .int .i64 0]) ∧ w = w' := by
  obtain ⟨hx1, hx2⟩ := hx
  obtain ⟨hy1, hy2⟩ := hy
  go_enter Tryd.func68, Tryd.ntmps68
  go_wp2
  go_ret2
  exact ⟨rfl, rfl⟩

set_option maxRecDepth 100000 in
set_option maxHeartbeats 400000 in
theorem wapply_15 (x y : Int) (w : World) (hx : W32 x) (hy : W32 y) :
    Calls Tryd.prog 68 #[.int .u8 15, .int .i32 x, .int .i32 y] w fun e w' => e = .returned (.tuple #[.int .i32 (x / 2 ^ (y % 32).toNat), .int .i64 0]) ∧ w = w' := by
  obtain ⟨hx1, hx2⟩ := hx
  obtain ⟨hy1, hy2⟩ := hy
  go_enter Tryd.func68, Tryd.ntmps68
  go_wp2
  go_ret2
  exact ⟨rfl, rfl⟩

set_option maxRecDepth 100000 in
set_option maxHeartbeats 400000 in
theorem wapply_16 (x y : Int) (w : World) :
    Calls Tryd.prog 68 #[.int .u8 16, .int .i32 x, .int .i32 y] w fun e w' => e = .returned (.tuple #[.int .i32 (b2i (x == y)), .int .i64 0]) ∧ w = w' := by
  go_enter Tryd.func68, Tryd.ntmps68
  go_wp2_with fail
  refine (wtruth_any _ _).mono ?_
  rintro e _ ⟨rfl, rfl⟩
  go_wp2
  go_ret2
  exact ⟨rfl, rfl⟩

set_option maxRecDepth 100000 in
set_option maxHeartbeats 400000 in
theorem wapply_17 (x y : Int) (w : World) :
    Calls Tryd.prog 68 #[.int .u8 17, .int .i32 x, .int .i32 y] w fun e w' => e = .returned (.tuple #[.int .i32 (b2i (x != y)), .int .i64 0]) ∧ w = w' := by
  go_enter Tryd.func68, Tryd.ntmps68
  go_wp2_with fail
  refine (wtruth_any _ _).mono ?_
  rintro e _ ⟨rfl, rfl⟩
  go_wp2
  go_ret2
  exact ⟨rfl, rfl⟩

set_option maxRecDepth 100000 in
set_option maxHeartbeats 400000 in
theorem wapply_18 (x y : Int) (w : World) :
    Calls Tryd.prog 68 #[.int .u8 18, .int .i32 x, .int .i32 y] w fun e w' => e = .returned (.tuple #[.int .i32 (b2i (decide (x < y))), .int .i64 0]) ∧ w = w' := by
  go_enter Tryd.func68, Tryd.ntmps68
  go_wp2_with fail
  refine (wtruth_any _ _).mono ?_
  rintro e _ ⟨rfl, rfl⟩
  go_wp2
  go_ret2
  exact ⟨rfl, rfl⟩

set_option maxRecDepth 100000 in
set_option maxHeartbeats 400000 in
theorem wapply_19 (x y : Int) (w : World) :
    Calls Tryd.prog 68 #[.int .u8 19, .int .i32 x, .int .i32 y] w fun e w' => e = .returned (.tuple #[.int .i32 (b2i (decide (x ≤ y))), .int .i64 0]) ∧ w = w' := by
  go_enter Tryd.func68, Tryd.ntmps68
  go_wp2_with fail
  refine (wtruth_any _ _).mono ?_
  rintro e _ ⟨rfl, rfl⟩
  go_wp2
  go_ret2
  exact ⟨rfl, rfl⟩

set_option maxRecDepth 100000 in
set_option maxHeartbeats 400000 in
theorem wapply_20 (x y : Int) (w : World) :
    Calls Tryd.prog 68 #[.int .u8 20, .int .i32 x, .int .i32 y] w fun e w' => e = .returned (.tuple #[.int .i32 (b2i (decide (y < x))), .int .i64 0]) ∧ w = w' := by
  go_enter Tryd.func68, Tryd.ntmps68
  go_wp2_with fail
  refine (wtruth_any _ _).mono ?_
  rintro e _ ⟨rfl, rfl⟩
  go_wp2
  go_ret2
  exact ⟨rfl, rfl⟩

set_option maxRecDepth 100000 in
set_option maxHeartbeats 400000 in
theorem wapply_21 (x y : Int) (w : World) :
    Calls Tryd.prog 68 #[.int .u8 21, .int .i32 x, .int .i32 y] w fun e w' => e = .returned (.tuple #[.int .i32 (b2i (decide (y ≤ x))), .int .i64 0]) ∧ w = w' := by
  go_enter Tryd.func68, Tryd.ntmps68
  go_wp2_with fail
  refine (wtruth_any _ _).mono ?_
  rintro e _ ⟨rfl, rfl⟩
  go_wp2
  go_ret2
  exact ⟨rfl, rfl⟩

set_option maxRecDepth 100000 in
set_option maxHeartbeats 400000 in
theorem wapply_22 (x y : Int) (w : World) :
    Calls Tryd.prog 68 #[.int .u8 22, .int .i32 x, .int .i32 y] w fun e w' => e = .returned (.tuple #[.int .i32 (b2i (x != 0 && y != 0)), .int .i64 0]) ∧ w = w' := by
  by_cases hx : x = 0
  · subst hx
    by_cases hy : y = 0
    · subst hy
      go_enter Tryd.func68, Tryd.ntmps68
      go_wp2_with fail
      refine (wtruth_any _ _).mono ?_
      rintro e _ ⟨rfl, rfl⟩
      go_wp2
      go_ret2
      exact ⟨rfl, rfl⟩
    · have hy' : (y != 0) = true := by simpa using hy
      go_enter Tryd.func68, Tryd.ntmps68
      go_wp2_with fail
      refine (wtruth_any _ _).mono ?_
      rintro e _ ⟨rfl, rfl⟩
      go_wp2
      go_ret2
      exact ⟨by simp [hy'], rfl⟩
  · have hx' : (x != 0) = true := by simpa using hx
    go_enter Tryd.func68, Tryd.ntmps68
    go_wp2_with fail
    refine (wtruth_any _ _).mono ?_
    rintro e _ ⟨rfl, rfl⟩
    go_wp2
    go_ret2
    exact ⟨by simp [hx'], rfl⟩

set_option maxRecDepth 100000 in
set_option maxHeartbeats 400000 in
theorem wapply_23 (x y : Int) (w : World) :
    Calls Tryd.prog 68 #[.int .u8 23, .int .i32 x, .int .i32 y] w fun e w' => e = .returned (.tuple #[.int .i32 (b2i (x != 0 || y != 0)), .int .i64 0]) ∧ w = w' := by
  by_cases hx : x = 0
  · subst hx
    by_cases hy : y = 0
    · subst hy
      go_enter Tryd.func68, Tryd.ntmps68
      go_wp2_with fail
      refine (wtruth_any _ _).mono ?_
      rintro e _ ⟨rfl, rfl⟩
      go_wp2
      go_ret2
      exact ⟨rfl, rfl⟩
    · have hy' : (y != 0) = true := by simpa using hy
      go_enter Tryd.func68, Tryd.ntmps68
      go_wp2_with fail
      refine (wtruth_any _ _).mono ?_
      rintro e _ ⟨rfl, rfl⟩
      go_wp2
      go_ret2
      exact ⟨by simp [hy'], rfl⟩
  · have hx' : (x != 0) = true := by simpa using hx
    go_enter Tryd.func68, Tryd.ntmps68
    go_wp2_with fail
    refine (wtruth_any _ _).mono ?_
    rintro e _ ⟨rfl, rfl⟩
    go_wp2
    go_ret2
    exact ⟨by simp [hx'], rfl⟩

set_option maxRecDepth 100000 in
theorem wapply_out (op x y : Int) (w : World) (hop : ¬ (6 ≤ op ∧ op ≤ 23)) :
    Calls Tryd.prog 68 #[.int .u8 op, .int .i32 x, .int .i32 y] w fun e w' => e = .returned (.tuple #[.int .i32 0, .int .i64 1]) ∧ w = w' := by
  have n6 : (op == 6) = false := by simp; omega
  have n7 : (op == 7) = false := by simp; omega
  have n8 : (op == 8) = false := by simp; omega
  have n9 : (op == 9) = false := by simp; omega
  have n10 : (op == 10) = false := by simp; omega
  have n11 : (op == 11) = false := by simp; omega
  have n12 : (op == 12) = false := by simp; omega
  have n13 : (op == 13) = false := by simp; omega
  have n14 : (op == 14) = false := by simp; omega
  have n15 : (op == 15) = false := by simp; omega
  have n16 : (op == 16) = false := by simp; omega
  have n17 : (op == 17) = false := by simp; omega
  have n18 : (op == 18) = false := by simp; omega
  have n19 : (op == 19) = false := by simp; omega
  have n20 : (op == 20) = false := by simp; omega
  have n21 : (op == 21) = false := by simp; omega
  have n22 : (op == 22) = false := by simp; omega
  have n23 : (op == 23) = false := by simp; omega
  clear hop
  go_enter Tryd.func68, Tryd.ntmps68
  go_wp2
  go_ret2
  exact ⟨rfl, rfl⟩

theorem wapply_any (op x y : Int) (w : World) (hx : W32 x) (hy : W32 y) :
    Calls Tryd.prog 68 #[.int .u8 op, .int .i32 x, .int .i32 y] w fun e w' => e = .returned (.tuple #[.int .i32 (wv op x y), .int .i64 (we op y)]) ∧ w = w' := by
  by_cases hop : 6 ≤ op ∧ op ≤ 23
  · have h : op = 6 ∨ op = 7 ∨ op = 8 ∨ op = 9 ∨ op = 10 ∨ op = 11 ∨ op = 12 ∨ op = 13 ∨ op = 14 ∨ op = 15 ∨ op = 16 ∨ op = 17 ∨ op = 18 ∨ op = 19 ∨ op = 20 ∨ op = 21 ∨ op = 22 ∨ op = 23 := by omega
    rcases h with rfl | rfl | rfl | rfl | rfl | rfl | rfl | rfl | rfl | rfl | rfl | rfl | rfl | rfl | rfl | rfl | rfl | rfl
    · exact wapply_6 x y w hx hy
    · exact wapply_7 x y w hx hy
    · exact wapply_8 x y w hx hy
    · by_cases h0 : y = 0
      · subst h0
        exact wapply_9_zero x w
      · refine (wapply_9 x y w hx hy h0).mono fun e w' ⟨he, hw⟩ => ⟨?_, hw⟩
        rw [he]
        simp [wv, we, h0]
    · by_cases h0 : y = 0
      · subst h0
        exact wapply_10_zero x w
      · refine (wapply_10 x y w hx hy h0).mono fun e w' ⟨he, hw⟩ => ⟨?_, hw⟩
        rw [he]
        simp [wv, we, h0]
    · exact wapply_11 x y w hx hy
    · exact wapply_12 x y w hx hy
    · exact wapply_13 x y w hx hy
    · exact wapply_14 x y w hx hy
    · exact wapply_15 x y w hx hy
    · exact wapply_16 x y w
    · exact wapply_17 x y w
    · exact wapply_18 x y w
    · exact wapply_19 x y w
    · exact wapply_20 x y w
    · exact wapply_21 x y w
    · exact wapply_22 x y w
    · exact wapply_23 x y w
  · refine (wapply_out op x y w hop).mono fun e w' ⟨he, hw⟩ => ⟨?_, hw⟩
    rw [he]
    have e1 : wv op x y = 0 := by
      unfold wv
      iterate 18 rw [if_neg (by omega)]
    have e2 : we op y = 1 := by unfold we; rw [if_neg hop]
    rw [e1, e2]

end Go.Proofs.YtfceodpdipniaaaDoor
