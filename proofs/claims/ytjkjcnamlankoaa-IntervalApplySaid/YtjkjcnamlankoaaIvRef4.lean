/-
  What is proved here: what the reference of words (ontimeref03.Shift, ontimeref03.Apply) returns.
-/
import Derived.Test.YtjkjcnamlankoaaIvRef3
namespace Go.Proofs.Ytjkjcnamlankoaa
open Go.RowKit
set_option linter.unusedVariables false
set_option linter.unusedSimpArgs false

theorem wrap_twice (a : Int) : wrap32 (2 * wrap32 a) = wrap32 (a * 2) := by unfold wrap32; omega
theorem half_floor {q : Int} : (q - q % 2).tdiv 2 = q / 2 := by
  have h : q - q % 2 = 2 * (q / 2) := by omega
  rw [h, Int.mul_tdiv_cancel_left _ (by decide)]

set_option maxHeartbeats 1000000 in
theorem rshift_left (x n : Int) (w : World) (hx : W32 x) (h0 : 0 ≤ n) (h1 : n ≤ 31) : Calls Try.prog 56 #[.int .i32 x, .int .i64 n, .bool true] w fun e w' => e = .returned (.int .i32 (wrap32 (x * 2 ^ n.toNat))) ∧ w = w' := by
  have HZ := Lib.hid (show wrap32 (x * 2 ^ 0) = x by rw [Int.pow_zero, Int.mul_one]; exact wrap32_id hx)
  have HS := Lib.hid (fun k : Nat => show wrap32 (2 * wrap32 (x * 2 ^ k)) = wrap32 (x * 2 ^ (k + 1)) by rw [wrap_twice, Int.pow_succ, Int.mul_assoc])
  have HB := Lib.hid (fun k : Nat => wrap32_word (x * 2 ^ k))
  go_enter Try.func56, Try.ntmps56
  go_wp2_with fail
  go_loop [0, 7] (fun x' i => ∃ k : Nat, k ≤ n.toNat ∧ i = .int .i64 k ∧ x' = .int .i32 (wrap32 (x * 2 ^ k))) (fun _ i => n.toNat - (intOf i).toNat)
  case atStart => exact ⟨0, by omega, rfl, int_eq HZ.out.symm⟩
  case round =>
    obtain ⟨k, hk, rfl, rfl⟩ := hrel
    obtain ⟨b1, b2⟩ := HB.out k
    by_cases hlt : k < n.toNat
    · have hlt' : (k : Int) < n := by omega
      have hs := Lib.hid (HS.out k)
      obtain ⟨q, hq⟩ : ∃ q, wrap32 (x * 2 ^ k) = q := ⟨_, rfl⟩
      rw [hq] at b1 b2 hs ⊢
      clear hq
      go_wp2_with fail
      refine (rwrap_any _ _ (by omega) (by omega)).mono ?_
      rintro e w' ⟨rfl, rfl⟩
      go_wp2
      go_round
      case rel => exact ⟨k + 1, by omega, by go_num, int_eq hs.out⟩
      case measure => simp [intOf]; omega
    · have hge : ¬ (k : Int) < n := by omega
      obtain rfl : k = n.toNat := by omega
      go_wp2
      go_ret
      exact ⟨rfl, rfl⟩

set_option maxHeartbeats 1000000 in
theorem rshift_right (x n : Int) (w : World) (hx : W32 x) (h0 : 0 ≤ n) (h1 : n ≤ 31) : Calls Try.prog 56 #[.int .i32 x, .int .i64 n, .bool false] w fun e w' => e = .returned (.int .i32 (x / 2 ^ n.toNat)) ∧ w = w' := by
  have HZ := Lib.hid (show x / 2 ^ 0 = x by rw [Int.pow_zero, Int.ediv_one])
  have HS := Lib.hid (fun k : Nat => div_pow_succ x k)
  have HB := Lib.hid (fun k : Nat => show W32 (x / 2 ^ k) by have := shr_bd x k; unfold W32 at *; omega)
  go_enter Try.func56, Try.ntmps56
  go_wp2_with fail
  go_loop [0, 7] (fun x' i => ∃ k : Nat, k ≤ n.toNat ∧ i = .int .i64 k ∧ x' = .int .i32 (x / 2 ^ k)) (fun _ i => n.toNat - (intOf i).toNat)
  case atStart => exact ⟨0, by omega, rfl, int_eq HZ.out.symm⟩
  case round =>
    obtain ⟨k, hk, rfl, rfl⟩ := hrel
    have hw := HB.out k
    by_cases hlt : k < n.toNat
    · have hlt' : (k : Int) < n := by omega
      have hs := Lib.hid (HS.out k)
      obtain ⟨q, hq⟩ : ∃ q, x / 2 ^ k = q := ⟨_, rfl⟩
      rw [hq] at hw hs ⊢
      clear hq
      have HF := Lib.hid (half_floor (q := q))
      have Hb := Lib.hid (show u32I q / 2 ^ (0 : Int).toNat % 2 = q % 2 by unfold u32I; simp; split <;> omega)
      have RB := Lib.hid (rbit_any q 0 · hw (by omega) (by omega))
      rw [Hb.out] at RB
      obtain ⟨b1, b2⟩ := hw
      have tb1 : -2147483648 ≤ (q - q % 2).tdiv 2 ∧ (q - q % 2).tdiv 2 ≤ 2147483647 := by rw [half_floor]; omega
      obtain ⟨t1, t2⟩ := tb1
      obtain ⟨r, hr⟩ : ∃ r, q % 2 = r := ⟨_, rfl⟩
      have hr' : 0 ≤ r ∧ r ≤ 1 := by omega
      obtain ⟨r1, r2⟩ := hr'
      rw [hr] at RB t1 t2 HF
      clear hr Hb
      go_wp2_with fail
      refine (RB.out _).mono ?_
      rintro e w' ⟨rfl, rfl⟩
      go_wp2
      go_round
      case rel => exact ⟨k + 1, by omega, by go_num, int_eq (HF.out.trans hs.out)⟩
      case measure => simp [intOf]; omega
    · have hge : ¬ (k : Int) < n := by omega
      obtain rfl : k = n.toNat := by omega
      go_wp2
      go_ret
      exact ⟨rfl, rfl⟩

theorem mod_wrap {a b : Int} (ha : W32 a) (hb : W32 b) (h0 : b ≠ 0) : wrap32 (a - wrap32 (a.tdiv b) * b) = a.tmod b := by
  have hm := mod_bd a b h0
  have hd := Int.tmod_add_mul_tdiv a b
  have hw : W32 (a.tmod b) := by unfold W32 at *; omega
  have tb := tdiv_bd a b ha.1 ha.2
  by_cases c : a.tdiv b = 2147483648
  · have hb1 : b = -1 := by
      have h := Int.natAbs_tdiv a b
      rw [c] at h
      unfold W32 at ha hb
      have hn : a.natAbs / b.natAbs = 2147483648 := h.symm
      have h3 : b.natAbs = 1 := by
        rcases Nat.lt_or_ge b.natAbs 2 with h4 | h4
        · omega
        · have h5 := Nat.div_le_div_left h4 (show 0 < 2 by omega) (a := a.natAbs)
          omega
      have h6 : b = 1 ∨ b = -1 := by omega
      rcases h6 with rfl | rfl
      · rw [Int.tdiv_one] at c; omega
      · rfl
    subst hb1
    rw [c] at hd ⊢
    have e : wrap32 2147483648 = -2147483648 := by unfold wrap32; omega
    rw [e]
    unfold wrap32 W32 at *
    omega
  · have e : wrap32 (a.tdiv b) = a.tdiv b := wrap32_id ⟨by omega, by omega⟩
    rw [e, show a - a.tdiv b * b = a.tmod b by rw [Int.mul_comm]; omega]
    exact wrap32_id hw

set_option maxRecDepth 100000 in
set_option maxHeartbeats 1000000 in
theorem rapply_6 (x y : Int) (w : World) (hx1 : -2147483648 ≤ x) (hx2 : x ≤ 2147483647) (hy1 : -2147483648 ≤ y) (hy2 : y ≤ 2147483647) :
    Calls Try.prog 40 #[.int .u8 6, .int .i32 x, .int .i32 y] w fun e w' => e = .returned (.tuple #[.int .i32 (wrap32 (x + y)), .int .i64 0]) ∧ w = w' := by
  go_enter Try.func40, Try.ntmps40
  go_wp2_with (go_at_call 54; refine (rwrap_any _ _ (by omega) (by omega)).mono ?_; rintro e _ ⟨rfl, rfl⟩)
  all_goals
    go_ret2
    exact ⟨rfl, rfl⟩

set_option maxRecDepth 100000 in
set_option maxHeartbeats 1000000 in
theorem rapply_7 (x y : Int) (w : World) (hx1 : -2147483648 ≤ x) (hx2 : x ≤ 2147483647) (hy1 : -2147483648 ≤ y) (hy2 : y ≤ 2147483647) :
    Calls Try.prog 40 #[.int .u8 7, .int .i32 x, .int .i32 y] w fun e w' => e = .returned (.tuple #[.int .i32 (wrap32 (x - y)), .int .i64 0]) ∧ w = w' := by
  go_enter Try.func40, Try.ntmps40
  go_wp2_with (go_at_call 54; refine (rwrap_any _ _ (by omega) (by omega)).mono ?_; rintro e _ ⟨rfl, rfl⟩)
  all_goals
    go_ret2
    exact ⟨rfl, rfl⟩

set_option maxRecDepth 100000 in
set_option maxHeartbeats 1000000 in
theorem rapply_8 (x y : Int) (w : World) (hx1 : -2147483648 ≤ x) (hx2 : x ≤ 2147483647) (hy1 : -2147483648 ≤ y) (hy2 : y ≤ 2147483647) :
    Calls Try.prog 40 #[.int .u8 8, .int .i32 x, .int .i32 y] w fun e w' => e = .returned (.tuple #[.int .i32 (wrap32 (x * y)), .int .i64 0]) ∧ w = w' := by
  have hm := mul_word hx1 hx2 hy1 hy2
  obtain ⟨m1, m2⟩ := hm
  go_enter Try.func40, Try.ntmps40
  go_wp2_with (go_at_call 54; refine (rwrap_any _ _ (by omega) (by omega)).mono ?_; rintro e _ ⟨rfl, rfl⟩)
  all_goals
    go_ret2
    exact ⟨rfl, rfl⟩

set_option maxRecDepth 100000 in
set_option maxHeartbeats 1000000 in
theorem rapply_9z (x y : Int) (w : World) (hx1 : -2147483648 ≤ x) (hx2 : x ≤ 2147483647) (hy1 : -2147483648 ≤ y) (hy2 : y ≤ 2147483647) (h0 : y = 0) :
    Calls Try.prog 40 #[.int .u8 9, .int .i32 x, .int .i32 y] w fun e w' => e = .returned (.tuple #[.int .i32 (0), .int .i64 9]) ∧ w = w' := by
  have z : (y == 0) = true := by simpa using h0
  go_enter Try.func40, Try.ntmps40
  go_wp2_with fail
  all_goals
    go_ret2
    exact ⟨rfl, rfl⟩

set_option maxRecDepth 100000 in
set_option maxHeartbeats 1000000 in
theorem rapply_10z (x y : Int) (w : World) (hx1 : -2147483648 ≤ x) (hx2 : x ≤ 2147483647) (hy1 : -2147483648 ≤ y) (hy2 : y ≤ 2147483647) (h0 : y = 0) :
    Calls Try.prog 40 #[.int .u8 10, .int .i32 x, .int .i32 y] w fun e w' => e = .returned (.tuple #[.int .i32 (0), .int .i64 9]) ∧ w = w' := by
  have z : (y == 0) = true := by simpa using h0
  go_enter Try.func40, Try.ntmps40
  go_wp2_with fail
  all_goals
    go_ret2
    exact ⟨rfl, rfl⟩

set_option maxRecDepth 100000 in
set_option maxHeartbeats 1000000 in
theorem rapply_9 (x y : Int) (w : World) (hx1 : -2147483648 ≤ x) (hx2 : x ≤ 2147483647) (hy1 : -2147483648 ≤ y) (hy2 : y ≤ 2147483647) (h0 : ¬ y = 0) :
    Calls Try.prog 40 #[.int .u8 9, .int .i32 x, .int .i32 y] w fun e w' => e = .returned (.tuple #[.int .i32 (wrap32 (x.tdiv y)), .int .i64 0]) ∧ w = w' := by
  have z : (y == 0) = false := by simpa using h0
  have tb := tdiv_bd x y hx1 hx2
  obtain ⟨t1, t2⟩ := tb
  go_enter Try.func40, Try.ntmps40
  go_wp2_with (go_at_call 54; refine (rwrap_any _ _ (by omega) (by omega)).mono ?_; rintro e _ ⟨rfl, rfl⟩)
  all_goals
    go_ret2
    exact ⟨rfl, rfl⟩

set_option maxRecDepth 100000 in
set_option maxHeartbeats 1000000 in
theorem rapply_10 (x y : Int) (w : World) (hx1 : -2147483648 ≤ x) (hx2 : x ≤ 2147483647) (hy1 : -2147483648 ≤ y) (hy2 : y ≤ 2147483647) (h0 : ¬ y = 0) :
    Calls Try.prog 40 #[.int .u8 10, .int .i32 x, .int .i32 y] w fun e w' => e = .returned (.tuple #[.int .i32 (x.tmod y), .int .i64 0]) ∧ w = w' := by
  have z : (y == 0) = false := by simpa using h0
  have tb := tdiv_bd x y hx1 hx2
  obtain ⟨t1, t2⟩ := tb
  go_enter Try.func40, Try.ntmps40
  go_wp2_with fail
  refine (rwrap_any _ _ (by omega) (by omega)).mono ?_
  rintro e _ ⟨rfl, rfl⟩
  have hw := wrap32_word (x.tdiv y)
  have MW := Lib.hid (mod_wrap ⟨hx1, hx2⟩ ⟨hy1, hy2⟩ h0)
  obtain ⟨q, hq⟩ : ∃ q, wrap32 (x.tdiv y) = q := ⟨_, rfl⟩
  rw [hq] at hw MW ⊢
  clear hq
  obtain ⟨w1, w2⟩ := hw
  have hm := mul_word w1 w2 hy1 hy2
  obtain ⟨m1, m2⟩ := hm
  go_wp2_with fail
  refine (rwrap_any _ _ (by omega) (by omega)).mono ?_
  rintro e _ ⟨rfl, rfl⟩
  go_wp2
  all_goals
    go_ret2
    exact ⟨by rw [MW.out]; rfl, rfl⟩

set_option maxRecDepth 100000 in
set_option maxHeartbeats 1000000 in
theorem rapply_11 (x y : Int) (w : World) (hx1 : -2147483648 ≤ x) (hx2 : x ≤ 2147483647) (hy1 : -2147483648 ≤ y) (hy2 : y ≤ 2147483647) :
    Calls Try.prog 40 #[.int .u8 11, .int .i32 x, .int .i32 y] w fun e w' => e = .returned (.tuple #[.int .i32 (wv 11 x y), .int .i64 0]) ∧ w = w' := by
  go_enter Try.func40, Try.ntmps40
  go_wp2_with (go_at_call 55; refine (rbits_11 _ _ _ ⟨hx1, hx2⟩ ⟨hy1, hy2⟩).mono ?_; rintro e _ ⟨rfl, rfl⟩)
  all_goals
    go_ret2
    exact ⟨rfl, rfl⟩

set_option maxRecDepth 100000 in
set_option maxHeartbeats 1000000 in
theorem rapply_12 (x y : Int) (w : World) (hx1 : -2147483648 ≤ x) (hx2 : x ≤ 2147483647) (hy1 : -2147483648 ≤ y) (hy2 : y ≤ 2147483647) :
    Calls Try.prog 40 #[.int .u8 12, .int .i32 x, .int .i32 y] w fun e w' => e = .returned (.tuple #[.int .i32 (wv 12 x y), .int .i64 0]) ∧ w = w' := by
  go_enter Try.func40, Try.ntmps40
  go_wp2_with (go_at_call 55; refine (rbits_12 _ _ _ ⟨hx1, hx2⟩ ⟨hy1, hy2⟩).mono ?_; rintro e _ ⟨rfl, rfl⟩)
  all_goals
    go_ret2
    exact ⟨rfl, rfl⟩

set_option maxRecDepth 100000 in
set_option maxHeartbeats 1000000 in
theorem rapply_13 (x y : Int) (w : World) (hx1 : -2147483648 ≤ x) (hx2 : x ≤ 2147483647) (hy1 : -2147483648 ≤ y) (hy2 : y ≤ 2147483647) :
    Calls Try.prog 40 #[.int .u8 13, .int .i32 x, .int .i32 y] w fun e w' => e = .returned (.tuple #[.int .i32 (wv 13 x y), .int .i64 0]) ∧ w = w' := by
  go_enter Try.func40, Try.ntmps40
  go_wp2_with (go_at_call 55; refine (rbits_13 _ _ _ ⟨hx1, hx2⟩ ⟨hy1, hy2⟩).mono ?_; rintro e _ ⟨rfl, rfl⟩)
  all_goals
    go_ret2
    exact ⟨rfl, rfl⟩

set_option maxRecDepth 100000 in
set_option maxHeartbeats 1000000 in
theorem rapply_14 (x y : Int) (w : World) (hx1 : -2147483648 ≤ x) (hx2 : x ≤ 2147483647) (hy1 : -2147483648 ≤ y) (hy2 : y ≤ 2147483647) :
    Calls Try.prog 40 #[.int .u8 14, .int .i32 x, .int .i32 y] w fun e w' => e = .returned (.tuple #[.int .i32 (wrap32 (x * 2 ^ (y % 32).toNat)), .int .i64 0]) ∧ w = w' := by
  go_enter Try.func40, Try.ntmps40
  go_wp2_with (first | (go_at_call 57; refine (rcount_any _ _ ⟨hy1, hy2⟩).mono ?_; rintro e _ ⟨rfl, rfl⟩) | (go_at_call 56; refine (rshift_left _ _ _ ⟨hx1, hx2⟩ (by omega) (by omega)).mono ?_; rintro e _ ⟨rfl, rfl⟩))
  all_goals
    go_ret2
    exact ⟨rfl, rfl⟩

set_option maxRecDepth 100000 in
set_option maxHeartbeats 1000000 in
theorem rapply_15 (x y : Int) (w : World) (hx1 : -2147483648 ≤ x) (hx2 : x ≤ 2147483647) (hy1 : -2147483648 ≤ y) (hy2 : y ≤ 2147483647) :
    Calls Try.prog 40 #[.int .u8 15, .int .i32 x, .int .i32 y] w fun e w' => e = .returned (.tuple #[.int .i32 (x / 2 ^ (y % 32).toNat), .int .i64 0]) ∧ w = w' := by
  go_enter Try.func40, Try.ntmps40
  go_wp2_with (first | (go_at_call 57; refine (rcount_any _ _ ⟨hy1, hy2⟩).mono ?_; rintro e _ ⟨rfl, rfl⟩) | (go_at_call 56; refine (rshift_right _ _ _ ⟨hx1, hx2⟩ (by omega) (by omega)).mono ?_; rintro e _ ⟨rfl, rfl⟩))
  all_goals
    go_ret2
    exact ⟨rfl, rfl⟩

set_option maxRecDepth 100000 in
set_option maxHeartbeats 1000000 in
theorem rapply_16 (x y : Int) (w : World) (hx1 : -2147483648 ≤ x) (hx2 : x ≤ 2147483647) (hy1 : -2147483648 ≤ y) (hy2 : y ≤ 2147483647) :
    Calls Try.prog 40 #[.int .u8 16, .int .i32 x, .int .i32 y] w fun e w' => e = .returned (.tuple #[.int .i32 (b2i (x == y)), .int .i64 0]) ∧ w = w' := by
  go_enter Try.func40, Try.ntmps40
  go_wp2_with (go_at_call 58; refine (rtruth_any _ _).mono ?_; rintro e _ ⟨rfl, rfl⟩)
  all_goals
    go_ret2
    exact ⟨rfl, rfl⟩

set_option maxRecDepth 100000 in
set_option maxHeartbeats 1000000 in
theorem rapply_17 (x y : Int) (w : World) (hx1 : -2147483648 ≤ x) (hx2 : x ≤ 2147483647) (hy1 : -2147483648 ≤ y) (hy2 : y ≤ 2147483647) :
    Calls Try.prog 40 #[.int .u8 17, .int .i32 x, .int .i32 y] w fun e w' => e = .returned (.tuple #[.int .i32 (b2i (x != y)), .int .i64 0]) ∧ w = w' := by
  go_enter Try.func40, Try.ntmps40
  go_wp2_with (go_at_call 58; refine (rtruth_any _ _).mono ?_; rintro e _ ⟨rfl, rfl⟩)
  all_goals
    go_ret2
    exact ⟨rfl, rfl⟩

set_option maxRecDepth 100000 in
set_option maxHeartbeats 1000000 in
theorem rapply_18 (x y : Int) (w : World) (hx1 : -2147483648 ≤ x) (hx2 : x ≤ 2147483647) (hy1 : -2147483648 ≤ y) (hy2 : y ≤ 2147483647) :
    Calls Try.prog 40 #[.int .u8 18, .int .i32 x, .int .i32 y] w fun e w' => e = .returned (.tuple #[.int .i32 (b2i (decide (x < y))), .int .i64 0]) ∧ w = w' := by
  go_enter Try.func40, Try.ntmps40
  go_wp2_with (go_at_call 58; refine (rtruth_any _ _).mono ?_; rintro e _ ⟨rfl, rfl⟩)
  all_goals
    go_ret2
    exact ⟨rfl, rfl⟩

set_option maxRecDepth 100000 in
set_option maxHeartbeats 1000000 in
theorem rapply_19 (x y : Int) (w : World) (hx1 : -2147483648 ≤ x) (hx2 : x ≤ 2147483647) (hy1 : -2147483648 ≤ y) (hy2 : y ≤ 2147483647) :
    Calls Try.prog 40 #[.int .u8 19, .int .i32 x, .int .i32 y] w fun e w' => e = .returned (.tuple #[.int .i32 (b2i (decide (x ≤ y))), .int .i64 0]) ∧ w = w' := by
  go_enter Try.func40, Try.ntmps40
  go_wp2_with (go_at_call 58; refine (rtruth_any _ _).mono ?_; rintro e _ ⟨rfl, rfl⟩)
  all_goals
    go_ret2
    exact ⟨rfl, rfl⟩

set_option maxRecDepth 100000 in
set_option maxHeartbeats 1000000 in
theorem rapply_20 (x y : Int) (w : World) (hx1 : -2147483648 ≤ x) (hx2 : x ≤ 2147483647) (hy1 : -2147483648 ≤ y) (hy2 : y ≤ 2147483647) :
    Calls Try.prog 40 #[.int .u8 20, .int .i32 x, .int .i32 y] w fun e w' => e = .returned (.tuple #[.int .i32 (b2i (decide (y < x))), .int .i64 0]) ∧ w = w' := by
  go_enter Try.func40, Try.ntmps40
  go_wp2_with (go_at_call 58; refine (rtruth_any _ _).mono ?_; rintro e _ ⟨rfl, rfl⟩)
  all_goals
    go_ret2
    exact ⟨rfl, rfl⟩

set_option maxRecDepth 100000 in
set_option maxHeartbeats 1000000 in
theorem rapply_21 (x y : Int) (w : World) (hx1 : -2147483648 ≤ x) (hx2 : x ≤ 2147483647) (hy1 : -2147483648 ≤ y) (hy2 : y ≤ 2147483647) :
    Calls Try.prog 40 #[.int .u8 21, .int .i32 x, .int .i32 y] w fun e w' => e = .returned (.tuple #[.int .i32 (b2i (decide (y ≤ x))), .int .i64 0]) ∧ w = w' := by
  go_enter Try.func40, Try.ntmps40
  go_wp2_with (go_at_call 58; refine (rtruth_any _ _).mono ?_; rintro e _ ⟨rfl, rfl⟩)
  all_goals
    go_ret2
    exact ⟨rfl, rfl⟩

set_option maxRecDepth 100000 in
set_option maxHeartbeats 1000000 in
theorem rapply_22_t (x y : Int) (w : World) (hx1 : -2147483648 ≤ x) (hx2 : x ≤ 2147483647) (hy1 : -2147483648 ≤ y) (hy2 : y ≤ 2147483647) (z : (x != 0) = true) :
    Calls Try.prog 40 #[.int .u8 22, .int .i32 x, .int .i32 y] w fun e w' => e = .returned (.tuple #[.int .i32 (b2i (x != 0 && y != 0)), .int .i64 0]) ∧ w = w' := by
  have z0 : (x == 0) = false := by simpa using z
  go_enter Try.func40, Try.ntmps40
  go_wp2_with (go_at_call 58; refine (rtruth_any _ _).mono ?_; rintro e _ ⟨rfl, rfl⟩)
  all_goals
    go_ret2
    exact ⟨by simp only [z]; simp, rfl⟩

set_option maxRecDepth 100000 in
set_option maxHeartbeats 1000000 in
theorem rapply_22_f (x y : Int) (w : World) (hx1 : -2147483648 ≤ x) (hx2 : x ≤ 2147483647) (hy1 : -2147483648 ≤ y) (hy2 : y ≤ 2147483647) (z : (x != 0) = false) :
    Calls Try.prog 40 #[.int .u8 22, .int .i32 x, .int .i32 y] w fun e w' => e = .returned (.tuple #[.int .i32 (b2i (x != 0 && y != 0)), .int .i64 0]) ∧ w = w' := by
  have z0 : (x == 0) = true := by simpa using z
  go_enter Try.func40, Try.ntmps40
  go_wp2_with (go_at_call 58; refine (rtruth_any _ _).mono ?_; rintro e _ ⟨rfl, rfl⟩)
  all_goals
    go_ret2
    exact ⟨by simp only [z]; simp, rfl⟩

theorem rapply_22 (x y : Int) (w : World) (hx1 : -2147483648 ≤ x) (hx2 : x ≤ 2147483647) (hy1 : -2147483648 ≤ y) (hy2 : y ≤ 2147483647) :
    Calls Try.prog 40 #[.int .u8 22, .int .i32 x, .int .i32 y] w fun e w' => e = .returned (.tuple #[.int .i32 (b2i (x != 0 && y != 0)), .int .i64 0]) ∧ w = w' := by
  cases z : (x != 0)
  · have h := rapply_22_f x y w hx1 hx2 hy1 hy2 z
    rw [z] at h
    exact h
  · have h := rapply_22_t x y w hx1 hx2 hy1 hy2 z
    rw [z] at h
    exact h

set_option maxRecDepth 100000 in
set_option maxHeartbeats 1000000 in
theorem rapply_23_t (x y : Int) (w : World) (hx1 : -2147483648 ≤ x) (hx2 : x ≤ 2147483647) (hy1 : -2147483648 ≤ y) (hy2 : y ≤ 2147483647) (z : (x != 0) = true) :
    Calls Try.prog 40 #[.int .u8 23, .int .i32 x, .int .i32 y] w fun e w' => e = .returned (.tuple #[.int .i32 (b2i (x != 0 || y != 0)), .int .i64 0]) ∧ w = w' := by
  have z0 : (x == 0) = false := by simpa using z
  go_enter Try.func40, Try.ntmps40
  go_wp2_with (go_at_call 58; refine (rtruth_any _ _).mono ?_; rintro e _ ⟨rfl, rfl⟩)
  all_goals
    go_ret2
    exact ⟨by simp only [z]; simp, rfl⟩

set_option maxRecDepth 100000 in
set_option maxHeartbeats 1000000 in
theorem rapply_23_f (x y : Int) (w : World) (hx1 : -2147483648 ≤ x) (hx2 : x ≤ 2147483647) (hy1 : -2147483648 ≤ y) (hy2 : y ≤ 2147483647) (z : (x != 0) = false) :
    Calls Try.prog 40 #[.int .u8 23, .int .i32 x, .int .i32 y] w fun e w' => e = .returned (.tuple #[.int .i32 (b2i (x != 0 || y != 0)), .int .i64 0]) ∧ w = w' := by
  have z0 : (x == 0) = true := by simpa using z
  go_enter Try.func40, Try.ntmps40
  go_wp2_with (go_at_call 58; refine (rtruth_any _ _).mono ?_; rintro e _ ⟨rfl, rfl⟩)
  all_goals
    go_ret2
    exact ⟨by simp only [z]; simp, rfl⟩

theorem rapply_23 (x y : Int) (w : World) (hx1 : -2147483648 ≤ x) (hx2 : x ≤ 2147483647) (hy1 : -2147483648 ≤ y) (hy2 : y ≤ 2147483647) :
    Calls Try.prog 40 #[.int .u8 23, .int .i32 x, .int .i32 y] w fun e w' => e = .returned (.tuple #[.int .i32 (b2i (x != 0 || y != 0)), .int .i64 0]) ∧ w = w' := by
  cases z : (x != 0)
  · have h := rapply_23_f x y w hx1 hx2 hy1 hy2 z
    rw [z] at h
    exact h
  · have h := rapply_23_t x y w hx1 hx2 hy1 hy2 z
    rw [z] at h
    exact h

set_option maxRecDepth 100000 in
set_option maxHeartbeats 1000000 in
theorem rapply_out (op x y : Int) (w : World) (hop : ¬ (6 ≤ op ∧ op ≤ 23)) :
    Calls Try.prog 40 #[.int .u8 op, .int .i32 x, .int .i32 y] w fun e w' => e = .returned (.tuple #[.int .i32 0, .int .i64 1]) ∧ w = w' := by
  have n6 : (op == 6) = false := by simp; omega
  have n7 : (op == 7) = false := by simp; omega
  have n8 : (op == 8) = false := by simp; omega
  have n9 : (op == 9) = false := by simp; omega
  have n10 : (op == 10) = false := by simp; omega
  have n11 : (op == 11) = false := by simp; omega
  have n12 : (op == 12) = false := by simp; omega
  have n13 : (op == 13) = false := by simp; omega
  have n14 : (op == 14) = false := by simp; omega
  have n15 : (op == 15) = false := by simp; omega
  have n16 : (op == 16) = false := by simp; omega
  have n17 : (op == 17) = false := by simp; omega
  have n18 : (op == 18) = false := by simp; omega
  have n19 : (op == 19) = false := by simp; omega
  have n20 : (op == 20) = false := by simp; omega
  have n21 : (op == 21) = false := by simp; omega
  have n22 : (op == 22) = false := by simp; omega
  have n23 : (op == 23) = false := by simp; omega
  clear hop
  go_enter Try.func40, Try.ntmps40
  go_wp2
  go_ret2
  exact ⟨rfl, rfl⟩

theorem rapply_any (op x y : Int) (w : World) (hx : W32 x) (hy : W32 y) :
    Calls Try.prog 40 #[.int .u8 op, .int .i32 x, .int .i32 y] w fun e w' => e = .returned (.tuple #[.int .i32 (wv op x y), .int .i64 (we op y)]) ∧ w = w' := by
  obtain ⟨hx1, hx2⟩ := hx
  obtain ⟨hy1, hy2⟩ := hy
  by_cases hop : 6 ≤ op ∧ op ≤ 23
  · have h : op = 6 ∨ op = 7 ∨ op = 8 ∨ op = 9 ∨ op = 10 ∨ op = 11 ∨ op = 12 ∨ op = 13 ∨ op = 14 ∨ op = 15 ∨ op = 16 ∨ op = 17 ∨ op = 18 ∨ op = 19 ∨ op = 20 ∨ op = 21 ∨ op = 22 ∨ op = 23 := by omega
    rcases h with rfl | rfl | rfl | rfl | rfl | rfl | rfl | rfl | rfl | rfl | rfl | rfl | rfl | rfl | rfl | rfl | rfl | rfl
    · exact rapply_6 x y w hx1 hx2 hy1 hy2
    · exact rapply_7 x y w hx1 hx2 hy1 hy2
    · exact rapply_8 x y w hx1 hx2 hy1 hy2
    · by_cases h0 : y = 0
      · refine (rapply_9z x y w hx1 hx2 hy1 hy2 h0).mono fun e w' ⟨he, hw⟩ => ⟨?_, hw⟩
        rw [he]
        simp [wv, we, h0]
      · refine (rapply_9 x y w hx1 hx2 hy1 hy2 h0).mono fun e w' ⟨he, hw⟩ => ⟨?_, hw⟩
        rw [he]
        simp [wv, we, h0]
    · by_cases h0 : y = 0
      · refine (rapply_10z x y w hx1 hx2 hy1 hy2 h0).mono fun e w' ⟨he, hw⟩ => ⟨?_, hw⟩
        rw [he]
        simp [wv, we, h0]
      · refine (rapply_10 x y w hx1 hx2 hy1 hy2 h0).mono fun e w' ⟨he, hw⟩ => ⟨?_, hw⟩
        rw [he]
        simp [wv, we, h0]
    · exact rapply_11 x y w hx1 hx2 hy1 hy2
    · exact rapply_12 x y w hx1 hx2 hy1 hy2
    · exact rapply_13 x y w hx1 hx2 hy1 hy2
    · exact rapply_14 x y w hx1 hx2 hy1 hy2
    · exact rapply_15 x y w hx1 hx2 hy1 hy2
    · exact rapply_16 x y w hx1 hx2 hy1 hy2
    · exact rapply_17 x y w hx1 hx2 hy1 hy2
    · exact rapply_18 x y w hx1 hx2 hy1 hy2
    · exact rapply_19 x y w hx1 hx2 hy1 hy2
    · exact rapply_20 x y w hx1 hx2 hy1 hy2
    · exact rapply_21 x y w hx1 hx2 hy1 hy2
    · exact rapply_22 x y w hx1 hx2 hy1 hy2
    · exact rapply_23 x y w hx1 hx2 hy1 hy2
  · refine (rapply_out op x y w hop).mono fun e w' ⟨he, hw⟩ => ⟨?_, hw⟩
    rw [he]
    have e1 : wv op x y = 0 := by
      unfold wv
      iterate 18 rw [if_neg (by omega)]
    have e2 : we op y = 1 := by unfold we; rw [if_neg hop]
    rw [e1, e2]

end Go.Proofs.Ytjkjcnamlankoaa
