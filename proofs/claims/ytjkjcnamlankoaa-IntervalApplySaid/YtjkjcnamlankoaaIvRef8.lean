/-
  What is proved here: what ontimeref27.remainder, ones, bitwise and shift return.
-/
import Derived.Test.YtjkjcnamlankoaaIvRef7
namespace Go.Proofs.Ytjkjcnamlankoaa
open Go.RowKit
set_option linter.unusedVariables false
set_option linter.unusedSimpArgs false

theorem ext_alloc {V : World} {ob : Obj} (y : Ext (V.alloc ob)) : ∃ y' : Ext V, y.w = y'.w :=
  ⟨⟨y.w, Ext.below (Below.alloc (Below.refl _ _) (Nat.le_refl _) ob) (by rw [World.size_alloc]; omega) y⟩, rfl⟩

set_option maxRecDepth 100000 in
set_option maxHeartbeats 1000000 in
theorem rrem_np (xl xh yl yh : Int) (w : World) (hx1 : -2147483648 ≤ xl) (hx2 : xl ≤ 2147483647) (hx3 : -2147483648 ≤ xh) (hx4 : xh ≤ 2147483647) (hy1 : -2147483648 ≤ yl) (hy2 : yl ≤ 2147483647) (hy3 : -2147483648 ≤ yh) (hy4 : yh ≤ 2147483647) (hy : yl ≤ yh) (ha : xl < 0) (hb : 0 < xh) :
    Calls Try.prog 44 #[.agg #[.int .i32 xl, .int .i32 xh], .agg #[.int .i32 yl, .int .i32 yh]] w fun e w' => e = .returned (.agg #[.int .i32 (max xl (0 - (max (0 - yl) yh - 1))), .int .i32 (min xh (max (0 - yl) yh - 1))]) ∧ Below w.heap.size w w' := by
  have d1 : decide (xl < 0) = true := by simp; omega
  have d2 : decide (0 < xh) = true := by simp; omega
  go_enter Try.func44, Try.ntmps44
  go_wp2_with (first | (go_at_call 59; refine (rleast_any _ _ _).mono ?_; rintro e _ ⟨rfl, rfl⟩) | (go_at_call 60; refine (rmost_any _ _ _).mono ?_; rintro e _ ⟨rfl, rfl⟩))
  all_goals
    refine bodyPost_ret (v := .agg #[.int .i32 (max xl (0 - (max (0 - yl) yh - 1))), .int .i32 (min xh (max (0 - yl) yh - 1))]) ?hr rfl ⟨rfl, ?bel⟩
    case hr =>
      simp [results, Try.results44, go_sem]
    case bel =>
      (repeat (first | exact Below.refl _ _ | refine Below.setCell ?_ ?_ _ | refine Ext.below ?_ ?_ _ | refine Below.alloc ?_ ?_ _)) <;> (first | (simp; done) | (simp; omega) | omega | (simp only [World.size_setCell, World.size_alloc]; refine Nat.le_trans ?_ (Below.size (Ext.h _)); simp only [World.size_setCell, World.size_alloc]; omega))

set_option maxRecDepth 100000 in
set_option maxHeartbeats 1000000 in
theorem rrem_nn (xl xh yl yh : Int) (w : World) (hx1 : -2147483648 ≤ xl) (hx2 : xl ≤ 2147483647) (hx3 : -2147483648 ≤ xh) (hx4 : xh ≤ 2147483647) (hy1 : -2147483648 ≤ yl) (hy2 : yl ≤ 2147483647) (hy3 : -2147483648 ≤ yh) (hy4 : yh ≤ 2147483647) (hy : yl ≤ yh) (ha : xl < 0) (hb : ¬ 0 < xh) :
    Calls Try.prog 44 #[.agg #[.int .i32 xl, .int .i32 xh], .agg #[.int .i32 yl, .int .i32 yh]] w fun e w' => e = .returned (.agg #[.int .i32 (max xl (0 - (max (0 - yl) yh - 1))), .int .i32 (0)]) ∧ Below w.heap.size w w' := by
  have d1 : decide (xl < 0) = true := by simp; omega
  have d2 : decide (0 < xh) = false := by simp; omega
  go_enter Try.func44, Try.ntmps44
  go_wp2_with (first | (go_at_call 59; refine (rleast_any _ _ _).mono ?_; rintro e _ ⟨rfl, rfl⟩) | (go_at_call 60; refine (rmost_any _ _ _).mono ?_; rintro e _ ⟨rfl, rfl⟩))
  all_goals
    refine bodyPost_ret (v := .agg #[.int .i32 (max xl (0 - (max (0 - yl) yh - 1))), .int .i32 (0)]) ?hr rfl ⟨rfl, ?bel⟩
    case hr =>
      simp [results, Try.results44, go_sem]
    case bel =>
      (repeat (first | exact Below.refl _ _ | refine Below.setCell ?_ ?_ _ | refine Ext.below ?_ ?_ _ | refine Below.alloc ?_ ?_ _)) <;> (first | (simp; done) | (simp; omega) | omega | (simp only [World.size_setCell, World.size_alloc]; refine Nat.le_trans ?_ (Below.size (Ext.h _)); simp only [World.size_setCell, World.size_alloc]; omega))

set_option maxRecDepth 100000 in
set_option maxHeartbeats 1000000 in
theorem rrem_pp (xl xh yl yh : Int) (w : World) (hx1 : -2147483648 ≤ xl) (hx2 : xl ≤ 2147483647) (hx3 : -2147483648 ≤ xh) (hx4 : xh ≤ 2147483647) (hy1 : -2147483648 ≤ yl) (hy2 : yl ≤ 2147483647) (hy3 : -2147483648 ≤ yh) (hy4 : yh ≤ 2147483647) (hy : yl ≤ yh) (ha : ¬ xl < 0) (hb : 0 < xh) :
    Calls Try.prog 44 #[.agg #[.int .i32 xl, .int .i32 xh], .agg #[.int .i32 yl, .int .i32 yh]] w fun e w' => e = .returned (.agg #[.int .i32 (0), .int .i32 (min xh (max (0 - yl) yh - 1))]) ∧ Below w.heap.size w w' := by
  have d1 : decide (xl < 0) = false := by simp; omega
  have d2 : decide (0 < xh) = true := by simp; omega
  go_enter Try.func44, Try.ntmps44
  go_wp2_with (first | (go_at_call 59; refine (rleast_any _ _ _).mono ?_; rintro e _ ⟨rfl, rfl⟩) | (go_at_call 60; refine (rmost_any _ _ _).mono ?_; rintro e _ ⟨rfl, rfl⟩))
  all_goals
    refine bodyPost_ret (v := .agg #[.int .i32 (0), .int .i32 (min xh (max (0 - yl) yh - 1))]) ?hr rfl ⟨rfl, ?bel⟩
    case hr =>
      simp [results, Try.results44, go_sem]
    case bel =>
      (repeat (first | exact Below.refl _ _ | refine Below.setCell ?_ ?_ _ | refine Ext.below ?_ ?_ _ | refine Below.alloc ?_ ?_ _)) <;> (first | (simp; done) | (simp; omega) | omega | (simp only [World.size_setCell, World.size_alloc]; refine Nat.le_trans ?_ (Below.size (Ext.h _)); simp only [World.size_setCell, World.size_alloc]; omega))

set_option maxRecDepth 100000 in
set_option maxHeartbeats 1000000 in
theorem rrem_pn (xl xh yl yh : Int) (w : World) (hx1 : -2147483648 ≤ xl) (hx2 : xl ≤ 2147483647) (hx3 : -2147483648 ≤ xh) (hx4 : xh ≤ 2147483647) (hy1 : -2147483648 ≤ yl) (hy2 : yl ≤ 2147483647) (hy3 : -2147483648 ≤ yh) (hy4 : yh ≤ 2147483647) (hy : yl ≤ yh) (ha : ¬ xl < 0) (hb : ¬ 0 < xh) :
    Calls Try.prog 44 #[.agg #[.int .i32 xl, .int .i32 xh], .agg #[.int .i32 yl, .int .i32 yh]] w fun e w' => e = .returned (.agg #[.int .i32 (0), .int .i32 (0)]) ∧ Below w.heap.size w w' := by
  have d1 : decide (xl < 0) = false := by simp; omega
  have d2 : decide (0 < xh) = false := by simp; omega
  go_enter Try.func44, Try.ntmps44
  go_wp2_with (first | (go_at_call 59; refine (rleast_any _ _ _).mono ?_; rintro e _ ⟨rfl, rfl⟩) | (go_at_call 60; refine (rmost_any _ _ _).mono ?_; rintro e _ ⟨rfl, rfl⟩))
  all_goals
    refine bodyPost_ret (v := .agg #[.int .i32 (0), .int .i32 (0)]) ?hr rfl ⟨rfl, ?bel⟩
    case hr =>
      simp [results, Try.results44, go_sem]
    case bel =>
      (repeat (first | exact Below.refl _ _ | refine Below.setCell ?_ ?_ _ | refine Ext.below ?_ ?_ _ | refine Below.alloc ?_ ?_ _)) <;> (first | (simp; done) | (simp; omega) | omega | (simp only [World.size_setCell, World.size_alloc]; refine Nat.le_trans ?_ (Below.size (Ext.h _)); simp only [World.size_setCell, World.size_alloc]; omega))

theorem rrem_any (xl xh yl yh : Int) (w : World) (hx1 : -2147483648 ≤ xl) (hx2 : xl ≤ 2147483647) (hx3 : -2147483648 ≤ xh) (hx4 : xh ≤ 2147483647) (hy1 : -2147483648 ≤ yl) (hy2 : yl ≤ 2147483647) (hy3 : -2147483648 ≤ yh) (hy4 : yh ≤ 2147483647) (hy : yl ≤ yh) (z : ¬ (yl = 0 ∧ yh = 0)) :
    Calls Try.prog 44 #[.agg #[.int .i32 xl, .int .i32 xh], .agg #[.int .i32 yl, .int .i32 yh]] w fun e w' => e = .returned (.agg #[.int .i32 (modI (xl, xh) (yl, yh)).1, .int .i32 (modI (xl, xh) (yl, yh)).2]) ∧ Below w.heap.size w w' := by
  have hm : max (0 - yl) yh - 1 = modM (yl, yh) := by unfold modM; simp only; omega
  by_cases ha : xl < 0 <;> by_cases hb : 0 < xh
  · refine (rrem_np xl xh yl yh w hx1 hx2 hx3 hx4 hy1 hy2 hy3 hy4 hy ha hb).mono fun e w' ⟨q, hb'⟩ => ⟨q.trans ?_, hb'⟩
    rw [hm]; simp [modI, z, ha, hb]
  · refine (rrem_nn xl xh yl yh w hx1 hx2 hx3 hx4 hy1 hy2 hy3 hy4 hy ha hb).mono fun e w' ⟨q, hb'⟩ => ⟨q.trans ?_, hb'⟩
    rw [hm]; simp [modI, z, ha, hb]
  · refine (rrem_pp xl xh yl yh w hx1 hx2 hx3 hx4 hy1 hy2 hy3 hy4 hy ha hb).mono fun e w' ⟨q, hb'⟩ => ⟨q.trans ?_, hb'⟩
    rw [hm]; simp [modI, z, ha, hb]
  · refine (rrem_pn xl xh yl yh w hx1 hx2 hx3 hx4 hy1 hy2 hy3 hy4 hy ha hb).mono fun e w' ⟨q, hb'⟩ => ⟨q.trans ?_, hb'⟩
    simp [modI, z, ha, hb]

theorem pow_le_pow_iff' {a b : Nat} (h : 2 ^ a < 2 ^ b) : a < b := by
  rcases Nat.lt_or_ge a b with h' | h'
  · exact h'
  · have := Nat.pow_le_pow_right (n := 2) (by omega) h'; omega
set_option maxHeartbeats 1000000 in
theorem rones_any (n : Int) (w : World) (h0 : 0 ≤ n) (h1 : n ≤ 2147483647) :
    Calls Try.prog 62 #[.int .i32 n] w fun e w' => e = .returned (.int .i32 (onesI n)) ∧ w = w' := by
  have HL := Lib.hid (lt_two_pow_bitLenAux 64 n.toNat (by omega))
  have HB := Lib.hid (fun k (h : n.toNat < 2 ^ k) => bitLenAux_le 64 k n.toNat h)
  have H31 := bitLen_le h0 h1
  unfold Lib.bitLen at H31
  have EV := Lib.hid (show onesI n = 2 ^ Lib.bitLenAux 64 n.toNat - 1 from rfl)
  generalize Lib.bitLenAux 64 n.toNat = B at *
  go_enter Try.func62, Try.ntmps62
  go_wp2
  go_loop [3] (fun p => ∃ k : Nat, k ≤ B ∧ p = .int .i64 (2 ^ k)) (fun p => (4294967296 - intOf p).toNat)
  case atStart => exact ⟨0, by omega, rfl⟩
  case round =>
    obtain ⟨k, hk, rfl⟩ := hrel
    have hp := pow_bd k 31 (by omega)
    have e31 : (2 : Int) ^ 31 = 2147483648 := by decide
    rw [e31] at hp
    obtain ⟨p1, p2⟩ := hp
    have ec : ((2 ^ k : Nat) : Int) = 2 ^ k := by simp
    have EC := Lib.hid ec
    have P2 := Lib.hid (show (2 : Int) * 2 ^ k = 2 ^ (k + 1) by rw [Int.pow_succ]; omega)
    clear ec e31
    by_cases hlt : (2 : Int) ^ k - 1 < n
    · have hkB : k < B := pow_le_pow_iff' (by have := HL.out; have := EC.out; omega)
      have d := decide_eq_true hlt
      obtain ⟨p, hp⟩ : ∃ p, (2 : Int) ^ k = p := ⟨_, rfl⟩
      rw [hp] at p1 p2 P2 hlt d ⊢
      clear hp EC
      go_wp2
      go_round
      case rel => exact ⟨k + 1, by omega, int_eq P2.out⟩
      case measure => simp [intOf]; omega
    · have hkB : k = B := by
        have h := HB.out k (by have := EC.out; omega)
        omega
      have d := decide_eq_false hlt
      have E2 := Lib.hid hkB
      obtain ⟨p, hp⟩ : ∃ p, (2 : Int) ^ k = p := ⟨_, rfl⟩
      have HP := Lib.hid hp
      rw [hp] at p1 p2 hlt d ⊢
      clear hp EC P2 hkB
      go_wp2
      go_ret
      exact ⟨ret_int (by rw [EV.out, ← E2.out, HP.out]), rfl⟩

set_option maxRecDepth 100000 in
set_option maxHeartbeats 1000000 in
theorem rbit_11_b (xl xh yl yh : Int) (w : World) (hx1 : -2147483648 ≤ xl) (hx2 : xl ≤ 2147483647) (hx3 : -2147483648 ≤ xh) (hx4 : xh ≤ 2147483647) (hy1 : -2147483648 ≤ yl) (hy2 : yl ≤ 2147483647) (hy3 : -2147483648 ≤ yh) (hy4 : yh ≤ 2147483647) (hs : 0 ≤ xl) (ht : 0 ≤ yl) :
    Calls Try.prog 45 #[.int .u8 11, .agg #[.int .i32 xl, .int .i32 xh], .agg #[.int .i32 yl, .int .i32 yh]] w fun e w' => e = .returned (.agg #[.int .i32 (0), .int .i32 (min xh yh)]) ∧ Below w.heap.size w w' := by
  have p : decide (0 ≤ xl) = true := by simp; omega
  have q : decide (0 ≤ yl) = true := by simp; omega
  go_enter Try.func45, Try.ntmps45
  go_wp2_with (first | (go_at_call 59; refine (rleast_any _ _ _).mono ?_; rintro e _ ⟨rfl, rfl⟩) | (go_at_call 60; refine (rmost_any _ _ _).mono ?_; rintro e _ ⟨rfl, rfl⟩) | (go_at_call 62; refine (rones_any _ _ (by omega) (by omega)).mono ?_; rintro e _ ⟨rfl, rfl⟩) | (go_at_call 36; ((first | (with_reducible refine (Calls.extq (rfull_any _)).mono ?_) | (refine (Calls.ext (rfull_any _)).mono ?_)); rintro e _ ⟨rfl, y, rfl⟩)))
  all_goals
    refine bodyPost_ret (v := .agg #[.int .i32 (0), .int .i32 (min xh yh)]) ?hr rfl ⟨rfl, ?bel⟩
    case hr =>
      simp [results, Try.results45, go_sem]
    case bel =>
      (repeat (first | exact Below.refl _ _ | refine Below.setCell ?_ ?_ _ | refine Ext.below ?_ ?_ _ | refine Below.alloc ?_ ?_ _)) <;> (first | (simp; done) | (simp; omega) | omega | (simp only [World.size_setCell, World.size_alloc]; refine Nat.le_trans ?_ (Below.size (Ext.h _)); simp only [World.size_setCell, World.size_alloc]; omega))

set_option maxRecDepth 100000 in
set_option maxHeartbeats 1000000 in
theorem rbit_11_x (xl xh yl yh : Int) (w : World) (hx1 : -2147483648 ≤ xl) (hx2 : xl ≤ 2147483647) (hx3 : -2147483648 ≤ xh) (hx4 : xh ≤ 2147483647) (hy1 : -2147483648 ≤ yl) (hy2 : yl ≤ 2147483647) (hy3 : -2147483648 ≤ yh) (hy4 : yh ≤ 2147483647) (hs : 0 ≤ xl) (ht : ¬ 0 ≤ yl) :
    Calls Try.prog 45 #[.int .u8 11, .agg #[.int .i32 xl, .int .i32 xh], .agg #[.int .i32 yl, .int .i32 yh]] w fun e w' => e = .returned (.agg #[.int .i32 (0), .int .i32 (xh)]) ∧ Below w.heap.size w w' := by
  have p : decide (0 ≤ xl) = true := by simp; omega
  have q : decide (0 ≤ yl) = false := by simp; omega
  go_enter Try.func45, Try.ntmps45
  go_wp2_with (first | (go_at_call 59; refine (rleast_any _ _ _).mono ?_; rintro e _ ⟨rfl, rfl⟩) | (go_at_call 60; refine (rmost_any _ _ _).mono ?_; rintro e _ ⟨rfl, rfl⟩) | (go_at_call 62; refine (rones_any _ _ (by omega) (by omega)).mono ?_; rintro e _ ⟨rfl, rfl⟩) | (go_at_call 36; ((first | (with_reducible refine (Calls.extq (rfull_any _)).mono ?_) | (refine (Calls.ext (rfull_any _)).mono ?_)); rintro e _ ⟨rfl, y, rfl⟩)))
  all_goals
    refine bodyPost_ret (v := .agg #[.int .i32 (0), .int .i32 (xh)]) ?hr rfl ⟨rfl, ?bel⟩
    case hr =>
      simp [results, Try.results45, go_sem]
    case bel =>
      (repeat (first | exact Below.refl _ _ | refine Below.setCell ?_ ?_ _ | refine Ext.below ?_ ?_ _ | refine Below.alloc ?_ ?_ _)) <;> (first | (simp; done) | (simp; omega) | omega | (simp only [World.size_setCell, World.size_alloc]; refine Nat.le_trans ?_ (Below.size (Ext.h _)); simp only [World.size_setCell, World.size_alloc]; omega))

set_option maxRecDepth 100000 in
set_option maxHeartbeats 1000000 in
theorem rbit_11_y (xl xh yl yh : Int) (w : World) (hx1 : -2147483648 ≤ xl) (hx2 : xl ≤ 2147483647) (hx3 : -2147483648 ≤ xh) (hx4 : xh ≤ 2147483647) (hy1 : -2147483648 ≤ yl) (hy2 : yl ≤ 2147483647) (hy3 : -2147483648 ≤ yh) (hy4 : yh ≤ 2147483647) (hs : ¬ 0 ≤ xl) (ht : 0 ≤ yl) :
    Calls Try.prog 45 #[.int .u8 11, .agg #[.int .i32 xl, .int .i32 xh], .agg #[.int .i32 yl, .int .i32 yh]] w fun e w' => e = .returned (.agg #[.int .i32 (0), .int .i32 (yh)]) ∧ Below w.heap.size w w' := by
  have p : decide (0 ≤ xl) = false := by simp; omega
  have q : decide (0 ≤ yl) = true := by simp; omega
  go_enter Try.func45, Try.ntmps45
  go_wp2_with (first | (go_at_call 59; refine (rleast_any _ _ _).mono ?_; rintro e _ ⟨rfl, rfl⟩) | (go_at_call 60; refine (rmost_any _ _ _).mono ?_; rintro e _ ⟨rfl, rfl⟩) | (go_at_call 62; refine (rones_any _ _ (by omega) (by omega)).mono ?_; rintro e _ ⟨rfl, rfl⟩) | (go_at_call 36; ((first | (with_reducible refine (Calls.extq (rfull_any _)).mono ?_) | (refine (Calls.ext (rfull_any _)).mono ?_)); rintro e _ ⟨rfl, y, rfl⟩)))
  all_goals
    refine bodyPost_ret (v := .agg #[.int .i32 (0), .int .i32 (yh)]) ?hr rfl ⟨rfl, ?bel⟩
    case hr =>
      simp [results, Try.results45, go_sem]
    case bel =>
      (repeat (first | exact Below.refl _ _ | refine Below.setCell ?_ ?_ _ | refine Ext.below ?_ ?_ _ | refine Below.alloc ?_ ?_ _)) <;> (first | (simp; done) | (simp; omega) | omega | (simp only [World.size_setCell, World.size_alloc]; refine Nat.le_trans ?_ (Below.size (Ext.h _)); simp only [World.size_setCell, World.size_alloc]; omega))

set_option maxRecDepth 100000 in
set_option maxHeartbeats 1000000 in
theorem rbit_11_n (xl xh yl yh : Int) (w : World) (hx1 : -2147483648 ≤ xl) (hx2 : xl ≤ 2147483647) (hx3 : -2147483648 ≤ xh) (hx4 : xh ≤ 2147483647) (hy1 : -2147483648 ≤ yl) (hy2 : yl ≤ 2147483647) (hy3 : -2147483648 ≤ yh) (hy4 : yh ≤ 2147483647) (hs : ¬ 0 ≤ xl) (ht : ¬ 0 ≤ yl) :
    Calls Try.prog 45 #[.int .u8 11, .agg #[.int .i32 xl, .int .i32 xh], .agg #[.int .i32 yl, .int .i32 yh]] w fun e w' => e = .returned (.agg #[.int .i32 (-2147483648), .int .i32 (2147483647)]) ∧ Below w.heap.size w w' := by
  have p : decide (0 ≤ xl) = false := by simp; omega
  have q : decide (0 ≤ yl) = false := by simp; omega
  go_enter Try.func45, Try.ntmps45
  go_wp2_with (first | (go_at_call 59; refine (rleast_any _ _ _).mono ?_; rintro e _ ⟨rfl, rfl⟩) | (go_at_call 60; refine (rmost_any _ _ _).mono ?_; rintro e _ ⟨rfl, rfl⟩) | (go_at_call 62; refine (rones_any _ _ (by omega) (by omega)).mono ?_; rintro e _ ⟨rfl, rfl⟩) | (go_at_call 36; ((first | (with_reducible refine (Calls.extq (rfull_any _)).mono ?_) | (refine (Calls.ext (rfull_any _)).mono ?_)); rintro e _ ⟨rfl, y, rfl⟩)))
  all_goals
    refine bodyPost_ret (v := .agg #[.int .i32 (-2147483648), .int .i32 (2147483647)]) ?hr rfl ⟨rfl, ?bel⟩
    case hr =>
      simp [results, Try.results45, go_sem]
    case bel =>
      (repeat (first | exact Below.refl _ _ | refine Below.setCell ?_ ?_ _ | refine Ext.below ?_ ?_ _ | refine Below.alloc ?_ ?_ _)) <;> (first | (simp; done) | (simp; omega) | omega | (simp only [World.size_setCell, World.size_alloc]; refine Nat.le_trans ?_ (Below.size (Ext.h _)); simp only [World.size_setCell, World.size_alloc]; omega))

set_option maxRecDepth 100000 in
set_option maxHeartbeats 1000000 in
theorem rbit_12_b (xl xh yl yh : Int) (w : World) (hx1 : -2147483648 ≤ xl) (hx2 : xl ≤ 2147483647) (hx3 : -2147483648 ≤ xh) (hx4 : xh ≤ 2147483647) (hy1 : -2147483648 ≤ yl) (hy2 : yl ≤ 2147483647) (hy3 : -2147483648 ≤ yh) (hy4 : yh ≤ 2147483647) (hs : 0 ≤ xl) (ht : 0 ≤ yl) (he : xl ≤ xh) (he' : yl ≤ yh) :
    Calls Try.prog 45 #[.int .u8 12, .agg #[.int .i32 xl, .int .i32 xh], .agg #[.int .i32 yl, .int .i32 yh]] w fun e w' => e = .returned (.agg #[.int .i32 (max xl yl), .int .i32 (onesI (max xh yh))]) ∧ Below w.heap.size w w' := by
  have p : decide (0 ≤ xl) = true := by simp; omega
  have q : decide (0 ≤ yl) = true := by simp; omega
  go_enter Try.func45, Try.ntmps45
  go_wp2_with (first | (go_at_call 59; refine (rleast_any _ _ _).mono ?_; rintro e _ ⟨rfl, rfl⟩) | (go_at_call 60; refine (rmost_any _ _ _).mono ?_; rintro e _ ⟨rfl, rfl⟩) | (go_at_call 62; refine (rones_any _ _ (by omega) (by omega)).mono ?_; rintro e _ ⟨rfl, rfl⟩) | (go_at_call 36; ((first | (with_reducible refine (Calls.extq (rfull_any _)).mono ?_) | (refine (Calls.ext (rfull_any _)).mono ?_)); rintro e _ ⟨rfl, y, rfl⟩)))
  all_goals
    refine bodyPost_ret (v := .agg #[.int .i32 (max xl yl), .int .i32 (onesI (max xh yh))]) ?hr rfl ⟨rfl, ?bel⟩
    case hr =>
      simp [results, Try.results45, go_sem]
    case bel =>
      (repeat (first | exact Below.refl _ _ | refine Below.setCell ?_ ?_ _ | refine Ext.below ?_ ?_ _ | refine Below.alloc ?_ ?_ _)) <;> (first | (simp; done) | (simp; omega) | omega | (simp only [World.size_setCell, World.size_alloc]; refine Nat.le_trans ?_ (Below.size (Ext.h _)); simp only [World.size_setCell, World.size_alloc]; omega))

set_option maxRecDepth 100000 in
set_option maxHeartbeats 1000000 in
theorem rbit_12_m (xl xh yl yh : Int) (w : World) (hx1 : -2147483648 ≤ xl) (hx2 : xl ≤ 2147483647) (hx3 : -2147483648 ≤ xh) (hx4 : xh ≤ 2147483647) (hy1 : -2147483648 ≤ yl) (hy2 : yl ≤ 2147483647) (hy3 : -2147483648 ≤ yh) (hy4 : yh ≤ 2147483647) (hs : ¬ 0 ≤ xl) (hn : xh < 0) (hn' : yh < 0) :
    Calls Try.prog 45 #[.int .u8 12, .agg #[.int .i32 xl, .int .i32 xh], .agg #[.int .i32 yl, .int .i32 yh]] w fun e w' => e = .returned (.agg #[.int .i32 (max xl yl), .int .i32 (-1)]) ∧ Below w.heap.size w w' := by
  have p : decide (0 ≤ xl) = false := by simp; omega
  have r : decide (xh < 0) = true := by simp; omega
  have s : decide (yh < 0) = true := by simp; omega
  go_enter Try.func45, Try.ntmps45
  go_wp2_with (first | (go_at_call 59; refine (rleast_any _ _ _).mono ?_; rintro e _ ⟨rfl, rfl⟩) | (go_at_call 60; refine (rmost_any _ _ _).mono ?_; rintro e _ ⟨rfl, rfl⟩) | (go_at_call 62; refine (rones_any _ _ (by omega) (by omega)).mono ?_; rintro e _ ⟨rfl, rfl⟩) | (go_at_call 36; ((first | (with_reducible refine (Calls.extq (rfull_any _)).mono ?_) | (refine (Calls.ext (rfull_any _)).mono ?_)); rintro e _ ⟨rfl, y, rfl⟩)))
  all_goals
    refine bodyPost_ret (v := .agg #[.int .i32 (max xl yl), .int .i32 (-1)]) ?hr rfl ⟨rfl, ?bel⟩
    case hr =>
      simp [results, Try.results45, go_sem]
    case bel =>
      (repeat (first | exact Below.refl _ _ | refine Below.setCell ?_ ?_ _ | refine Ext.below ?_ ?_ _ | refine Below.alloc ?_ ?_ _)) <;> (first | (simp; done) | (simp; omega) | omega | (simp only [World.size_setCell, World.size_alloc]; refine Nat.le_trans ?_ (Below.size (Ext.h _)); simp only [World.size_setCell, World.size_alloc]; omega))

set_option maxRecDepth 100000 in
set_option maxHeartbeats 1000000 in
theorem rbit_12_nx (xl xh yl yh : Int) (w : World) (hx1 : -2147483648 ≤ xl) (hx2 : xl ≤ 2147483647) (hx3 : -2147483648 ≤ xh) (hx4 : xh ≤ 2147483647) (hy1 : -2147483648 ≤ yl) (hy2 : yl ≤ 2147483647) (hy3 : -2147483648 ≤ yh) (hy4 : yh ≤ 2147483647) (hs : ¬ 0 ≤ xl) (hn : ¬ xh < 0) :
    Calls Try.prog 45 #[.int .u8 12, .agg #[.int .i32 xl, .int .i32 xh], .agg #[.int .i32 yl, .int .i32 yh]] w fun e w' => e = .returned (.agg #[.int .i32 (-2147483648), .int .i32 (2147483647)]) ∧ Below w.heap.size w w' := by
  have p : decide (0 ≤ xl) = false := by simp; omega
  have r : decide (xh < 0) = false := by simp; omega
  go_enter Try.func45, Try.ntmps45
  go_wp2_with (first | (go_at_call 59; refine (rleast_any _ _ _).mono ?_; rintro e _ ⟨rfl, rfl⟩) | (go_at_call 60; refine (rmost_any _ _ _).mono ?_; rintro e _ ⟨rfl, rfl⟩) | (go_at_call 62; refine (rones_any _ _ (by omega) (by omega)).mono ?_; rintro e _ ⟨rfl, rfl⟩) | (go_at_call 36; ((first | (with_reducible refine (Calls.extq (rfull_any _)).mono ?_) | (refine (Calls.ext (rfull_any _)).mono ?_)); rintro e _ ⟨rfl, y, rfl⟩)))
  all_goals
    refine bodyPost_ret (v := .agg #[.int .i32 (-2147483648), .int .i32 (2147483647)]) ?hr rfl ⟨rfl, ?bel⟩
    case hr =>
      simp [results, Try.results45, go_sem]
    case bel =>
      (repeat (first | exact Below.refl _ _ | refine Below.setCell ?_ ?_ _ | refine Ext.below ?_ ?_ _ | refine Below.alloc ?_ ?_ _)) <;> (first | (simp; done) | (simp; omega) | omega | (simp only [World.size_setCell, World.size_alloc]; refine Nat.le_trans ?_ (Below.size (Ext.h _)); simp only [World.size_setCell, World.size_alloc]; omega))

set_option maxRecDepth 100000 in
set_option maxHeartbeats 1000000 in
theorem rbit_12_ny (xl xh yl yh : Int) (w : World) (hx1 : -2147483648 ≤ xl) (hx2 : xl ≤ 2147483647) (hx3 : -2147483648 ≤ xh) (hx4 : xh ≤ 2147483647) (hy1 : -2147483648 ≤ yl) (hy2 : yl ≤ 2147483647) (hy3 : -2147483648 ≤ yh) (hy4 : yh ≤ 2147483647) (hs : ¬ 0 ≤ xl) (hn : xh < 0) (hn' : ¬ yh < 0) :
    Calls Try.prog 45 #[.int .u8 12, .agg #[.int .i32 xl, .int .i32 xh], .agg #[.int .i32 yl, .int .i32 yh]] w fun e w' => e = .returned (.agg #[.int .i32 (-2147483648), .int .i32 (2147483647)]) ∧ Below w.heap.size w w' := by
  have p : decide (0 ≤ xl) = false := by simp; omega
  have r : decide (xh < 0) = true := by simp; omega
  have s : decide (yh < 0) = false := by simp; omega
  go_enter Try.func45, Try.ntmps45
  go_wp2_with (first | (go_at_call 59; refine (rleast_any _ _ _).mono ?_; rintro e _ ⟨rfl, rfl⟩) | (go_at_call 60; refine (rmost_any _ _ _).mono ?_; rintro e _ ⟨rfl, rfl⟩) | (go_at_call 62; refine (rones_any _ _ (by omega) (by omega)).mono ?_; rintro e _ ⟨rfl, rfl⟩) | (go_at_call 36; ((first | (with_reducible refine (Calls.extq (rfull_any _)).mono ?_) | (refine (Calls.ext (rfull_any _)).mono ?_)); rintro e _ ⟨rfl, y, rfl⟩)))
  all_goals
    refine bodyPost_ret (v := .agg #[.int .i32 (-2147483648), .int .i32 (2147483647)]) ?hr rfl ⟨rfl, ?bel⟩
    case hr =>
      simp [results, Try.results45, go_sem]
    case bel =>
      (repeat (first | exact Below.refl _ _ | refine Below.setCell ?_ ?_ _ | refine Ext.below ?_ ?_ _ | refine Below.alloc ?_ ?_ _)) <;> (first | (simp; done) | (simp; omega) | omega | (simp only [World.size_setCell, World.size_alloc]; refine Nat.le_trans ?_ (Below.size (Ext.h _)); simp only [World.size_setCell, World.size_alloc]; omega))

set_option maxRecDepth 100000 in
set_option maxHeartbeats 1000000 in
theorem rbit_12_py (xl xh yl yh : Int) (w : World) (hx1 : -2147483648 ≤ xl) (hx2 : xl ≤ 2147483647) (hx3 : -2147483648 ≤ xh) (hx4 : xh ≤ 2147483647) (hy1 : -2147483648 ≤ yl) (hy2 : yl ≤ 2147483647) (hy3 : -2147483648 ≤ yh) (hy4 : yh ≤ 2147483647) (hs : 0 ≤ xl) (ht : ¬ 0 ≤ yl) (hn : ¬ xh < 0) :
    Calls Try.prog 45 #[.int .u8 12, .agg #[.int .i32 xl, .int .i32 xh], .agg #[.int .i32 yl, .int .i32 yh]] w fun e w' => e = .returned (.agg #[.int .i32 (-2147483648), .int .i32 (2147483647)]) ∧ Below w.heap.size w w' := by
  have p : decide (0 ≤ xl) = true := by simp; omega
  have q : decide (0 ≤ yl) = false := by simp; omega
  have r : decide (xh < 0) = false := by simp; omega
  go_enter Try.func45, Try.ntmps45
  go_wp2_with (first | (go_at_call 59; refine (rleast_any _ _ _).mono ?_; rintro e _ ⟨rfl, rfl⟩) | (go_at_call 60; refine (rmost_any _ _ _).mono ?_; rintro e _ ⟨rfl, rfl⟩) | (go_at_call 62; refine (rones_any _ _ (by omega) (by omega)).mono ?_; rintro e _ ⟨rfl, rfl⟩) | (go_at_call 36; ((first | (with_reducible refine (Calls.extq (rfull_any _)).mono ?_) | (refine (Calls.ext (rfull_any _)).mono ?_)); rintro e _ ⟨rfl, y, rfl⟩)))
  all_goals
    refine bodyPost_ret (v := .agg #[.int .i32 (-2147483648), .int .i32 (2147483647)]) ?hr rfl ⟨rfl, ?bel⟩
    case hr =>
      simp [results, Try.results45, go_sem]
    case bel =>
      (repeat (first | exact Below.refl _ _ | refine Below.setCell ?_ ?_ _ | refine Ext.below ?_ ?_ _ | refine Below.alloc ?_ ?_ _)) <;> (first | (simp; done) | (simp; omega) | omega | (simp only [World.size_setCell, World.size_alloc]; refine Nat.le_trans ?_ (Below.size (Ext.h _)); simp only [World.size_setCell, World.size_alloc]; omega))

set_option maxRecDepth 100000 in
set_option maxHeartbeats 1000000 in
theorem rbit_13_b (xl xh yl yh : Int) (w : World) (hx1 : -2147483648 ≤ xl) (hx2 : xl ≤ 2147483647) (hx3 : -2147483648 ≤ xh) (hx4 : xh ≤ 2147483647) (hy1 : -2147483648 ≤ yl) (hy2 : yl ≤ 2147483647) (hy3 : -2147483648 ≤ yh) (hy4 : yh ≤ 2147483647) (hs : 0 ≤ xl) (ht : 0 ≤ yl) (he : xl ≤ xh) (he' : yl ≤ yh) :
    Calls Try.prog 45 #[.int .u8 13, .agg #[.int .i32 xl, .int .i32 xh], .agg #[.int .i32 yl, .int .i32 yh]] w fun e w' => e = .returned (.agg #[.int .i32 (0), .int .i32 (onesI (max xh yh))]) ∧ Below w.heap.size w w' := by
  have p : decide (0 ≤ xl) = true := by simp; omega
  have q : decide (0 ≤ yl) = true := by simp; omega
  go_enter Try.func45, Try.ntmps45
  go_wp2_with (first | (go_at_call 59; refine (rleast_any _ _ _).mono ?_; rintro e _ ⟨rfl, rfl⟩) | (go_at_call 60; refine (rmost_any _ _ _).mono ?_; rintro e _ ⟨rfl, rfl⟩) | (go_at_call 62; refine (rones_any _ _ (by omega) (by omega)).mono ?_; rintro e _ ⟨rfl, rfl⟩) | (go_at_call 36; ((first | (with_reducible refine (Calls.extq (rfull_any _)).mono ?_) | (refine (Calls.ext (rfull_any _)).mono ?_)); rintro e _ ⟨rfl, y, rfl⟩)))
  all_goals
    refine bodyPost_ret (v := .agg #[.int .i32 (0), .int .i32 (onesI (max xh yh))]) ?hr rfl ⟨rfl, ?bel⟩
    case hr =>
      simp [results, Try.results45, go_sem]
    case bel =>
      (repeat (first | exact Below.refl _ _ | refine Below.setCell ?_ ?_ _ | refine Ext.below ?_ ?_ _ | refine Below.alloc ?_ ?_ _)) <;> (first | (simp; done) | (simp; omega) | omega | (simp only [World.size_setCell, World.size_alloc]; refine Nat.le_trans ?_ (Below.size (Ext.h _)); simp only [World.size_setCell, World.size_alloc]; omega))

set_option maxRecDepth 100000 in
set_option maxHeartbeats 1000000 in
theorem rbit_13_x (xl xh yl yh : Int) (w : World) (hx1 : -2147483648 ≤ xl) (hx2 : xl ≤ 2147483647) (hx3 : -2147483648 ≤ xh) (hx4 : xh ≤ 2147483647) (hy1 : -2147483648 ≤ yl) (hy2 : yl ≤ 2147483647) (hy3 : -2147483648 ≤ yh) (hy4 : yh ≤ 2147483647) (hs : ¬ 0 ≤ xl) :
    Calls Try.prog 45 #[.int .u8 13, .agg #[.int .i32 xl, .int .i32 xh], .agg #[.int .i32 yl, .int .i32 yh]] w fun e w' => e = .returned (.agg #[.int .i32 (-2147483648), .int .i32 (2147483647)]) ∧ Below w.heap.size w w' := by
  have p : decide (0 ≤ xl) = false := by simp; omega
  go_enter Try.func45, Try.ntmps45
  go_wp2_with (first | (go_at_call 59; refine (rleast_any _ _ _).mono ?_; rintro e _ ⟨rfl, rfl⟩) | (go_at_call 60; refine (rmost_any _ _ _).mono ?_; rintro e _ ⟨rfl, rfl⟩) | (go_at_call 62; refine (rones_any _ _ (by omega) (by omega)).mono ?_; rintro e _ ⟨rfl, rfl⟩) | (go_at_call 36; ((first | (with_reducible refine (Calls.extq (rfull_any _)).mono ?_) | (refine (Calls.ext (rfull_any _)).mono ?_)); rintro e _ ⟨rfl, y, rfl⟩)))
  all_goals
    refine bodyPost_ret (v := .agg #[.int .i32 (-2147483648), .int .i32 (2147483647)]) ?hr rfl ⟨rfl, ?bel⟩
    case hr =>
      simp [results, Try.results45, go_sem]
    case bel =>
      (repeat (first | exact Below.refl _ _ | refine Below.setCell ?_ ?_ _ | refine Ext.below ?_ ?_ _ | refine Below.alloc ?_ ?_ _)) <;> (first | (simp; done) | (simp; omega) | omega | (simp only [World.size_setCell, World.size_alloc]; refine Nat.le_trans ?_ (Below.size (Ext.h _)); simp only [World.size_setCell, World.size_alloc]; omega))

set_option maxRecDepth 100000 in
set_option maxHeartbeats 1000000 in
theorem rbit_13_y (xl xh yl yh : Int) (w : World) (hx1 : -2147483648 ≤ xl) (hx2 : xl ≤ 2147483647) (hx3 : -2147483648 ≤ xh) (hx4 : xh ≤ 2147483647) (hy1 : -2147483648 ≤ yl) (hy2 : yl ≤ 2147483647) (hy3 : -2147483648 ≤ yh) (hy4 : yh ≤ 2147483647) (hs : 0 ≤ xl) (ht : ¬ 0 ≤ yl) :
    Calls Try.prog 45 #[.int .u8 13, .agg #[.int .i32 xl, .int .i32 xh], .agg #[.int .i32 yl, .int .i32 yh]] w fun e w' => e = .returned (.agg #[.int .i32 (-2147483648), .int .i32 (2147483647)]) ∧ Below w.heap.size w w' := by
  have p : decide (0 ≤ xl) = true := by simp; omega
  have q : decide (0 ≤ yl) = false := by simp; omega
  go_enter Try.func45, Try.ntmps45
  go_wp2_with (first | (go_at_call 59; refine (rleast_any _ _ _).mono ?_; rintro e _ ⟨rfl, rfl⟩) | (go_at_call 60; refine (rmost_any _ _ _).mono ?_; rintro e _ ⟨rfl, rfl⟩) | (go_at_call 62; refine (rones_any _ _ (by omega) (by omega)).mono ?_; rintro e _ ⟨rfl, rfl⟩) | (go_at_call 36; ((first | (with_reducible refine (Calls.extq (rfull_any _)).mono ?_) | (refine (Calls.ext (rfull_any _)).mono ?_)); rintro e _ ⟨rfl, y, rfl⟩)))
  all_goals
    refine bodyPost_ret (v := .agg #[.int .i32 (-2147483648), .int .i32 (2147483647)]) ?hr rfl ⟨rfl, ?bel⟩
    case hr =>
      simp [results, Try.results45, go_sem]
    case bel =>
      (repeat (first | exact Below.refl _ _ | refine Below.setCell ?_ ?_ _ | refine Ext.below ?_ ?_ _ | refine Below.alloc ?_ ?_ _)) <;> (first | (simp; done) | (simp; omega) | omega | (simp only [World.size_setCell, World.size_alloc]; refine Nat.le_trans ?_ (Below.size (Ext.h _)); simp only [World.size_setCell, World.size_alloc]; omega))

theorem rbitwise_any (op xl xh yl yh : Int) (w : World) (hx1 : -2147483648 ≤ xl) (hx2 : xl ≤ 2147483647) (hx3 : -2147483648 ≤ xh) (hx4 : xh ≤ 2147483647) (hy1 : -2147483648 ≤ yl) (hy2 : yl ≤ 2147483647) (hy3 : -2147483648 ≤ yh) (hy4 : yh ≤ 2147483647) (h1 : 11 ≤ op) (h2 : op ≤ 13) (he : xl ≤ xh) (he' : yl ≤ yh) :
    Calls Try.prog 45 #[.int .u8 op, .agg #[.int .i32 xl, .int .i32 xh], .agg #[.int .i32 yl, .int .i32 yh]] w fun e w' => e = .returned (.agg #[.int .i32 (bitI op (xl, xh) (yl, yh)).1, .int .i32 (bitI op (xl, xh) (yl, yh)).2]) ∧ Below w.heap.size w w' := by
  have h : op = 11 ∨ op = 12 ∨ op = 13 := by omega
  by_cases hs : 0 ≤ xl <;> by_cases ht : 0 ≤ yl <;> rcases h with rfl | rfl | rfl
  · refine (rbit_11_b xl xh yl yh w hx1 hx2 hx3 hx4 hy1 hy2 hy3 hy4 hs ht).mono fun e w' ⟨q, hb⟩ => ⟨q.trans ?_, hb⟩
    simp [bitI, hs, ht]
  · refine (rbit_12_b xl xh yl yh w hx1 hx2 hx3 hx4 hy1 hy2 hy3 hy4 hs ht he he').mono fun e w' ⟨q, hb⟩ => ⟨q.trans ?_, hb⟩
    simp [bitI, hs, ht]
  · refine (rbit_13_b xl xh yl yh w hx1 hx2 hx3 hx4 hy1 hy2 hy3 hy4 hs ht he he').mono fun e w' ⟨q, hb⟩ => ⟨q.trans ?_, hb⟩
    simp [bitI, hs, ht]
  · refine (rbit_11_x xl xh yl yh w hx1 hx2 hx3 hx4 hy1 hy2 hy3 hy4 hs ht).mono fun e w' ⟨q, hb⟩ => ⟨q.trans ?_, hb⟩
    simp [bitI, hs, ht]
  · refine (rbit_12_py xl xh yl yh w hx1 hx2 hx3 hx4 hy1 hy2 hy3 hy4 hs ht (by omega)).mono fun e w' ⟨q, hb⟩ => ⟨q.trans ?_, hb⟩
    have : ¬ xh < 0 := by omega
    simp [bitI, ht, this]
  · refine (rbit_13_y xl xh yl yh w hx1 hx2 hx3 hx4 hy1 hy2 hy3 hy4 hs ht).mono fun e w' ⟨q, hb⟩ => ⟨q.trans ?_, hb⟩
    simp [bitI, ht]
  · refine (rbit_11_y xl xh yl yh w hx1 hx2 hx3 hx4 hy1 hy2 hy3 hy4 hs ht).mono fun e w' ⟨q, hb⟩ => ⟨q.trans ?_, hb⟩
    simp [bitI, hs, ht]
  · have : ¬ yh < 0 := by omega
    by_cases hn : xh < 0
    · refine (rbit_12_ny xl xh yl yh w hx1 hx2 hx3 hx4 hy1 hy2 hy3 hy4 hs hn this).mono fun e w' ⟨q, hb⟩ => ⟨q.trans ?_, hb⟩
      simp [bitI, hs, this]
    · refine (rbit_12_nx xl xh yl yh w hx1 hx2 hx3 hx4 hy1 hy2 hy3 hy4 hs hn).mono fun e w' ⟨q, hb⟩ => ⟨q.trans ?_, hb⟩
      simp [bitI, hs, this]
  · refine (rbit_13_x xl xh yl yh w hx1 hx2 hx3 hx4 hy1 hy2 hy3 hy4 hs).mono fun e w' ⟨q, hb⟩ => ⟨q.trans ?_, hb⟩
    simp [bitI, hs]
  · refine (rbit_11_n xl xh yl yh w hx1 hx2 hx3 hx4 hy1 hy2 hy3 hy4 hs ht).mono fun e w' ⟨q, hb⟩ => ⟨q.trans ?_, hb⟩
    simp [bitI, hs, ht]
  · by_cases hn : xh < 0
    · by_cases hn' : yh < 0
      · refine (rbit_12_m xl xh yl yh w hx1 hx2 hx3 hx4 hy1 hy2 hy3 hy4 hs hn hn').mono fun e w' ⟨q, hb⟩ => ⟨q.trans ?_, hb⟩
        simp [bitI, hs, hn, hn']
      · refine (rbit_12_ny xl xh yl yh w hx1 hx2 hx3 hx4 hy1 hy2 hy3 hy4 hs hn hn').mono fun e w' ⟨q, hb⟩ => ⟨q.trans ?_, hb⟩
        simp [bitI, hs, hn']
    · refine (rbit_12_nx xl xh yl yh w hx1 hx2 hx3 hx4 hy1 hy2 hy3 hy4 hs hn).mono fun e w' ⟨q, hb⟩ => ⟨q.trans ?_, hb⟩
      simp [bitI, hs, hn]
  · refine (rbit_13_x xl xh yl yh w hx1 hx2 hx3 hx4 hy1 hy2 hy3 hy4 hs).mono fun e w' ⟨q, hb⟩ => ⟨q.trans ?_, hb⟩
    simp [bitI, hs]

set_option maxRecDepth 100000 in
set_option maxHeartbeats 1000000 in
theorem rshift_15_s (xl xh yl yh : Int) (w : World) (hx1 : -2147483648 ≤ xl) (hx2 : xl ≤ 2147483647) (hx3 : -2147483648 ≤ xh) (hx4 : xh ≤ 2147483647) (hy1 : -2147483648 ≤ yl) (hy2 : yl ≤ 2147483647) (hy3 : -2147483648 ≤ yh) (hy4 : yh ≤ 2147483647) (hs : (yl == yh) = true) :
    Calls Try.prog 46 #[.int .u8 15, .agg #[.int .i32 xl, .int .i32 xh], .agg #[.int .i32 yl, .int .i32 yh]] w fun e w' => e = .returned (.agg #[.int .i32 (wv 15 xl yl), .int .i32 (wv 15 xh yl)]) ∧ Below w.heap.size w w' := by
  go_enter Try.func46, Try.ntmps46
  go_wp2_with (first | (go_at_call 39; ((first | (with_reducible refine (Calls.extq (rsingle_any _ _ _)).mono ?_) | (refine (Calls.ext (rsingle_any _ _ _)).mono ?_)); rintro e _ ⟨rfl, y, rfl⟩)) | (go_at_call 36; ((first | (with_reducible refine (Calls.extq (rfull_any _)).mono ?_) | (refine (Calls.ext (rfull_any _)).mono ?_)); rintro e _ ⟨rfl, y, rfl⟩)) | (go_at_call 40; refine (rapply_any _ _ _ _ ⟨by assumption, by assumption⟩ ⟨by assumption, by assumption⟩).mono ?_; rintro e _ ⟨rfl, rfl⟩))
  all_goals
    refine bodyPost_ret (v := .agg #[.int .i32 (wv 15 xl yl), .int .i32 (wv 15 xh yl)]) ?hr rfl ⟨rfl, ?bel⟩
    case hr =>
      simp [results, Try.results46, go_sem]
    case bel =>
      (repeat (first | exact Below.refl _ _ | refine Below.setCell ?_ ?_ _ | refine Ext.below ?_ ?_ _ | refine Below.alloc ?_ ?_ _)) <;> (first | (simp; done) | (simp; omega) | omega | (simp only [World.size_setCell, World.size_alloc]; refine Nat.le_trans ?_ (Below.size (Ext.h _)); simp only [World.size_setCell, World.size_alloc]; omega))

set_option maxRecDepth 100000 in
set_option maxHeartbeats 1000000 in
theorem rshift_15_pn (xl xh yl yh : Int) (w : World) (hx1 : -2147483648 ≤ xl) (hx2 : xl ≤ 2147483647) (hx3 : -2147483648 ≤ xh) (hx4 : xh ≤ 2147483647) (hy1 : -2147483648 ≤ yl) (hy2 : yl ≤ 2147483647) (hy3 : -2147483648 ≤ yh) (hy4 : yh ≤ 2147483647) (hs : (yl == yh) = false) (ha : 0 ≤ xl) (hb : xh < 0) :
    Calls Try.prog 46 #[.int .u8 15, .agg #[.int .i32 xl, .int .i32 xh], .agg #[.int .i32 yl, .int .i32 yh]] w fun e w' => e = .returned (.agg #[.int .i32 (0), .int .i32 (-1)]) ∧ Below w.heap.size w w' := by
  have d1 : decide (0 ≤ xl) = true := by simp; omega
  have d2 : decide (xh < 0) = true := by simp; omega
  go_enter Try.func46, Try.ntmps46
  go_wp2_with fail
  refine (Calls.ext (rsingle_any _ _ _)).mono ?_
  rintro e _ ⟨rfl, y, rfl⟩
  obtain ⟨V, hV, D⟩ := rdiv_base xl xh yl yh w y
  rw [hV]
  clear hV
  obtain ⟨kB, s1, s2, s3, c1, c2, c3, c4, c5, c6, f5, f6⟩ := D
  go_wp2
  all_goals
    refine bodyPost_ret (v := .agg #[.int .i32 (0), .int .i32 (-1)]) ?hr rfl ⟨rfl, ?bel⟩
    case hr =>
      simp [results, Try.results46, go_sem, c5, c6, s3]
    case bel =>
      (repeat (first | exact kB | refine Below.setCell ?_ ?_ _ | refine Below.alloc ?_ ?_ _)) <;> (first | omega | (simp; done) | (simp; omega))

set_option maxRecDepth 100000 in
set_option maxHeartbeats 1000000 in
theorem rshift_15_pp (xl xh yl yh : Int) (w : World) (hx1 : -2147483648 ≤ xl) (hx2 : xl ≤ 2147483647) (hx3 : -2147483648 ≤ xh) (hx4 : xh ≤ 2147483647) (hy1 : -2147483648 ≤ yl) (hy2 : yl ≤ 2147483647) (hy3 : -2147483648 ≤ yh) (hy4 : yh ≤ 2147483647) (hs : (yl == yh) = false) (ha : 0 ≤ xl) (hb : ¬ xh < 0) :
    Calls Try.prog 46 #[.int .u8 15, .agg #[.int .i32 xl, .int .i32 xh], .agg #[.int .i32 yl, .int .i32 yh]] w fun e w' => e = .returned (.agg #[.int .i32 (0), .int .i32 (xh)]) ∧ Below w.heap.size w w' := by
  have d1 : decide (0 ≤ xl) = true := by simp; omega
  have d2 : decide (xh < 0) = false := by simp; omega
  go_enter Try.func46, Try.ntmps46
  go_wp2_with fail
  refine (Calls.ext (rsingle_any _ _ _)).mono ?_
  rintro e _ ⟨rfl, y, rfl⟩
  obtain ⟨V, hV, D⟩ := rdiv_base xl xh yl yh w y
  rw [hV]
  clear hV
  obtain ⟨kB, s1, s2, s3, c1, c2, c3, c4, c5, c6, f5, f6⟩ := D
  go_wp2
  all_goals
    refine bodyPost_ret (v := .agg #[.int .i32 (0), .int .i32 (xh)]) ?hr rfl ⟨rfl, ?bel⟩
    case hr =>
      simp [results, Try.results46, go_sem, c5, c6, s3]
    case bel =>
      (repeat (first | exact kB | refine Below.setCell ?_ ?_ _ | refine Below.alloc ?_ ?_ _)) <;> (first | omega | (simp; done) | (simp; omega))

set_option maxRecDepth 100000 in
set_option maxHeartbeats 1000000 in
theorem rshift_15_nn (xl xh yl yh : Int) (w : World) (hx1 : -2147483648 ≤ xl) (hx2 : xl ≤ 2147483647) (hx3 : -2147483648 ≤ xh) (hx4 : xh ≤ 2147483647) (hy1 : -2147483648 ≤ yl) (hy2 : yl ≤ 2147483647) (hy3 : -2147483648 ≤ yh) (hy4 : yh ≤ 2147483647) (hs : (yl == yh) = false) (ha : ¬ 0 ≤ xl) (hb : xh < 0) :
    Calls Try.prog 46 #[.int .u8 15, .agg #[.int .i32 xl, .int .i32 xh], .agg #[.int .i32 yl, .int .i32 yh]] w fun e w' => e = .returned (.agg #[.int .i32 (xl), .int .i32 (-1)]) ∧ Below w.heap.size w w' := by
  have d1 : decide (0 ≤ xl) = false := by simp; omega
  have d2 : decide (xh < 0) = true := by simp; omega
  go_enter Try.func46, Try.ntmps46
  go_wp2_with fail
  refine (Calls.ext (rsingle_any _ _ _)).mono ?_
  rintro e _ ⟨rfl, y, rfl⟩
  obtain ⟨V, hV, D⟩ := rdiv_base xl xh yl yh w y
  rw [hV]
  clear hV
  obtain ⟨kB, s1, s2, s3, c1, c2, c3, c4, c5, c6, f5, f6⟩ := D
  go_wp2
  all_goals
    refine bodyPost_ret (v := .agg #[.int .i32 (xl), .int .i32 (-1)]) ?hr rfl ⟨rfl, ?bel⟩
    case hr =>
      simp [results, Try.results46, go_sem, c5, c6, s3]
    case bel =>
      (repeat (first | exact kB | refine Below.setCell ?_ ?_ _ | refine Below.alloc ?_ ?_ _)) <;> (first | omega | (simp; done) | (simp; omega))

set_option maxRecDepth 100000 in
set_option maxHeartbeats 1000000 in
theorem rshift_15_np (xl xh yl yh : Int) (w : World) (hx1 : -2147483648 ≤ xl) (hx2 : xl ≤ 2147483647) (hx3 : -2147483648 ≤ xh) (hx4 : xh ≤ 2147483647) (hy1 : -2147483648 ≤ yl) (hy2 : yl ≤ 2147483647) (hy3 : -2147483648 ≤ yh) (hy4 : yh ≤ 2147483647) (hs : (yl == yh) = false) (ha : ¬ 0 ≤ xl) (hb : ¬ xh < 0) :
    Calls Try.prog 46 #[.int .u8 15, .agg #[.int .i32 xl, .int .i32 xh], .agg #[.int .i32 yl, .int .i32 yh]] w fun e w' => e = .returned (.agg #[.int .i32 (xl), .int .i32 (xh)]) ∧ Below w.heap.size w w' := by
  have d1 : decide (0 ≤ xl) = false := by simp; omega
  have d2 : decide (xh < 0) = false := by simp; omega
  go_enter Try.func46, Try.ntmps46
  go_wp2_with fail
  refine (Calls.ext (rsingle_any _ _ _)).mono ?_
  rintro e _ ⟨rfl, y, rfl⟩
  obtain ⟨V, hV, D⟩ := rdiv_base xl xh yl yh w y
  rw [hV]
  clear hV
  obtain ⟨kB, s1, s2, s3, c1, c2, c3, c4, c5, c6, f5, f6⟩ := D
  go_wp2
  all_goals
    refine bodyPost_ret (v := .agg #[.int .i32 (xl), .int .i32 (xh)]) ?hr rfl ⟨rfl, ?bel⟩
    case hr =>
      simp [results, Try.results46, go_sem, c5, c6, s3]
    case bel =>
      (repeat (first | exact kB | refine Below.setCell ?_ ?_ _ | refine Below.alloc ?_ ?_ _)) <;> (first | omega | (simp; done) | (simp; omega))

set_option maxRecDepth 100000 in
set_option maxHeartbeats 1000000 in
theorem rshift_14_n (xl xh yl yh : Int) (w : World) (hx1 : -2147483648 ≤ xl) (hx2 : xl ≤ 2147483647) (hx3 : -2147483648 ≤ xh) (hx4 : xh ≤ 2147483647) (hy1 : -2147483648 ≤ yl) (hy2 : yl ≤ 2147483647) (hy3 : -2147483648 ≤ yh) (hy4 : yh ≤ 2147483647) (hs : (yl == yh) = false) :
    Calls Try.prog 46 #[.int .u8 14, .agg #[.int .i32 xl, .int .i32 xh], .agg #[.int .i32 yl, .int .i32 yh]] w fun e w' => e = .returned (.agg #[.int .i32 (-2147483648), .int .i32 (2147483647)]) ∧ Below w.heap.size w w' := by
  go_enter Try.func46, Try.ntmps46
  go_wp2_with (first | (go_at_call 39; ((first | (with_reducible refine (Calls.extq (rsingle_any _ _ _)).mono ?_) | (refine (Calls.ext (rsingle_any _ _ _)).mono ?_)); rintro e _ ⟨rfl, y, rfl⟩)) | (go_at_call 36; ((first | (with_reducible refine (Calls.extq (rfull_any _)).mono ?_) | (refine (Calls.ext (rfull_any _)).mono ?_)); rintro e _ ⟨rfl, y, rfl⟩)) | (go_at_call 40; refine (rapply_any _ _ _ _ ⟨by assumption, by assumption⟩ ⟨by assumption, by assumption⟩).mono ?_; rintro e _ ⟨rfl, rfl⟩))
  all_goals
    refine bodyPost_ret (v := .agg #[.int .i32 (-2147483648), .int .i32 (2147483647)]) ?hr rfl ⟨rfl, ?bel⟩
    case hr =>
      simp [results, Try.results46, go_sem]
    case bel =>
      (repeat (first | exact Below.refl _ _ | refine Below.setCell ?_ ?_ _ | refine Ext.below ?_ ?_ _ | refine Below.alloc ?_ ?_ _)) <;> (first | (simp; done) | (simp; omega) | omega | (simp only [World.size_setCell, World.size_alloc]; refine Nat.le_trans ?_ (Below.size (Ext.h _)); simp only [World.size_setCell, World.size_alloc]; omega))

set_option maxRecDepth 100000 in
set_option maxHeartbeats 1000000 in
theorem rshift_14_s (xl xh yl yh : Int) (w : World) (hx1 : -2147483648 ≤ xl) (hx2 : xl ≤ 2147483647) (hx3 : -2147483648 ≤ xh) (hx4 : xh ≤ 2147483647) (hy1 : -2147483648 ≤ yl) (hy2 : yl ≤ 2147483647) (hy3 : -2147483648 ≤ yh) (hy4 : yh ≤ 2147483647) (hs : (yl == yh) = true) :
    Calls Try.prog 46 #[.int .u8 14, .agg #[.int .i32 xl, .int .i32 xh], .agg #[.int .i32 yl, .int .i32 yh]] w fun e w' => e = .returned (.agg #[.int .i32 (hullL [xl * 2 ^ (yl % 32).toNat, xh * 2 ^ (yl % 32).toNat]).1, .int .i32 (hullL [xl * 2 ^ (yl % 32).toNat, xh * 2 ^ (yl % 32).toNat]).2]) ∧ Below w.heap.size w w' := by
  go_enter Try.func46, Try.ntmps46
  go_wp2_with fail
  refine (Calls.ext (rsingle_any _ _ _)).mono ?_
  rintro e _ ⟨rfl, y, rfl⟩
  have HF := Lib.hid (count_eq yl)
  have hb : -32 < yl.tmod 32 ∧ yl.tmod 32 < 32 := by rcases count_eq yl with h | h <;> omega
  obtain ⟨b1, b2⟩ := hb
  obtain ⟨r, hr⟩ : ∃ r, yl.tmod 32 = r := ⟨_, rfl⟩
  have HR := Lib.hid hr
  go_wp2_with fail
  refine (Calls.extq (rsingle_any _ _ _)).mono ?_
  rintro e _ ⟨rfl, y2, rfl⟩
  obtain ⟨V, hV, D⟩ := rdiv_base xl xh yl yh w y2
  rw [hV]
  clear hV
  obtain ⟨kB, s1, s2, s3, c1, c2, c3, c4, c5, c6, f5, f6⟩ := D
  by_cases hneg : r < 0
  all_goals
    (first | have dn := decide_eq_true hneg | have dn := decide_eq_false hneg)
    go_wp2_with fail
    go_loop [13, 14] (fun p i => ∃ k : Nat, k ≤ (yl % 32).toNat ∧ i = .int .i64 k ∧ p = .int .i64 (2 ^ k)) (fun _ i => (yl % 32).toNat - (intOf i).toNat)
    case atStart => exact ⟨0, by omega, rfl, rfl⟩
    case round =>
      obtain ⟨k, hk, rfl, rfl⟩ := hrel
      have hp := pow_bd k 31 (by omega)
      have e31 : (2 : Int) ^ 31 = 2147483648 := by decide
      rw [e31] at hp
      obtain ⟨p1, p2⟩ := hp
      have P2 := Lib.hid (show (2 : Int) * 2 ^ k = 2 ^ (k + 1) by rw [Int.pow_succ]; omega)
      have hn := HF.out
      have hr' := HR.out
      clear e31
      by_cases hlt : k < (yl % 32).toNat
      · (first | (have hlt' : (k : Int) < r := by omega) | (have hlt' : (k : Int) < r + 32 := by omega))
        clear hn hr'
        obtain ⟨p, hp⟩ : ∃ p, (2 : Int) ^ k = p := ⟨_, rfl⟩
        rw [hp] at p1 p2 P2 ⊢
        clear hp
        go_wp2_with fail
        go_round
        case rel => exact ⟨k + 1, by omega, by go_num, int_eq P2.out⟩
        case measure => simp [intOf]; omega
      · (first | (have hge : ¬ (k : Int) < r + 32 := by omega) | (have hge : ¬ (k : Int) < r := by omega))
        clear hn hr'
        have ek : k = (yl % 32).toNat := by omega
        subst ek
        have M1 := sh_wrap xl yl hx1 hx2
        have M2 := sh_wrap xh yl hx3 hx4
        have m1 := mul_word (x := xl) (y := 2 ^ (yl % 32).toNat - 1) hx1 hx2 (by omega) (by omega)
        go_wp2_with fail
        refine (Calls.ext (rhull_any _ 2 [xl * 2 ^ (yl % 32).toNat, xh * 2 ^ (yl % 32).toNat] _ (by simp) (by simp) (by simp) ?_)).mono ?_
        · intro i hi
          simp only [List.length_cons, List.length_nil] at hi
          have : i = 0 ∨ i = 1 := by omega
          rcases this with rfl | rfl <;> (simp [nth, go_sem])
        rintro e _ ⟨rfl, y5, rfl⟩
        obtain ⟨y6, h6⟩ := ext_alloc y5
        rw [h6]
        clear h6 y5
        go_wp2
        all_goals
          refine bodyPost_ret (v := .agg #[.int .i32 (hullL [xl * 2 ^ (yl % 32).toNat, xh * 2 ^ (yl % 32).toNat]).1, .int .i32 (hullL [xl * 2 ^ (yl % 32).toNat, xh * 2 ^ (yl % 32).toNat]).2]) ?hr rfl ⟨rfl, ?bel⟩
          case hr =>
            simp [results, Try.results46, go_sem, c5, c6, s3]
          case bel =>
            exact Below.setCell (Below.setCell (Ext.below kB (by omega) y6) (by simp; omega) _) (by simp; omega) _

theorem rshift_any (op xl xh yl yh : Int) (w : World) (hx1 : -2147483648 ≤ xl) (hx2 : xl ≤ 2147483647) (hx3 : -2147483648 ≤ xh) (hx4 : xh ≤ 2147483647) (hy1 : -2147483648 ≤ yl) (hy2 : yl ≤ 2147483647) (hy3 : -2147483648 ≤ yh) (hy4 : yh ≤ 2147483647) (h1 : 14 ≤ op) (h2 : op ≤ 15) :
    Calls Try.prog 46 #[.int .u8 op, .agg #[.int .i32 xl, .int .i32 xh], .agg #[.int .i32 yl, .int .i32 yh]] w fun e w' => e = .returned (.agg #[.int .i32 (shI op (xl, xh) (yl, yh)).1, .int .i32 (shI op (xl, xh) (yl, yh)).2]) ∧ Below w.heap.size w w' := by
  have h : op = 14 ∨ op = 15 := by omega
  by_cases e : yl = yh
  · rcases h with rfl | rfl
    · refine (rshift_14_s xl xh yl yh w hx1 hx2 hx3 hx4 hy1 hy2 hy3 hy4 (by simpa using e)).mono fun e' w' ⟨q, hb⟩ => ⟨q.trans ?_, hb⟩
      simp [shI, e]
    · refine (rshift_15_s xl xh yl yh w hx1 hx2 hx3 hx4 hy1 hy2 hy3 hy4 (by simpa using e)).mono fun e' w' ⟨q, hb⟩ => ⟨q.trans ?_, hb⟩
      rw [show wv 15 xl yl = xl / 2 ^ (yl % 32).toNat from rfl, show wv 15 xh yl = xh / 2 ^ (yl % 32).toNat from rfl]
      simp [shI, e]
  · have hs : (yl == yh) = false := by simpa using e
    rcases h with rfl | rfl
    · refine (rshift_14_n xl xh yl yh w hx1 hx2 hx3 hx4 hy1 hy2 hy3 hy4 hs).mono fun e' w' ⟨q, hb⟩ => ⟨q.trans ?_, hb⟩
      simp [shI, e]
    · by_cases ha : 0 ≤ xl <;> by_cases hb : xh < 0
      · refine (rshift_15_pn xl xh yl yh w hx1 hx2 hx3 hx4 hy1 hy2 hy3 hy4 hs ha hb).mono fun e' w' ⟨q, hb⟩ => ⟨q.trans ?_, hb⟩
        simp [shI, e, *]
      · refine (rshift_15_pp xl xh yl yh w hx1 hx2 hx3 hx4 hy1 hy2 hy3 hy4 hs ha hb).mono fun e' w' ⟨q, hb⟩ => ⟨q.trans ?_, hb⟩
        simp [shI, e, *]
      · refine (rshift_15_nn xl xh yl yh w hx1 hx2 hx3 hx4 hy1 hy2 hy3 hy4 hs ha hb).mono fun e' w' ⟨q, hb⟩ => ⟨q.trans ?_, hb⟩
        simp [shI, e, *]
      · refine (rshift_15_np xl xh yl yh w hx1 hx2 hx3 hx4 hy1 hy2 hy3 hy4 hs ha hb).mono fun e' w' ⟨q, hb⟩ => ⟨q.trans ?_, hb⟩
        simp [shI, e, *]

end Go.Proofs.Ytjkjcnamlankoaa
