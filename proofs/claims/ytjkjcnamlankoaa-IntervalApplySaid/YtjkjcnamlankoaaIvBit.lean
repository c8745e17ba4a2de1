/-
  What is proved here: what interval.ones, interval.bitwise and interval.shift return.
-/
import Derived.Test.YtjkjcnamlankoaaIvCmp
import Derived.Test.YtjkjcnamlankoaaIvShelf
namespace Go.Proofs.Ytjkjcnamlankoaa
open Go.RowKit
set_option linter.unusedVariables false
set_option linter.unusedSimpArgs false

/-- The least number 2^k - 1 that is at least n. -/
def onesI (n : Int) : Int := 2 ^ Lib.bitLen n.toNat - 1
theorem bitLenAux_le : ∀ (f k x : Nat), x < 2 ^ k → Lib.bitLenAux f x ≤ k := by
  intro f
  induction f with
  | zero => intro k x _; simp [Lib.bitLenAux]
  | succ f ih =>
    intro k x hx
    unfold Lib.bitLenAux
    split
    · omega
    · cases k with
      | zero => simp at hx; omega
      | succ k =>
        have := ih k (x / 2) (by rw [Nat.pow_succ] at hx; omega)
        omega
theorem bitLen_le {n : Int} (h0 : 0 ≤ n) (h1 : n ≤ 2147483647) : Lib.bitLen n.toNat ≤ 31 := bitLenAux_le 64 31 _ (by omega)
theorem pow_bd (k m : Nat) (h : k ≤ m) : (1 : Int) ≤ 2 ^ k ∧ (2 : Int) ^ k ≤ 2 ^ m := by
  have h1 := Nat.pow_le_pow_right (n := 2) (by omega) h
  have h2 := Nat.pow_le_pow_right (n := 2) (by omega) (Nat.zero_le k)
  constructor
  · have : ((1 : Nat) : Int) ≤ ((2 ^ k : Nat) : Int) := by omega
    simpa using this
  · have : ((2 ^ k : Nat) : Int) ≤ ((2 ^ m : Nat) : Int) := by omega
    simpa using this
theorem onesI_bd {n : Int} (h0 : 0 ≤ n) (h1 : n ≤ 2147483647) : 0 ≤ onesI n ∧ onesI n ≤ 2147483647 := by
  have := pow_bd _ 31 (bitLen_le h0 h1)
  unfold onesI
  omega

set_option maxHeartbeats 400000 in
theorem ones_any (n : Int) (w : World) (h0 : 0 ≤ n) (h1 : n ≤ 2147483647) :
    Calls Try.prog 52 #[.int .i32 n] w fun e w' => e = .returned (.int .i32 (onesI n)) ∧ w = w' := by
  have hl := bitLen_le h0 h1
  have e0 : Go.IntKind.u32.wrap n = n := by rw [IntKind.wrap_u32]; omega
  go_enter Try.func52, Try.ntmps52
  go_wp2_with fail
  refine (Try.bits_Len32 _ _ (by omega) (by omega)).mono ?_
  rintro e w' ⟨rfl, rfl⟩
  go_wp2_with fail
  go_ret
  refine ⟨ret_int ?_, rfl⟩
  have hp := pow_bd _ 31 hl
  unfold onesI
  generalize (2 : Int) ^ Lib.bitLen n.toNat = p at *
  unfold wrap32
  omega

/-- The result of And, Or and Xor. -/
def bitI (op : Int) (x y : Int × Int) : Int × Int :=
  if op = 11 ∧ 0 ≤ x.1 ∧ 0 ≤ y.1 then (0, min x.2 y.2) else if op = 11 ∧ 0 ≤ x.1 then (0, x.2) else if op = 11 ∧ 0 ≤ y.1 then (0, y.2)
  else if op = 12 ∧ 0 ≤ x.1 ∧ 0 ≤ y.1 then (max x.1 y.1, onesI (max x.2 y.2)) else if op = 12 ∧ x.2 < 0 ∧ y.2 < 0 then (max x.1 y.1, -1)
  else if op = 13 ∧ 0 ≤ x.1 ∧ 0 ≤ y.1 then (0, onesI (max x.2 y.2)) else (-2147483648, 2147483647)

theorem agg_eq {a b c d : Int} (h1 : a = c) (h2 : b = d) : Value.agg #[.int .i32 a, .int .i32 b] = Value.agg #[.int .i32 c, .int .i32 d] := by rw [h1, h2]

set_option maxRecDepth 100000 in
set_option maxHeartbeats 1000000 in
theorem bit_11_b (xl xh yl yh : Int) (w : World) (hx3 : -2147483648 ≤ xh) (hx4 : xh ≤ 2147483647) (hy3 : -2147483648 ≤ yh) (hy4 : yh ≤ 2147483647) (hs : 0 ≤ xl) (ht : 0 ≤ yl) :
    Calls Try.prog 32 #[.int .u8 11, .agg #[.int .i32 xl, .int .i32 xh], .agg #[.int .i32 yl, .int .i32 yh]] w fun e w' => e = .returned (.agg #[.int .i32 (0), .int .i32 (min xh yh)]) ∧ Below w.heap.size w w' := by
  have p : decide (0 ≤ xl) = true := by simp; omega
  have q : decide (0 ≤ yl) = true := by simp; omega
  go_enter Try.func32, Try.ntmps32
  go_wp2_with (first | (go_at_call 18; ((first | (with_reducible refine (Calls.extq (full_any _)).mono ?_) | (refine (Calls.ext (full_any _)).mono ?_)); rintro e _ ⟨rfl, y, rfl⟩)) | (go_at_call 52; refine (ones_any _ _ (by (try split) <;> omega) (by (try split) <;> omega)).mono ?_; rintro e _ ⟨rfl, rfl⟩))
  all_goals
    refine bodyPost_ret (v := .agg #[.int .i32 (0), .int .i32 (min xh yh)]) ?hr rfl ⟨rfl, ?bel⟩
    case hr =>
      simp [results, Try.results32, go_sem, min_if, max_if]
    case bel =>
      (repeat (first | exact Below.refl _ _ | refine Below.setCell ?_ ?_ _ | refine Ext.below ?_ ?_ _ | refine Below.alloc ?_ ?_ _)) <;> (first | (simp; done) | (simp; omega) | omega)

set_option maxRecDepth 100000 in
set_option maxHeartbeats 1000000 in
theorem bit_11_x (xl xh yl yh : Int) (w : World) (hx3 : -2147483648 ≤ xh) (hx4 : xh ≤ 2147483647) (hy3 : -2147483648 ≤ yh) (hy4 : yh ≤ 2147483647) (hs : 0 ≤ xl) (ht : ¬ 0 ≤ yl) :
    Calls Try.prog 32 #[.int .u8 11, .agg #[.int .i32 xl, .int .i32 xh], .agg #[.int .i32 yl, .int .i32 yh]] w fun e w' => e = .returned (.agg #[.int .i32 (0), .int .i32 (xh)]) ∧ Below w.heap.size w w' := by
  have p : decide (0 ≤ xl) = true := by simp; omega
  have q : decide (0 ≤ yl) = false := by simp; omega
  go_enter Try.func32, Try.ntmps32
  go_wp2_with (first | (go_at_call 18; ((first | (with_reducible refine (Calls.extq (full_any _)).mono ?_) | (refine (Calls.ext (full_any _)).mono ?_)); rintro e _ ⟨rfl, y, rfl⟩)) | (go_at_call 52; refine (ones_any _ _ (by (try split) <;> omega) (by (try split) <;> omega)).mono ?_; rintro e _ ⟨rfl, rfl⟩))
  all_goals
    refine bodyPost_ret (v := .agg #[.int .i32 (0), .int .i32 (xh)]) ?hr rfl ⟨rfl, ?bel⟩
    case hr =>
      simp [results, Try.results32, go_sem, min_if, max_if]
    case bel =>
      (repeat (first | exact Below.refl _ _ | refine Below.setCell ?_ ?_ _ | refine Ext.below ?_ ?_ _ | refine Below.alloc ?_ ?_ _)) <;> (first | (simp; done) | (simp; omega) | omega)

set_option maxRecDepth 100000 in
set_option maxHeartbeats 1000000 in
theorem bit_11_y (xl xh yl yh : Int) (w : World) (hx3 : -2147483648 ≤ xh) (hx4 : xh ≤ 2147483647) (hy3 : -2147483648 ≤ yh) (hy4 : yh ≤ 2147483647) (hs : ¬ 0 ≤ xl) (ht : 0 ≤ yl) :
    Calls Try.prog 32 #[.int .u8 11, .agg #[.int .i32 xl, .int .i32 xh], .agg #[.int .i32 yl, .int .i32 yh]] w fun e w' => e = .returned (.agg #[.int .i32 (0), .int .i32 (yh)]) ∧ Below w.heap.size w w' := by
  have p : decide (0 ≤ xl) = false := by simp; omega
  have q : decide (0 ≤ yl) = true := by simp; omega
  go_enter Try.func32, Try.ntmps32
  go_wp2_with (first | (go_at_call 18; ((first | (with_reducible refine (Calls.extq (full_any _)).mono ?_) | (refine (Calls.ext (full_any _)).mono ?_)); rintro e _ ⟨rfl, y, rfl⟩)) | (go_at_call 52; refine (ones_any _ _ (by (try split) <;> omega) (by (try split) <;> omega)).mono ?_; rintro e _ ⟨rfl, rfl⟩))
  all_goals
    refine bodyPost_ret (v := .agg #[.int .i32 (0), .int .i32 (yh)]) ?hr rfl ⟨rfl, ?bel⟩
    case hr =>
      simp [results, Try.results32, go_sem, min_if, max_if]
    case bel =>
      (repeat (first | exact Below.refl _ _ | refine Below.setCell ?_ ?_ _ | refine Ext.below ?_ ?_ _ | refine Below.alloc ?_ ?_ _)) <;> (first | (simp; done) | (simp; omega) | omega)

set_option maxRecDepth 100000 in
set_option maxHeartbeats 1000000 in
theorem bit_11_n (xl xh yl yh : Int) (w : World) (hx3 : -2147483648 ≤ xh) (hx4 : xh ≤ 2147483647) (hy3 : -2147483648 ≤ yh) (hy4 : yh ≤ 2147483647) (hs : ¬ 0 ≤ xl) (ht : ¬ 0 ≤ yl) :
    Calls Try.prog 32 #[.int .u8 11, .agg #[.int .i32 xl, .int .i32 xh], .agg #[.int .i32 yl, .int .i32 yh]] w fun e w' => e = .returned (.agg #[.int .i32 (-2147483648), .int .i32 (2147483647)]) ∧ Below w.heap.size w w' := by
  have p : decide (0 ≤ xl) = false := by simp; omega
  have q : decide (0 ≤ yl) = false := by simp; omega
  go_enter Try.func32, Try.ntmps32
  go_wp2_with (first | (go_at_call 18; ((first | (with_reducible refine (Calls.extq (full_any _)).mono ?_) | (refine (Calls.ext (full_any _)).mono ?_)); rintro e _ ⟨rfl, y, rfl⟩)) | (go_at_call 52; refine (ones_any _ _ (by (try split) <;> omega) (by (try split) <;> omega)).mono ?_; rintro e _ ⟨rfl, rfl⟩))
  all_goals
    refine bodyPost_ret (v := .agg #[.int .i32 (-2147483648), .int .i32 (2147483647)]) ?hr rfl ⟨rfl, ?bel⟩
    case hr =>
      simp [results, Try.results32, go_sem, min_if, max_if]
    case bel =>
      (repeat (first | exact Below.refl _ _ | refine Below.setCell ?_ ?_ _ | refine Ext.below ?_ ?_ _ | refine Below.alloc ?_ ?_ _)) <;> (first | (simp; done) | (simp; omega) | omega)

set_option maxRecDepth 100000 in
set_option maxHeartbeats 1000000 in
theorem bit_12_b (xl xh yl yh : Int) (w : World) (hx3 : -2147483648 ≤ xh) (hx4 : xh ≤ 2147483647) (hy3 : -2147483648 ≤ yh) (hy4 : yh ≤ 2147483647) (hs : 0 ≤ xl) (ht : 0 ≤ yl) (he : xl ≤ xh) (he' : yl ≤ yh) :
    Calls Try.prog 32 #[.int .u8 12, .agg #[.int .i32 xl, .int .i32 xh], .agg #[.int .i32 yl, .int .i32 yh]] w fun e w' => e = .returned (.agg #[.int .i32 (max xl yl), .int .i32 (onesI (max xh yh))]) ∧ Below w.heap.size w w' := by
  have p : decide (0 ≤ xl) = true := by simp; omega
  have q : decide (0 ≤ yl) = true := by simp; omega
  go_enter Try.func32, Try.ntmps32
  go_wp2_with fail
  refine wp_region_ext_tail 12 (by kernel_rfl) (by kernel_rfl) ?_
  simp only [List.take_succ_cons, List.take_zero, List.drop_succ_cons, List.drop_zero]
  repeat (go_big_quiet_step ((go_at_call 52; exact Calls.extq_same (ones_any _ _ (by (try split) <;> omega) (by (try split) <;> omega)))))
  refine wpQuiet_nil ?_
  rintro _ ⟨x1, rfl⟩
  go_wp2_with fail
  all_goals
    refine bodyPost_ret (v := .agg #[.int .i32 (max xl yl), .int .i32 (onesI (max xh yh))]) ?hr rfl ⟨rfl, ?bel⟩
    case hr =>
      simp [results, Try.results32, go_sem, min_if, max_if]
    case bel =>
      (repeat (first | exact Below.refl _ _ | refine Below.setCell ?_ ?_ _ | refine Ext.below ?_ ?_ _ | refine Below.alloc ?_ ?_ _)) <;> (first | (simp; done) | (simp; omega) | omega)

set_option maxRecDepth 100000 in
set_option maxHeartbeats 1000000 in
theorem bit_12_m (xl xh yl yh : Int) (w : World) (hx3 : -2147483648 ≤ xh) (hx4 : xh ≤ 2147483647) (hy3 : -2147483648 ≤ yh) (hy4 : yh ≤ 2147483647) (hs : ¬ 0 ≤ xl) (hn : xh < 0) (hn' : yh < 0) :
    Calls Try.prog 32 #[.int .u8 12, .agg #[.int .i32 xl, .int .i32 xh], .agg #[.int .i32 yl, .int .i32 yh]] w fun e w' => e = .returned (.agg #[.int .i32 (max xl yl), .int .i32 (-1)]) ∧ Below w.heap.size w w' := by
  have p : decide (0 ≤ xl) = false := by simp; omega
  have r : decide (xh < 0) = true := by simp; omega
  have s : decide (yh < 0) = true := by simp; omega
  go_enter Try.func32, Try.ntmps32
  go_wp2_with (first | (go_at_call 18; ((first | (with_reducible refine (Calls.extq (full_any _)).mono ?_) | (refine (Calls.ext (full_any _)).mono ?_)); rintro e _ ⟨rfl, y, rfl⟩)) | (go_at_call 52; refine (ones_any _ _ (by (try split) <;> omega) (by (try split) <;> omega)).mono ?_; rintro e _ ⟨rfl, rfl⟩))
  all_goals
    refine bodyPost_ret (v := .agg #[.int .i32 (max xl yl), .int .i32 (-1)]) ?hr rfl ⟨rfl, ?bel⟩
    case hr =>
      simp [results, Try.results32, go_sem, min_if, max_if]
    case bel =>
      (repeat (first | exact Below.refl _ _ | refine Below.setCell ?_ ?_ _ | refine Ext.below ?_ ?_ _ | refine Below.alloc ?_ ?_ _)) <;> (first | (simp; done) | (simp; omega) | omega)

set_option maxRecDepth 100000 in
set_option maxHeartbeats 1000000 in
theorem bit_12_nx (xl xh yl yh : Int) (w : World) (hx3 : -2147483648 ≤ xh) (hx4 : xh ≤ 2147483647) (hy3 : -2147483648 ≤ yh) (hy4 : yh ≤ 2147483647) (hs : ¬ 0 ≤ xl) (hn : ¬ xh < 0) :
    Calls Try.prog 32 #[.int .u8 12, .agg #[.int .i32 xl, .int .i32 xh], .agg #[.int .i32 yl, .int .i32 yh]] w fun e w' => e = .returned (.agg #[.int .i32 (-2147483648), .int .i32 (2147483647)]) ∧ Below w.heap.size w w' := by
  have p : decide (0 ≤ xl) = false := by simp; omega
  have r : decide (xh < 0) = false := by simp; omega
  go_enter Try.func32, Try.ntmps32
  go_wp2_with (first | (go_at_call 18; ((first | (with_reducible refine (Calls.extq (full_any _)).mono ?_) | (refine (Calls.ext (full_any _)).mono ?_)); rintro e _ ⟨rfl, y, rfl⟩)) | (go_at_call 52; refine (ones_any _ _ (by (try split) <;> omega) (by (try split) <;> omega)).mono ?_; rintro e _ ⟨rfl, rfl⟩))
  all_goals
    refine bodyPost_ret (v := .agg #[.int .i32 (-2147483648), .int .i32 (2147483647)]) ?hr rfl ⟨rfl, ?bel⟩
    case hr =>
      simp [results, Try.results32, go_sem, min_if, max_if]
    case bel =>
      (repeat (first | exact Below.refl _ _ | refine Below.setCell ?_ ?_ _ | refine Ext.below ?_ ?_ _ | refine Below.alloc ?_ ?_ _)) <;> (first | (simp; done) | (simp; omega) | omega)

set_option maxRecDepth 100000 in
set_option maxHeartbeats 1000000 in
theorem bit_12_ny (xl xh yl yh : Int) (w : World) (hx3 : -2147483648 ≤ xh) (hx4 : xh ≤ 2147483647) (hy3 : -2147483648 ≤ yh) (hy4 : yh ≤ 2147483647) (hs : ¬ 0 ≤ xl) (hn : xh < 0) (hn' : ¬ yh < 0) :
    Calls Try.prog 32 #[.int .u8 12, .agg #[.int .i32 xl, .int .i32 xh], .agg #[.int .i32 yl, .int .i32 yh]] w fun e w' => e = .returned (.agg #[.int .i32 (-2147483648), .int .i32 (2147483647)]) ∧ Below w.heap.size w w' := by
  have p : decide (0 ≤ xl) = false := by simp; omega
  have r : decide (xh < 0) = true := by simp; omega
  have s : decide (yh < 0) = false := by simp; omega
  go_enter Try.func32, Try.ntmps32
  go_wp2_with (first | (go_at_call 18; ((first | (with_reducible refine (Calls.extq (full_any _)).mono ?_) | (refine (Calls.ext (full_any _)).mono ?_)); rintro e _ ⟨rfl, y, rfl⟩)) | (go_at_call 52; refine (ones_any _ _ (by (try split) <;> omega) (by (try split) <;> omega)).mono ?_; rintro e _ ⟨rfl, rfl⟩))
  all_goals
    refine bodyPost_ret (v := .agg #[.int .i32 (-2147483648), .int .i32 (2147483647)]) ?hr rfl ⟨rfl, ?bel⟩
    case hr =>
      simp [results, Try.results32, go_sem, min_if, max_if]
    case bel =>
      (repeat (first | exact Below.refl _ _ | refine Below.setCell ?_ ?_ _ | refine Ext.below ?_ ?_ _ | refine Below.alloc ?_ ?_ _)) <;> (first | (simp; done) | (simp; omega) | omega)

set_option maxRecDepth 100000 in
set_option maxHeartbeats 1000000 in
theorem bit_12_py (xl xh yl yh : Int) (w : World) (hx3 : -2147483648 ≤ xh) (hx4 : xh ≤ 2147483647) (hy3 : -2147483648 ≤ yh) (hy4 : yh ≤ 2147483647) (hs : 0 ≤ xl) (ht : ¬ 0 ≤ yl) (hn : ¬ xh < 0) :
    Calls Try.prog 32 #[.int .u8 12, .agg #[.int .i32 xl, .int .i32 xh], .agg #[.int .i32 yl, .int .i32 yh]] w fun e w' => e = .returned (.agg #[.int .i32 (-2147483648), .int .i32 (2147483647)]) ∧ Below w.heap.size w w' := by
  have p : decide (0 ≤ xl) = true := by simp; omega
  have q : decide (0 ≤ yl) = false := by simp; omega
  have r : decide (xh < 0) = false := by simp; omega
  go_enter Try.func32, Try.ntmps32
  go_wp2_with (first | (go_at_call 18; ((first | (with_reducible refine (Calls.extq (full_any _)).mono ?_) | (refine (Calls.ext (full_any _)).mono ?_)); rintro e _ ⟨rfl, y, rfl⟩)) | (go_at_call 52; refine (ones_any _ _ (by (try split) <;> omega) (by (try split) <;> omega)).mono ?_; rintro e _ ⟨rfl, rfl⟩))
  all_goals
    refine bodyPost_ret (v := .agg #[.int .i32 (-2147483648), .int .i32 (2147483647)]) ?hr rfl ⟨rfl, ?bel⟩
    case hr =>
      simp [results, Try.results32, go_sem, min_if, max_if]
    case bel =>
      (repeat (first | exact Below.refl _ _ | refine Below.setCell ?_ ?_ _ | refine Ext.below ?_ ?_ _ | refine Below.alloc ?_ ?_ _)) <;> (first | (simp; done) | (simp; omega) | omega)

set_option maxRecDepth 100000 in
set_option maxHeartbeats 1000000 in
theorem bit_13_b (xl xh yl yh : Int) (w : World) (hx3 : -2147483648 ≤ xh) (hx4 : xh ≤ 2147483647) (hy3 : -2147483648 ≤ yh) (hy4 : yh ≤ 2147483647) (hs : 0 ≤ xl) (ht : 0 ≤ yl) (he : xl ≤ xh) (he' : yl ≤ yh) :
    Calls Try.prog 32 #[.int .u8 13, .agg #[.int .i32 xl, .int .i32 xh], .agg #[.int .i32 yl, .int .i32 yh]] w fun e w' => e = .returned (.agg #[.int .i32 (0), .int .i32 (onesI (max xh yh))]) ∧ Below w.heap.size w w' := by
  have p : decide (0 ≤ xl) = true := by simp; omega
  have q : decide (0 ≤ yl) = true := by simp; omega
  go_enter Try.func32, Try.ntmps32
  go_wp2_with (first | (go_at_call 18; ((first | (with_reducible refine (Calls.extq (full_any _)).mono ?_) | (refine (Calls.ext (full_any _)).mono ?_)); rintro e _ ⟨rfl, y, rfl⟩)) | (go_at_call 52; refine (ones_any _ _ (by (try split) <;> omega) (by (try split) <;> omega)).mono ?_; rintro e _ ⟨rfl, rfl⟩))
  all_goals
    refine bodyPost_ret (v := .agg #[.int .i32 (0), .int .i32 (onesI (max xh yh))]) ?hr rfl ⟨rfl, ?bel⟩
    case hr =>
      simp [results, Try.results32, go_sem, min_if, max_if]
    case bel =>
      (repeat (first | exact Below.refl _ _ | refine Below.setCell ?_ ?_ _ | refine Ext.below ?_ ?_ _ | refine Below.alloc ?_ ?_ _)) <;> (first | (simp; done) | (simp; omega) | omega)

set_option maxRecDepth 100000 in
set_option maxHeartbeats 1000000 in
theorem bit_13_x (xl xh yl yh : Int) (w : World) (hx3 : -2147483648 ≤ xh) (hx4 : xh ≤ 2147483647) (hy3 : -2147483648 ≤ yh) (hy4 : yh ≤ 2147483647) (hs : ¬ 0 ≤ xl) :
    Calls Try.prog 32 #[.int .u8 13, .agg #[.int .i32 xl, .int .i32 xh], .agg #[.int .i32 yl, .int .i32 yh]] w fun e w' => e = .returned (.agg #[.int .i32 (-2147483648), .int .i32 (2147483647)]) ∧ Below w.heap.size w w' := by
  have p : decide (0 ≤ xl) = false := by simp; omega
  go_enter Try.func32, Try.ntmps32
  go_wp2_with (first | (go_at_call 18; ((first | (with_reducible refine (Calls.extq (full_any _)).mono ?_) | (refine (Calls.ext (full_any _)).mono ?_)); rintro e _ ⟨rfl, y, rfl⟩)) | (go_at_call 52; refine (ones_any _ _ (by (try split) <;> omega) (by (try split) <;> omega)).mono ?_; rintro e _ ⟨rfl, rfl⟩))
  all_goals
    refine bodyPost_ret (v := .agg #[.int .i32 (-2147483648), .int .i32 (2147483647)]) ?hr rfl ⟨rfl, ?bel⟩
    case hr =>
      simp [results, Try.results32, go_sem, min_if, max_if]
    case bel =>
      (repeat (first | exact Below.refl _ _ | refine Below.setCell ?_ ?_ _ | refine Ext.below ?_ ?_ _ | refine Below.alloc ?_ ?_ _)) <;> (first | (simp; done) | (simp; omega) | omega)

set_option maxRecDepth 100000 in
set_option maxHeartbeats 1000000 in
theorem bit_13_y (xl xh yl yh : Int) (w : World) (hx3 : -2147483648 ≤ xh) (hx4 : xh ≤ 2147483647) (hy3 : -2147483648 ≤ yh) (hy4 : yh ≤ 2147483647) (hs : 0 ≤ xl) (ht : ¬ 0 ≤ yl) :
    Calls Try.prog 32 #[.int .u8 13, .agg #[.int .i32 xl, .int .i32 xh], .agg #[.int .i32 yl, .int .i32 yh]] w fun e w' => e = .returned (.agg #[.int .i32 (-2147483648), .int .i32 (2147483647)]) ∧ Below w.heap.size w w' := by
  have p : decide (0 ≤ xl) = true := by simp; omega
  have q : decide (0 ≤ yl) = false := by simp; omega
  go_enter Try.func32, Try.ntmps32
  go_wp2_with (first | (go_at_call 18; ((first | (with_reducible refine (Calls.extq (full_any _)).mono ?_) | (refine (Calls.ext (full_any _)).mono ?_)); rintro e _ ⟨rfl, y, rfl⟩)) | (go_at_call 52; refine (ones_any _ _ (by (try split) <;> omega) (by (try split) <;> omega)).mono ?_; rintro e _ ⟨rfl, rfl⟩))
  all_goals
    refine bodyPost_ret (v := .agg #[.int .i32 (-2147483648), .int .i32 (2147483647)]) ?hr rfl ⟨rfl, ?bel⟩
    case hr =>
      simp [results, Try.results32, go_sem, min_if, max_if]
    case bel =>
      (repeat (first | exact Below.refl _ _ | refine Below.setCell ?_ ?_ _ | refine Ext.below ?_ ?_ _ | refine Below.alloc ?_ ?_ _)) <;> (first | (simp; done) | (simp; omega) | omega)

theorem bitwise_any (op xl xh yl yh : Int) (w : World) (hx3 : -2147483648 ≤ xh) (hx4 : xh ≤ 2147483647) (hy3 : -2147483648 ≤ yh) (hy4 : yh ≤ 2147483647) (h1 : 11 ≤ op) (h2 : op ≤ 13) (he : xl ≤ xh) (he' : yl ≤ yh) :
    Calls Try.prog 32 #[.int .u8 op, .agg #[.int .i32 xl, .int .i32 xh], .agg #[.int .i32 yl, .int .i32 yh]] w fun e w' => e = .returned (.agg #[.int .i32 (bitI op (xl, xh) (yl, yh)).1, .int .i32 (bitI op (xl, xh) (yl, yh)).2]) ∧ Below w.heap.size w w' := by
  have h : op = 11 ∨ op = 12 ∨ op = 13 := by omega
  by_cases hs : 0 ≤ xl <;> by_cases ht : 0 ≤ yl <;> rcases h with rfl | rfl | rfl
  · refine (bit_11_b xl xh yl yh w hx3 hx4 hy3 hy4 hs ht).mono fun e w' ⟨q, hb⟩ => ⟨q.trans ?_, hb⟩
    simp [bitI, hs, ht]
  · refine (bit_12_b xl xh yl yh w hx3 hx4 hy3 hy4 hs ht he he').mono fun e w' ⟨q, hb⟩ => ⟨q.trans ?_, hb⟩
    simp [bitI, hs, ht]
  · refine (bit_13_b xl xh yl yh w hx3 hx4 hy3 hy4 hs ht he he').mono fun e w' ⟨q, hb⟩ => ⟨q.trans ?_, hb⟩
    simp [bitI, hs, ht]
  · refine (bit_11_x xl xh yl yh w hx3 hx4 hy3 hy4 hs ht).mono fun e w' ⟨q, hb⟩ => ⟨q.trans ?_, hb⟩
    simp [bitI, hs, ht]
  · refine (bit_12_py xl xh yl yh w hx3 hx4 hy3 hy4 hs ht (by omega)).mono fun e w' ⟨q, hb⟩ => ⟨q.trans ?_, hb⟩
    have : ¬ xh < 0 := by omega
    simp [bitI, ht, this]
  · refine (bit_13_y xl xh yl yh w hx3 hx4 hy3 hy4 hs ht).mono fun e w' ⟨q, hb⟩ => ⟨q.trans ?_, hb⟩
    simp [bitI, ht]
  · refine (bit_11_y xl xh yl yh w hx3 hx4 hy3 hy4 hs ht).mono fun e w' ⟨q, hb⟩ => ⟨q.trans ?_, hb⟩
    simp [bitI, hs, ht]
  · have : ¬ yh < 0 := by omega
    by_cases hn : xh < 0
    · refine (bit_12_ny xl xh yl yh w hx3 hx4 hy3 hy4 hs hn this).mono fun e w' ⟨q, hb⟩ => ⟨q.trans ?_, hb⟩
      simp [bitI, hs, this]
    · refine (bit_12_nx xl xh yl yh w hx3 hx4 hy3 hy4 hs hn).mono fun e w' ⟨q, hb⟩ => ⟨q.trans ?_, hb⟩
      simp [bitI, hs, this]
  · refine (bit_13_x xl xh yl yh w hx3 hx4 hy3 hy4 hs).mono fun e w' ⟨q, hb⟩ => ⟨q.trans ?_, hb⟩
    simp [bitI, hs]
  · refine (bit_11_n xl xh yl yh w hx3 hx4 hy3 hy4 hs ht).mono fun e w' ⟨q, hb⟩ => ⟨q.trans ?_, hb⟩
    simp [bitI, hs, ht]
  · by_cases hn : xh < 0
    · by_cases hn' : yh < 0
      · refine (bit_12_m xl xh yl yh w hx3 hx4 hy3 hy4 hs hn hn').mono fun e w' ⟨q, hb⟩ => ⟨q.trans ?_, hb⟩
        simp [bitI, hs, hn, hn']
      · refine (bit_12_ny xl xh yl yh w hx3 hx4 hy3 hy4 hs hn hn').mono fun e w' ⟨q, hb⟩ => ⟨q.trans ?_, hb⟩
        simp [bitI, hs, hn']
    · refine (bit_12_nx xl xh yl yh w hx3 hx4 hy3 hy4 hs hn).mono fun e w' ⟨q, hb⟩ => ⟨q.trans ?_, hb⟩
      simp [bitI, hs, hn]
  · refine (bit_13_x xl xh yl yh w hx3 hx4 hy3 hy4 hs).mono fun e w' ⟨q, hb⟩ => ⟨q.trans ?_, hb⟩
    simp [bitI, hs]

end Go.Proofs.Ytjkjcnamlankoaa
