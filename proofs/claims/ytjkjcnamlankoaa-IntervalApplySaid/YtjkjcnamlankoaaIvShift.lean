/-
  What is proved here: what interval.shift returns.
-/
import Derived.Test.YtjkjcnamlankoaaIvBit
namespace Go.Proofs.Ytjkjcnamlankoaa
open Go.RowKit
set_option linter.unusedVariables false
set_option linter.unusedSimpArgs false

/-- The result of Shl and Shr. -/
def shI (op : Int) (x y : Int × Int) : Int × Int :=
  if op = 14 then (if y.1 = y.2 then hullL [x.1 * 2 ^ (y.1 % 32).toNat, x.2 * 2 ^ (y.1 % 32).toNat] else (-2147483648, 2147483647))
  else if y.1 = y.2 then (x.1 / 2 ^ (y.1 % 32).toNat, x.2 / 2 ^ (y.1 % 32).toNat) else (if 0 ≤ x.1 then 0 else x.1, if x.2 < 0 then -1 else x.2)

theorem Ext.merge {w0 : World} (y : Ext w0) (o : Obj) (y2 : Ext (y.w.alloc o)) : ∃ y3 : Ext w0, y2.w = y3.w :=
  ⟨⟨y2.w, Ext.below (Below.alloc y.h y.h.size o) (by have := y.h.size; simp only [World.size_alloc]; omega) y2⟩, rfl⟩

theorem and31 (y : Int) : bits .and .u32 (y % 4294967296) 31 = y % 32 := by
  have h := bits_mask .u32 32 (by decide) (fun n h0 h1 => by rw [IntKind.wrap_u32]; omega) 5 (by decide) (y % 4294967296) (by omega) (by omega)
  have e : (2 : Int) ^ 5 - 1 = 31 := by decide
  rw [e] at h
  rw [h]
  omega

theorem sh_wrap (x y : Int) (h1 : -2147483648 ≤ x) (h2 : x ≤ 2147483647) : wrap64 (x * 2 ^ (y % 32).toNat) = x * 2 ^ (y % 32).toNat := by
  have hp := pow_bd (y % 32).toNat 31 (by omega)
  have e : (2 : Int) ^ 31 = 2147483648 := by decide
  rw [e] at hp
  have h3 : (x * 2 ^ (y % 32).toNat).natAbs ≤ 2147483648 * 2147483648 := by
    rw [Int.natAbs_mul]
    exact Nat.mul_le_mul (by omega) (by omega)
  generalize x * 2 ^ (y % 32).toNat = p at *
  unfold wrap64
  omega

set_option maxRecDepth 100000 in
set_option maxHeartbeats 1000000 in
theorem shift_14_s (xl xh yl yh : Int) (w : World) (hx1 : -2147483648 ≤ xl) (hx2 : xl ≤ 2147483647) (hx3 : -2147483648 ≤ xh) (hx4 : xh ≤ 2147483647) (hy1 : -2147483648 ≤ yl) (hy2 : yl ≤ 2147483647) (hs : (yl == yh) = true) :
    Calls Try.prog 33 #[.int .u8 14, .agg #[.int .i32 xl, .int .i32 xh], .agg #[.int .i32 yl, .int .i32 yh]] w fun e w' => e = .returned (.agg #[.int .i32 (hullL [xl * 2 ^ (yl % 32).toNat, xh * 2 ^ (yl % 32).toNat]).1, .int .i32 (hullL [xl * 2 ^ (yl % 32).toNat, xh * 2 ^ (yl % 32).toNat]).2]) ∧ Below w.heap.size w w' := by
  have e31 := and31 yl
  go_enter Try.func33, Try.ntmps33
  go_wp2_with (first | (go_at_call 28; ((first | (with_reducible refine (Calls.extq (single_any _ _ _)).mono ?_) | (refine (Calls.ext (single_any _ _ _)).mono ?_)); rintro e _ ⟨rfl, y, rfl⟩)))
  rw [sh_wrap xl yl hx1 hx2, sh_wrap xh yl hx3 hx4]
  refine (Calls.ext (hull_any _ 2 [xl * 2 ^ (yl % 32).toNat, xh * 2 ^ (yl % 32).toNat] _ (by simp) (by simp) (by simp) ?_)).mono ?_
  · intro i hi
    simp only [List.length_cons, List.length_nil] at hi
    have : i = 0 ∨ i = 1 := by omega
    rcases this with rfl | rfl <;> (simp [nth, go_sem])
  rintro e _ ⟨rfl, y2, rfl⟩
  obtain ⟨y3, h3⟩ := Ext.merge y _ y2
  rw [h3]
  clear h3 y2
  go_wp2
  all_goals
    refine bodyPost_ret (v := .agg #[.int .i32 (hullL [xl * 2 ^ (yl % 32).toNat, xh * 2 ^ (yl % 32).toNat]).1, .int .i32 (hullL [xl * 2 ^ (yl % 32).toNat, xh * 2 ^ (yl % 32).toNat]).2]) ?hr rfl ⟨rfl, ?bel⟩
    case hr =>
      simp [results, Try.results33, go_sem]
    case bel =>
      (repeat (first | exact Below.refl _ _ | refine Below.setCell ?_ ?_ _ | refine Ext.below ?_ ?_ _ | refine Below.alloc ?_ ?_ _)) <;> (first | (simp; done) | (simp; omega) | omega | (simp only [World.size_setCell, World.size_alloc]; refine Nat.le_trans ?_ (Below.size (Ext.h _)); simp only [World.size_setCell, World.size_alloc]; omega))

set_option maxRecDepth 100000 in
set_option maxHeartbeats 1000000 in
theorem shift_14_n (xl xh yl yh : Int) (w : World) (hx1 : -2147483648 ≤ xl) (hx2 : xl ≤ 2147483647) (hx3 : -2147483648 ≤ xh) (hx4 : xh ≤ 2147483647) (hy1 : -2147483648 ≤ yl) (hy2 : yl ≤ 2147483647) (hs : (yl == yh) = false) :
    Calls Try.prog 33 #[.int .u8 14, .agg #[.int .i32 xl, .int .i32 xh], .agg #[.int .i32 yl, .int .i32 yh]] w fun e w' => e = .returned (.agg #[.int .i32 (-2147483648), .int .i32 (2147483647)]) ∧ Below w.heap.size w w' := by
  have e31 := and31 yl
  go_enter Try.func33, Try.ntmps33
  go_wp2_with (first | (go_at_call 28; ((first | (with_reducible refine (Calls.extq (single_any _ _ _)).mono ?_) | (refine (Calls.ext (single_any _ _ _)).mono ?_)); rintro e _ ⟨rfl, y, rfl⟩)) | (go_at_call 18; ((first | (with_reducible refine (Calls.extq (full_any _)).mono ?_) | (refine (Calls.ext (full_any _)).mono ?_)); rintro e _ ⟨rfl, y, rfl⟩)))
  all_goals
    refine bodyPost_ret (v := .agg #[.int .i32 (-2147483648), .int .i32 (2147483647)]) ?hr rfl ⟨rfl, ?bel⟩
    case hr =>
      simp [results, Try.results33, go_sem]
    case bel =>
      (repeat (first | exact Below.refl _ _ | refine Below.setCell ?_ ?_ _ | refine Ext.below ?_ ?_ _ | refine Below.alloc ?_ ?_ _)) <;> (first | (simp; done) | (simp; omega) | omega | (simp only [World.size_setCell, World.size_alloc]; refine Nat.le_trans ?_ (Below.size (Ext.h _)); simp only [World.size_setCell, World.size_alloc]; omega))

set_option maxRecDepth 100000 in
set_option maxHeartbeats 1000000 in
theorem shift_15_s (xl xh yl yh : Int) (w : World) (hx1 : -2147483648 ≤ xl) (hx2 : xl ≤ 2147483647) (hx3 : -2147483648 ≤ xh) (hx4 : xh ≤ 2147483647) (hy1 : -2147483648 ≤ yl) (hy2 : yl ≤ 2147483647) (hs : (yl == yh) = true) :
    Calls Try.prog 33 #[.int .u8 15, .agg #[.int .i32 xl, .int .i32 xh], .agg #[.int .i32 yl, .int .i32 yh]] w fun e w' => e = .returned (.agg #[.int .i32 (xl / 2 ^ (yl % 32).toNat), .int .i32 (xh / 2 ^ (yl % 32).toNat)]) ∧ Below w.heap.size w w' := by
  have e31 := and31 yl
  go_enter Try.func33, Try.ntmps33
  go_wp2_with (first | (go_at_call 28; ((first | (with_reducible refine (Calls.extq (single_any _ _ _)).mono ?_) | (refine (Calls.ext (single_any _ _ _)).mono ?_)); rintro e _ ⟨rfl, y, rfl⟩)) | (go_at_call 18; ((first | (with_reducible refine (Calls.extq (full_any _)).mono ?_) | (refine (Calls.ext (full_any _)).mono ?_)); rintro e _ ⟨rfl, y, rfl⟩)))
  all_goals
    refine bodyPost_ret (v := .agg #[.int .i32 (xl / 2 ^ (yl % 32).toNat), .int .i32 (xh / 2 ^ (yl % 32).toNat)]) ?hr rfl ⟨rfl, ?bel⟩
    case hr =>
      simp [results, Try.results33, go_sem]
    case bel =>
      (repeat (first | exact Below.refl _ _ | refine Below.setCell ?_ ?_ _ | refine Ext.below ?_ ?_ _ | refine Below.alloc ?_ ?_ _)) <;> (first | (simp; done) | (simp; omega) | omega | (simp only [World.size_setCell, World.size_alloc]; refine Nat.le_trans ?_ (Below.size (Ext.h _)); simp only [World.size_setCell, World.size_alloc]; omega))

set_option maxRecDepth 100000 in
set_option maxHeartbeats 1000000 in
theorem shift_15_pn (xl xh yl yh : Int) (w : World) (hx1 : -2147483648 ≤ xl) (hx2 : xl ≤ 2147483647) (hx3 : -2147483648 ≤ xh) (hx4 : xh ≤ 2147483647) (hy1 : -2147483648 ≤ yl) (hy2 : yl ≤ 2147483647) (hs : (yl == yh) = false) (ha : 0 ≤ xl) (hb : xh < 0) :
    Calls Try.prog 33 #[.int .u8 15, .agg #[.int .i32 xl, .int .i32 xh], .agg #[.int .i32 yl, .int .i32 yh]] w fun e w' => e = .returned (.agg #[.int .i32 (0), .int .i32 (-1)]) ∧ Below w.heap.size w w' := by
  have e31 := and31 yl
  have d1 : decide (0 ≤ xl) = true := by simp; omega
  have d2 : decide (xh < 0) = true := by simp; omega
  go_enter Try.func33, Try.ntmps33
  go_wp2_with (first | (go_at_call 28; ((first | (with_reducible refine (Calls.extq (single_any _ _ _)).mono ?_) | (refine (Calls.ext (single_any _ _ _)).mono ?_)); rintro e _ ⟨rfl, y, rfl⟩)) | (go_at_call 18; ((first | (with_reducible refine (Calls.extq (full_any _)).mono ?_) | (refine (Calls.ext (full_any _)).mono ?_)); rintro e _ ⟨rfl, y, rfl⟩)))
  all_goals
    refine bodyPost_ret (v := .agg #[.int .i32 (0), .int .i32 (-1)]) ?hr rfl ⟨rfl, ?bel⟩
    case hr =>
      simp [results, Try.results33, go_sem]
    case bel =>
      (repeat (first | exact Below.refl _ _ | refine Below.setCell ?_ ?_ _ | refine Ext.below ?_ ?_ _ | refine Below.alloc ?_ ?_ _)) <;> (first | (simp; done) | (simp; omega) | omega | (simp only [World.size_setCell, World.size_alloc]; refine Nat.le_trans ?_ (Below.size (Ext.h _)); simp only [World.size_setCell, World.size_alloc]; omega))

set_option maxRecDepth 100000 in
set_option maxHeartbeats 1000000 in
theorem shift_15_pp (xl xh yl yh : Int) (w : World) (hx1 : -2147483648 ≤ xl) (hx2 : xl ≤ 2147483647) (hx3 : -2147483648 ≤ xh) (hx4 : xh ≤ 2147483647) (hy1 : -2147483648 ≤ yl) (hy2 : yl ≤ 2147483647) (hs : (yl == yh) = false) (ha : 0 ≤ xl) (hb : ¬ xh < 0) :
    Calls Try.prog 33 #[.int .u8 15, .agg #[.int .i32 xl, .int .i32 xh], .agg #[.int .i32 yl, .int .i32 yh]] w fun e w' => e = .returned (.agg #[.int .i32 (0), .int .i32 (xh)]) ∧ Below w.heap.size w w' := by
  have e31 := and31 yl
  have d1 : decide (0 ≤ xl) = true := by simp; omega
  have d2 : decide (xh < 0) = false := by simp; omega
  go_enter Try.func33, Try.ntmps33
  go_wp2_with (first | (go_at_call 28; ((first | (with_reducible refine (Calls.extq (single_any _ _ _)).mono ?_) | (refine (Calls.ext (single_any _ _ _)).mono ?_)); rintro e _ ⟨rfl, y, rfl⟩)) | (go_at_call 18; ((first | (with_reducible refine (Calls.extq (full_any _)).mono ?_) | (refine (Calls.ext (full_any _)).mono ?_)); rintro e _ ⟨rfl, y, rfl⟩)))
  all_goals
    refine bodyPost_ret (v := .agg #[.int .i32 (0), .int .i32 (xh)]) ?hr rfl ⟨rfl, ?bel⟩
    case hr =>
      simp [results, Try.results33, go_sem]
    case bel =>
      (repeat (first | exact Below.refl _ _ | refine Below.setCell ?_ ?_ _ | refine Ext.below ?_ ?_ _ | refine Below.alloc ?_ ?_ _)) <;> (first | (simp; done) | (simp; omega) | omega | (simp only [World.size_setCell, World.size_alloc]; refine Nat.le_trans ?_ (Below.size (Ext.h _)); simp only [World.size_setCell, World.size_alloc]; omega))

set_option maxRecDepth 100000 in
set_option maxHeartbeats 1000000 in
theorem shift_15_nn (xl xh yl yh : Int) (w : World) (hx1 : -2147483648 ≤ xl) (hx2 : xl ≤ 2147483647) (hx3 : -2147483648 ≤ xh) (hx4 : xh ≤ 2147483647) (hy1 : -2147483648 ≤ yl) (hy2 : yl ≤ 2147483647) (hs : (yl == yh) = false) (ha : ¬ 0 ≤ xl) (hb : xh < 0) :
    Calls Try.prog 33 #[.int .u8 15, .agg #[.int .i32 xl, .int .i32 xh], .agg #[.int .i32 yl, .int .i32 yh]] w fun e w' => e = .returned (.agg #[.int .i32 (xl), .int .i32 (-1)]) ∧ Below w.heap.size w w' := by
  have e31 := and31 yl
  have d1 : decide (0 ≤ xl) = false := by simp; omega
  have d2 : decide (xh < 0) = true := by simp; omega
  go_enter Try.func33, Try.ntmps33
  go_wp2_with (first | (go_at_call 28; ((first | (with_reducible refine (Calls.extq (single_any _ _ _)).mono ?_) | (refine (Calls.ext (single_any _ _ _)).mono ?_)); rintro e _ ⟨rfl, y, rfl⟩)) | (go_at_call 18; ((first | (with_reducible refine (Calls.extq (full_any _)).mono ?_) | (refine (Calls.ext (full_any _)).mono ?_)); rintro e _ ⟨rfl, y, rfl⟩)))
  all_goals
    refine bodyPost_ret (v := .agg #[.int .i32 (xl), .int .i32 (-1)]) ?hr rfl ⟨rfl, ?bel⟩
    case hr =>
      simp [results, Try.results33, go_sem]
    case bel =>
      (repeat (first | exact Below.refl _ _ | refine Below.setCell ?_ ?_ _ | refine Ext.below ?_ ?_ _ | refine Below.alloc ?_ ?_ _)) <;> (first | (simp; done) | (simp; omega) | omega | (simp only [World.size_setCell, World.size_alloc]; refine Nat.le_trans ?_ (Below.size (Ext.h _)); simp only [World.size_setCell, World.size_alloc]; omega))

set_option maxRecDepth 100000 in
set_option maxHeartbeats 1000000 in
theorem shift_15_np (xl xh yl yh : Int) (w : World) (hx1 : -2147483648 ≤ xl) (hx2 : xl ≤ 2147483647) (hx3 : -2147483648 ≤ xh) (hx4 : xh ≤ 2147483647) (hy1 : -2147483648 ≤ yl) (hy2 : yl ≤ 2147483647) (hs : (yl == yh) = false) (ha : ¬ 0 ≤ xl) (hb : ¬ xh < 0) :
    Calls Try.prog 33 #[.int .u8 15, .agg #[.int .i32 xl, .int .i32 xh], .agg #[.int .i32 yl, .int .i32 yh]] w fun e w' => e = .returned (.agg #[.int .i32 (xl), .int .i32 (xh)]) ∧ Below w.heap.size w w' := by
  have e31 := and31 yl
  have d1 : decide (0 ≤ xl) = false := by simp; omega
  have d2 : decide (xh < 0) = false := by simp; omega
  go_enter Try.func33, Try.ntmps33
  go_wp2_with (first | (go_at_call 28; ((first | (with_reducible refine (Calls.extq (single_any _ _ _)).mono ?_) | (refine (Calls.ext (single_any _ _ _)).mono ?_)); rintro e _ ⟨rfl, y, rfl⟩)) | (go_at_call 18; ((first | (with_reducible refine (Calls.extq (full_any _)).mono ?_) | (refine (Calls.ext (full_any _)).mono ?_)); rintro e _ ⟨rfl, y, rfl⟩)))
  all_goals
    refine bodyPost_ret (v := .agg #[.int .i32 (xl), .int .i32 (xh)]) ?hr rfl ⟨rfl, ?bel⟩
    case hr =>
      simp [results, Try.results33, go_sem]
    case bel =>
      (repeat (first | exact Below.refl _ _ | refine Below.setCell ?_ ?_ _ | refine Ext.below ?_ ?_ _ | refine Below.alloc ?_ ?_ _)) <;> (first | (simp; done) | (simp; omega) | omega | (simp only [World.size_setCell, World.size_alloc]; refine Nat.le_trans ?_ (Below.size (Ext.h _)); simp only [World.size_setCell, World.size_alloc]; omega))

theorem shift_any (op xl xh yl yh : Int) (w : World) (hx1 : -2147483648 ≤ xl) (hx2 : xl ≤ 2147483647) (hx3 : -2147483648 ≤ xh) (hx4 : xh ≤ 2147483647) (hy1 : -2147483648 ≤ yl) (hy2 : yl ≤ 2147483647) (h1 : 14 ≤ op) (h2 : op ≤ 15) :
    Calls Try.prog 33 #[.int .u8 op, .agg #[.int .i32 xl, .int .i32 xh], .agg #[.int .i32 yl, .int .i32 yh]] w fun e w' => e = .returned (.agg #[.int .i32 (shI op (xl, xh) (yl, yh)).1, .int .i32 (shI op (xl, xh) (yl, yh)).2]) ∧ Below w.heap.size w w' := by
  have h : op = 14 ∨ op = 15 := by omega
  by_cases e : yl = yh
  · rcases h with rfl | rfl
    · refine (shift_14_s xl xh yl yh w hx1 hx2 hx3 hx4 hy1 hy2 (by simpa using e)).mono fun e' w' ⟨q, hb⟩ => ⟨q.trans ?_, hb⟩
      simp [shI, e]
    · refine (shift_15_s xl xh yl yh w hx1 hx2 hx3 hx4 hy1 hy2 (by simpa using e)).mono fun e' w' ⟨q, hb⟩ => ⟨q.trans ?_, hb⟩
      simp [shI, e]
  · have hs : (yl == yh) = false := by simpa using e
    rcases h with rfl | rfl
    · refine (shift_14_n xl xh yl yh w hx1 hx2 hx3 hx4 hy1 hy2 hs).mono fun e' w' ⟨q, hb⟩ => ⟨q.trans ?_, hb⟩
      simp [shI, e]
    · by_cases ha : 0 ≤ xl <;> by_cases hb : xh < 0
      · refine (shift_15_pn xl xh yl yh w hx1 hx2 hx3 hx4 hy1 hy2 hs ha hb).mono fun e' w' ⟨q, hb⟩ => ⟨q.trans ?_, hb⟩
        simp [shI, e, *]
      · refine (shift_15_pp xl xh yl yh w hx1 hx2 hx3 hx4 hy1 hy2 hs ha hb).mono fun e' w' ⟨q, hb⟩ => ⟨q.trans ?_, hb⟩
        simp [shI, e, *]
      · refine (shift_15_nn xl xh yl yh w hx1 hx2 hx3 hx4 hy1 hy2 hs ha hb).mono fun e' w' ⟨q, hb⟩ => ⟨q.trans ?_, hb⟩
        simp [shI, e, *]
      · refine (shift_15_np xl xh yl yh w hx1 hx2 hx3 hx4 hy1 hy2 hs ha hb).mono fun e' w' ⟨q, hb⟩ => ⟨q.trans ?_, hb⟩
        simp [shI, e, *]

end Go.Proofs.Ytjkjcnamlankoaa
