/-
  What is proved here: what ontimeref27.Apply returns: just what interval.Apply returns.
-/
import Derived.Test.YtjkjcnamlankoaaIvRef8
import Derived.Deep.DeepCutAuto
namespace Go.Proofs.Ytjkjcnamlankoaa
open Go.RowKit
set_option linter.unusedVariables false
set_option linter.unusedSimpArgs false

theorem eqIn_rv (d : Nat) (a b c e : Int) (w : World) : (Op.equalIn (d + 1 + 1) 25 (.agg #[.int .i32 a, .int .i32 b]) (.agg #[.int .i32 c, .int .i32 e])).run Try.prog w = .ok (a == c && b == e) w := by
  rw [Op.equalIn]
  simp [run_underlying Try.underlying25, eqIn_int d Try.underlying21, part0, part1, Sem.run_bind]
  by_cases h1 : a = c <;> by_cases h2 : b = e <;> simp [h1, h2]
theorem eq_rv (a b c d : Int) (w : World) : (binOp .eql 25 (.agg #[.int .i32 a, .int .i32 b]) (.agg #[.int .i32 c, .int .i32 d])).run Try.prog w = .ok (.bool (a == c && b == d)) w := by
  simp only [binOp]
  simp [Op.equal, Op.maxDepth, eqIn_rv 9998]
theorem ne_rv (a b c d : Int) (w : World) : (binOp .neq 25 (.agg #[.int .i32 a, .int .i32 b]) (.agg #[.int .i32 c, .int .i32 d])).run Try.prog w = .ok (.bool (!(a == c && b == d))) w := by
  simp only [binOp]
  simp [Op.equal, Op.maxDepth, eqIn_rv 9998]


def apartB (xl xh yl yh : Int) : Bool := decide (xh < yl) || decide (yh < xl)
theorem apart_emp (xl xh yl yh : Int) (hx : xl ≤ xh) (hy : yl ≤ yh) : apartB xl xh yl yh = emp (meetI (xl, xh) (yl, yh)) := by
  unfold apartB
  rcases meet_forms (xl, xh) (yl, yh) with ⟨c, e⟩ | ⟨c1, c2, c3, e⟩
  · rw [e, Bool.eq_iff_iff]; simp only at c; simp [emp]; omega
  · rw [e, Bool.eq_iff_iff]; simp only at c1 c2 c3; simp only [emp, Bool.or_eq_true, decide_eq_true_eq]; omega
def Outs (v : Value) (w : World) (e : Ending) (w' : World) : Prop := e = .returned v ∧ Below w.heap.size w w'

set_option maxRecDepth 100000 in
set_option maxHeartbeats 2000000 in
theorem rap_out_lo (op xl xh yl yh : Int) (w : World) (h : op < 6) :
    Calls Try.prog 12 #[.int .u8 op, .agg #[.int .i32 xl, .int .i32 xh], .agg #[.int .i32 yl, .int .i32 yh]] w fun e w' => e = .returned (.agg #[.int .i32 (-2147483648), .int .i32 2147483647]) ∧ Below w.heap.size w w' := by
  have d1 : decide (op < 6) = true := by simpa using h
  go_enter Try.func12, Try.ntmps12
  go_wp2_with (go_at_call 36; ((first | (with_reducible refine (Calls.extq (rfull_any _)).mono ?_) | (refine (Calls.ext (rfull_any _)).mono ?_)); rintro e _ ⟨rfl, y, rfl⟩))
  all_goals
    refine bodyPost_ret (v := .agg #[.int .i32 (-2147483648), .int .i32 2147483647]) ?hr rfl ⟨rfl, ?bel⟩
    case hr =>
      simp [results, Try.results12, go_sem]
    case bel =>
      (repeat (first | exact Below.refl _ _ | refine Below.setCell ?_ ?_ _ | refine Ext.below ?_ ?_ _ | refine Below.alloc ?_ ?_ _)) <;> (first | (simp; done) | (simp; omega) | omega | (simp only [World.size_setCell, World.size_alloc]; refine Nat.le_trans ?_ (Below.size (Ext.h _)); simp only [World.size_setCell, World.size_alloc]; omega))

set_option maxRecDepth 100000 in
set_option maxHeartbeats 2000000 in
theorem rap_out_hi (op xl xh yl yh : Int) (w : World) (h : 23 < op) :
    Calls Try.prog 12 #[.int .u8 op, .agg #[.int .i32 xl, .int .i32 xh], .agg #[.int .i32 yl, .int .i32 yh]] w fun e w' => e = .returned (.agg #[.int .i32 (-2147483648), .int .i32 2147483647]) ∧ Below w.heap.size w w' := by
  have d1 : decide (op < 6) = false := by simp; omega
  have d2 : decide (23 < op) = true := by simpa using h
  go_enter Try.func12, Try.ntmps12
  go_wp2_with (go_at_call 36; ((first | (with_reducible refine (Calls.extq (rfull_any _)).mono ?_) | (refine (Calls.ext (rfull_any _)).mono ?_)); rintro e _ ⟨rfl, y, rfl⟩))
  all_goals
    refine bodyPost_ret (v := .agg #[.int .i32 (-2147483648), .int .i32 2147483647]) ?hr rfl ⟨rfl, ?bel⟩
    case hr =>
      simp [results, Try.results12, go_sem]
    case bel =>
      (repeat (first | exact Below.refl _ _ | refine Below.setCell ?_ ?_ _ | refine Ext.below ?_ ?_ _ | refine Below.alloc ?_ ?_ _)) <;> (first | (simp; done) | (simp; omega) | omega | (simp only [World.size_setCell, World.size_alloc]; refine Nat.le_trans ?_ (Below.size (Ext.h _)); simp only [World.size_setCell, World.size_alloc]; omega))

set_option maxRecDepth 100000 in
set_option maxHeartbeats 2000000 in
theorem rap_emp_x (op xl xh yl yh : Int) (w : World) (h1 : 6 ≤ op) (h2 : op ≤ 23) (h : xh < xl) :
    Calls Try.prog 12 #[.int .u8 op, .agg #[.int .i32 xl, .int .i32 xh], .agg #[.int .i32 yl, .int .i32 yh]] w fun e w' => e = .returned (.agg #[.int .i32 1, .int .i32 0]) ∧ Below w.heap.size w w' := by
  have d1 : decide (op < 6) = false := by simp; omega
  have d2 : decide (23 < op) = false := by simp; omega
  have d3 : decide (xh < xl) = true := by simpa using h
  go_enter Try.func12, Try.ntmps12
  go_wp2_with (first | (go_at_call 37; ((first | (with_reducible refine (Calls.extq (rempty_any _ _ _)).mono ?_) | (refine (Calls.ext (rempty_any _ _ _)).mono ?_)); rintro e _ ⟨rfl, y, rfl⟩)) | (go_at_call 38; ((first | (with_reducible refine (Calls.extq (rempty0_any _)).mono ?_) | (refine (Calls.ext (rempty0_any _)).mono ?_)); rintro e _ ⟨rfl, y, rfl⟩)))
  all_goals
    refine bodyPost_ret (v := .agg #[.int .i32 1, .int .i32 0]) ?hr rfl ⟨rfl, ?bel⟩
    case hr =>
      simp [results, Try.results12, go_sem]
    case bel =>
      (repeat (first | exact Below.refl _ _ | refine Below.setCell ?_ ?_ _ | refine Ext.below ?_ ?_ _ | refine Below.alloc ?_ ?_ _)) <;> (first | (simp; done) | (simp; omega) | omega | (simp only [World.size_setCell, World.size_alloc]; refine Nat.le_trans ?_ (Below.size (Ext.h _)); simp only [World.size_setCell, World.size_alloc]; omega))

set_option maxRecDepth 100000 in
set_option maxHeartbeats 2000000 in
theorem rap_emp_y (op xl xh yl yh : Int) (w : World) (h1 : 6 ≤ op) (h2 : op ≤ 23) (h : ¬ xh < xl) (h' : yh < yl) :
    Calls Try.prog 12 #[.int .u8 op, .agg #[.int .i32 xl, .int .i32 xh], .agg #[.int .i32 yl, .int .i32 yh]] w fun e w' => e = .returned (.agg #[.int .i32 1, .int .i32 0]) ∧ Below w.heap.size w w' := by
  have d1 : decide (op < 6) = false := by simp; omega
  have d2 : decide (23 < op) = false := by simp; omega
  have d3 : decide (xh < xl) = false := by simpa using h
  have d4 : decide (yh < yl) = true := by simpa using h'
  go_enter Try.func12, Try.ntmps12
  go_wp2_with (first | (go_at_call 37; ((first | (with_reducible refine (Calls.extq (rempty_any _ _ _)).mono ?_) | (refine (Calls.ext (rempty_any _ _ _)).mono ?_)); rintro e _ ⟨rfl, y, rfl⟩)) | (go_at_call 38; ((first | (with_reducible refine (Calls.extq (rempty0_any _)).mono ?_) | (refine (Calls.ext (rempty0_any _)).mono ?_)); rintro e _ ⟨rfl, y, rfl⟩)))
  all_goals
    refine bodyPost_ret (v := .agg #[.int .i32 1, .int .i32 0]) ?hr rfl ⟨rfl, ?bel⟩
    case hr =>
      simp [results, Try.results12, go_sem]
    case bel =>
      (repeat (first | exact Below.refl _ _ | refine Below.setCell ?_ ?_ _ | refine Ext.below ?_ ?_ _ | refine Below.alloc ?_ ?_ _)) <;> (first | (simp; done) | (simp; omega) | omega | (simp only [World.size_setCell, World.size_alloc]; refine Nat.le_trans ?_ (Below.size (Ext.h _)); simp only [World.size_setCell, World.size_alloc]; omega))

set_option maxRecDepth 100000 in
set_option maxHeartbeats 2000000 in
theorem rap_single_ok (op n m : Int) (w : World) (h1 : 6 ≤ op) (h2 : op ≤ 23) (hn : W32 n) (hm : W32 m) (we0 : (we op m != 0) = false) :
    Calls Try.prog 12 #[.int .u8 op, .agg #[.int .i32 n, .int .i32 n], .agg #[.int .i32 m, .int .i32 m]] w fun e w' => e = .returned (.agg #[.int .i32 (wv op n m), .int .i32 (wv op n m)]) ∧ Below w.heap.size w w' := by
  have d1 : decide (op < 6) = false := by simp; omega
  have d2 : decide (23 < op) = false := by simp; omega
  have d3 : decide (n < n) = false := by simp
  have d4 : decide (m < m) = false := by simp
  have d5 : (n == n) = true := by simp
  have d6 : (m == m) = true := by simp
  have we1 : (we op m == 0) = true := by simpa using we0
  go_enter Try.func12, Try.ntmps12
  go_wp2_with (first | (go_at_call 37; ((first | (with_reducible refine (Calls.extq (rempty_any _ _ _)).mono ?_) | (refine (Calls.ext (rempty_any _ _ _)).mono ?_)); rintro e _ ⟨rfl, y, rfl⟩)) | (go_at_call 39; ((first | (with_reducible refine (Calls.extq (rsingle_any _ _ _)).mono ?_) | (refine (Calls.ext (rsingle_any _ _ _)).mono ?_)); rintro e _ ⟨rfl, y, rfl⟩)) | (go_at_call 38; ((first | (with_reducible refine (Calls.extq (rempty0_any _)).mono ?_) | (refine (Calls.ext (rempty0_any _)).mono ?_)); rintro e _ ⟨rfl, y, rfl⟩)) | (go_at_call 40; refine (Calls.extq_same (rapply_any _ _ _ _ hn hm)).mono ?_; rintro e _ ⟨rfl, y, rfl⟩))
  all_goals
    refine bodyPost_ret (v := .agg #[.int .i32 (wv op n m), .int .i32 (wv op n m)]) ?hr rfl ⟨rfl, ?bel⟩
    case hr =>
      simp [results, Try.results12, go_sem]
    case bel =>
      (repeat (first | exact Below.refl _ _ | refine Below.setCell ?_ ?_ _ | refine Ext.below ?_ ?_ _ | refine Below.alloc ?_ ?_ _)) <;> (first | (simp; done) | (simp; omega) | omega | (simp only [World.size_setCell, World.size_alloc]; refine Nat.le_trans ?_ (Below.size (Ext.h _)); simp only [World.size_setCell, World.size_alloc]; omega))

set_option maxRecDepth 100000 in
set_option maxHeartbeats 2000000 in
theorem rap_single_no (op n m : Int) (w : World) (h1 : 6 ≤ op) (h2 : op ≤ 23) (hn : W32 n) (hm : W32 m) (we0 : (we op m != 0) = true) :
    Calls Try.prog 12 #[.int .u8 op, .agg #[.int .i32 n, .int .i32 n], .agg #[.int .i32 m, .int .i32 m]] w fun e w' => e = .returned (.agg #[.int .i32 1, .int .i32 0]) ∧ Below w.heap.size w w' := by
  have d1 : decide (op < 6) = false := by simp; omega
  have d2 : decide (23 < op) = false := by simp; omega
  have d3 : decide (n < n) = false := by simp
  have d4 : decide (m < m) = false := by simp
  have d5 : (n == n) = true := by simp
  have d6 : (m == m) = true := by simp
  have we1 : (we op m == 0) = false := by simpa using we0
  go_enter Try.func12, Try.ntmps12
  go_wp2_with (first | (go_at_call 37; ((first | (with_reducible refine (Calls.extq (rempty_any _ _ _)).mono ?_) | (refine (Calls.ext (rempty_any _ _ _)).mono ?_)); rintro e _ ⟨rfl, y, rfl⟩)) | (go_at_call 39; ((first | (with_reducible refine (Calls.extq (rsingle_any _ _ _)).mono ?_) | (refine (Calls.ext (rsingle_any _ _ _)).mono ?_)); rintro e _ ⟨rfl, y, rfl⟩)) | (go_at_call 38; ((first | (with_reducible refine (Calls.extq (rempty0_any _)).mono ?_) | (refine (Calls.ext (rempty0_any _)).mono ?_)); rintro e _ ⟨rfl, y, rfl⟩)) | (go_at_call 40; refine (Calls.extq_same (rapply_any _ _ _ _ hn hm)).mono ?_; rintro e _ ⟨rfl, y, rfl⟩))
  all_goals
    refine bodyPost_ret (v := .agg #[.int .i32 1, .int .i32 0]) ?hr rfl ⟨rfl, ?bel⟩
    case hr =>
      simp [results, Try.results12, go_sem]
    case bel =>
      (repeat (first | exact Below.refl _ _ | refine Below.setCell ?_ ?_ _ | refine Ext.below ?_ ?_ _ | refine Below.alloc ?_ ?_ _)) <;> (first | (simp; done) | (simp; omega) | omega | (simp only [World.size_setCell, World.size_alloc]; refine Nat.le_trans ?_ (Below.size (Ext.h _)); simp only [World.size_setCell, World.size_alloc]; omega))

theorem rzero_base (w V : World) (xl xh yl yh : Int) (D : RDiv w V xl xh yl yh) : ∃ (W : World) (g : Nat), V.alloc (Obj.cells #[Value.int IntKind.i32 0, Value.int IntKind.i32 0] 25) = W ∧ V.heap.size = g ∧ Below w.heap.size w W ∧ w.heap.size < W.heap.size ∧ w.heap.size + 1 < W.heap.size ∧ w.heap.size + 1 + 1 < W.heap.size ∧ g < W.heap.size ∧
    W.cell? ⟨w.heap.size, 0, none⟩ = some (.int .i32 xl) ∧ W.cell? ⟨w.heap.size, 1, none⟩ = some (.int .i32 xh) ∧ W.cell? ⟨w.heap.size + 1, 0, none⟩ = some (.int .i32 yl) ∧ W.cell? ⟨w.heap.size + 1, 1, none⟩ = some (.int .i32 yh) ∧ W.cell? ⟨w.heap.size + 1 + 1, 0, none⟩ = some (.int .i32 0) ∧ W.cell? ⟨w.heap.size + 1 + 1, 1, none⟩ = some (.int .i32 0) ∧ W.cell? ⟨g, 0, none⟩ = some (.int .i32 0) ∧ W.cell? ⟨g, 1, none⟩ = some (.int .i32 0) ∧ W.frozen? ⟨w.heap.size + 1 + 1, 0, none⟩ = false ∧ W.frozen? ⟨w.heap.size + 1 + 1, 1, none⟩ = false := by
  obtain ⟨kB, s1, s2, s3, c1, c2, c3, c4, c5, c6, f5, f6⟩ := D
  refine ⟨_, _, rfl, rfl, Below.alloc kB (by omega) _, by rw [World.size_alloc]; omega, by rw [World.size_alloc]; omega, by rw [World.size_alloc]; omega, by rw [World.size_alloc]; omega, ?_, ?_, ?_, ?_, ?_, ?_, ?_, ?_, ?_, ?_⟩
  all_goals (go_simp; done)

set_option maxRecDepth 100000 in
set_option maxHeartbeats 2000000 in
theorem rap_6_n (xl xh yl yh : Int) (w : World) (hx1 : -2147483648 ≤ xl) (hx2 : xl ≤ 2147483647) (hx3 : -2147483648 ≤ xh) (hx4 : xh ≤ 2147483647) (hy1 : -2147483648 ≤ yl) (hy2 : yl ≤ 2147483647) (hy3 : -2147483648 ≤ yh) (hy4 : yh ≤ 2147483647) (hxe : xl ≤ xh) (hye : yl ≤ yh) (hs : (xl == xh) = false) :
    Calls Try.prog 12 #[.int .u8 6, .agg #[.int .i32 xl, .int .i32 xh], .agg #[.int .i32 yl, .int .i32 yh]] w fun e w' => e = .returned (.agg #[.int .i32 (hullL [xl + yl, xl + yh, xh + yl, xh + yh]).1, .int .i32 (hullL [xl + yl, xl + yh, xh + yl, xh + yh]).2]) ∧ Below w.heap.size w w' := by
  have d3 : decide (xh < xl) = false := by simp; omega
  have d4 : decide (yh < yl) = false := by simp; omega
  go_enter Try.func12, Try.ntmps12
  go_upto_region 10 with (first | (go_at_call 37; ((first | (with_reducible refine (Calls.extq (rempty_any _ _ _)).mono ?_) | (refine (Calls.ext (rempty_any _ _ _)).mono ?_)); rintro e _ ⟨rfl, y, rfl⟩)) | (go_at_call 39; ((first | (with_reducible refine (Calls.extq (rsingle_any _ _ _)).mono ?_) | (refine (Calls.ext (rsingle_any _ _ _)).mono ?_)); rintro e _ ⟨rfl, y, rfl⟩)))
  obtain ⟨V, hV, D⟩ := rdiv_base xl xh yl yh w y
  rw [hV]
  clear hV
  obtain ⟨kB, s1, s2, s3, c1, c2, c3, c4, c5, c6, f5, f6⟩ := D
  go_cut [9] (fun s wx => s = .bool (apartB xl xh yl yh) ∧ wx = V)
  case first =>
    by_cases ha : xh < yl
    · have HA := Lib.hid (show apartB xl xh yl yh = true by simp [apartB, ha])
      have da := decide_eq_true ha
      go_wp2_with fail
      go_meet
      exact ⟨by rw [HA.out], rfl⟩
    · have HA := Lib.hid (show apartB xl xh yl yh = decide (yh < xl) by simp [apartB, ha])
      have da := decide_eq_false ha
      go_wp2_with fail
      go_meet
      exact ⟨by rw [HA.out], rfl⟩
  case rest =>
    obtain ⟨rfl, hwc⟩ := hcut
    rw [hwc]
    clear hwc
    go_wp2_with fail
    refine (rcorners_6 _ _ _ _ _ hx1 hx2 hx3 hx4 hy1 hy2 hy3 hy4).mono ?_
    rintro e W2 ⟨g, cap, rfl, hge, hg, hc, hb⟩
    go_wp2_with fail
    refine (Calls.ext (rhull_any g cap [xl + yl, xl + yh, xh + yl, xh + yh] _ (by simp) (by simp) hg hc)).mono ?_
    rintro e _ ⟨rfl, y4, rfl⟩
    obtain ⟨y5, hm⟩ : ∃ y5 : Ext V, y4.w = y5.w := ⟨⟨y4.w, ((Below.alloc (Below.refl V.heap.size V) (Nat.le_refl _) _).trans (hb.mono (by rw [World.size_alloc]; omega))).trans (y4.h.mono (by have := hb.size; rw [World.size_alloc] at this; omega))⟩, rfl⟩
    rw [hm]
    clear hm y4 hc hg hge hb
    go_wp2
    all_goals
      refine bodyPost_ret (v := .agg #[.int .i32 (hullL [xl + yl, xl + yh, xh + yl, xh + yh]).1, .int .i32 (hullL [xl + yl, xl + yh, xh + yl, xh + yh]).2]) ?hr rfl ⟨rfl, ?bel⟩
      case hr =>
        simp [results, Try.results12, go_sem, c5, c6, s3]
      case bel =>
        exact Below.setCell (Below.setCell (Ext.below kB (by omega) y5) (by simp; omega) _) (by simp; omega) _


set_option maxRecDepth 100000 in
set_option maxHeartbeats 2000000 in
theorem rap_6_s (xl xh yl yh : Int) (w : World) (hx1 : -2147483648 ≤ xl) (hx2 : xl ≤ 2147483647) (hx3 : -2147483648 ≤ xh) (hx4 : xh ≤ 2147483647) (hy1 : -2147483648 ≤ yl) (hy2 : yl ≤ 2147483647) (hy3 : -2147483648 ≤ yh) (hy4 : yh ≤ 2147483647) (hxe : xl ≤ xh) (hye : yl ≤ yh) (hs : (xl == xh) = true) (hs' : (yl == yh) = false) :
    Calls Try.prog 12 #[.int .u8 6, .agg #[.int .i32 xl, .int .i32 xh], .agg #[.int .i32 yl, .int .i32 yh]] w fun e w' => e = .returned (.agg #[.int .i32 (hullL [xl + yl, xl + yh, xh + yl, xh + yh]).1, .int .i32 (hullL [xl + yl, xl + yh, xh + yl, xh + yh]).2]) ∧ Below w.heap.size w w' := by
  have d3 : decide (xh < xl) = false := by simp; omega
  have d4 : decide (yh < yl) = false := by simp; omega
  go_enter Try.func12, Try.ntmps12
  go_upto_region 10 with (first | (go_at_call 37; ((first | (with_reducible refine (Calls.extq (rempty_any _ _ _)).mono ?_) | (refine (Calls.ext (rempty_any _ _ _)).mono ?_)); rintro e _ ⟨rfl, y, rfl⟩)) | (go_at_call 39; ((first | (with_reducible refine (Calls.extq (rsingle_any _ _ _)).mono ?_) | (refine (Calls.ext (rsingle_any _ _ _)).mono ?_)); rintro e _ ⟨rfl, y, rfl⟩)))
  obtain ⟨V, hV, D⟩ := rdiv_base xl xh yl yh w y
  rw [hV]
  clear hV
  obtain ⟨kB, s1, s2, s3, c1, c2, c3, c4, c5, c6, f5, f6⟩ := D
  go_cut [9] (fun s wx => s = .bool (apartB xl xh yl yh) ∧ wx = V)
  case first =>
    by_cases ha : xh < yl
    · have HA := Lib.hid (show apartB xl xh yl yh = true by simp [apartB, ha])
      have da := decide_eq_true ha
      go_wp2_with fail
      go_meet
      exact ⟨by rw [HA.out], rfl⟩
    · have HA := Lib.hid (show apartB xl xh yl yh = decide (yh < xl) by simp [apartB, ha])
      have da := decide_eq_false ha
      go_wp2_with fail
      go_meet
      exact ⟨by rw [HA.out], rfl⟩
  case rest =>
    obtain ⟨rfl, hwc⟩ := hcut
    rw [hwc]
    clear hwc
    go_wp2_with fail
    refine (rcorners_6 _ _ _ _ _ hx1 hx2 hx3 hx4 hy1 hy2 hy3 hy4).mono ?_
    rintro e W2 ⟨g, cap, rfl, hge, hg, hc, hb⟩
    go_wp2_with fail
    refine (Calls.ext (rhull_any g cap [xl + yl, xl + yh, xh + yl, xh + yh] _ (by simp) (by simp) hg hc)).mono ?_
    rintro e _ ⟨rfl, y4, rfl⟩
    obtain ⟨y5, hm⟩ : ∃ y5 : Ext V, y4.w = y5.w := ⟨⟨y4.w, ((Below.alloc (Below.refl V.heap.size V) (Nat.le_refl _) _).trans (hb.mono (by rw [World.size_alloc]; omega))).trans (y4.h.mono (by have := hb.size; rw [World.size_alloc] at this; omega))⟩, rfl⟩
    rw [hm]
    clear hm y4 hc hg hge hb
    go_wp2
    all_goals
      refine bodyPost_ret (v := .agg #[.int .i32 (hullL [xl + yl, xl + yh, xh + yl, xh + yh]).1, .int .i32 (hullL [xl + yl, xl + yh, xh + yl, xh + yh]).2]) ?hr rfl ⟨rfl, ?bel⟩
      case hr =>
        simp [results, Try.results12, go_sem, c5, c6, s3]
      case bel =>
        exact Below.setCell (Below.setCell (Ext.below kB (by omega) y5) (by simp; omega) _) (by simp; omega) _


set_option maxRecDepth 100000 in
set_option maxHeartbeats 2000000 in
theorem rap_7_n (xl xh yl yh : Int) (w : World) (hx1 : -2147483648 ≤ xl) (hx2 : xl ≤ 2147483647) (hx3 : -2147483648 ≤ xh) (hx4 : xh ≤ 2147483647) (hy1 : -2147483648 ≤ yl) (hy2 : yl ≤ 2147483647) (hy3 : -2147483648 ≤ yh) (hy4 : yh ≤ 2147483647) (hxe : xl ≤ xh) (hye : yl ≤ yh) (hs : (xl == xh) = false) :
    Calls Try.prog 12 #[.int .u8 7, .agg #[.int .i32 xl, .int .i32 xh], .agg #[.int .i32 yl, .int .i32 yh]] w fun e w' => e = .returned (.agg #[.int .i32 (hullL [xl - yl, xl - yh, xh - yl, xh - yh]).1, .int .i32 (hullL [xl - yl, xl - yh, xh - yl, xh - yh]).2]) ∧ Below w.heap.size w w' := by
  have d3 : decide (xh < xl) = false := by simp; omega
  have d4 : decide (yh < yl) = false := by simp; omega
  go_enter Try.func12, Try.ntmps12
  go_upto_region 10 with (first | (go_at_call 37; ((first | (with_reducible refine (Calls.extq (rempty_any _ _ _)).mono ?_) | (refine (Calls.ext (rempty_any _ _ _)).mono ?_)); rintro e _ ⟨rfl, y, rfl⟩)) | (go_at_call 39; ((first | (with_reducible refine (Calls.extq (rsingle_any _ _ _)).mono ?_) | (refine (Calls.ext (rsingle_any _ _ _)).mono ?_)); rintro e _ ⟨rfl, y, rfl⟩)))
  obtain ⟨V, hV, D⟩ := rdiv_base xl xh yl yh w y
  rw [hV]
  clear hV
  obtain ⟨kB, s1, s2, s3, c1, c2, c3, c4, c5, c6, f5, f6⟩ := D
  go_cut [9] (fun s wx => s = .bool (apartB xl xh yl yh) ∧ wx = V)
  case first =>
    by_cases ha : xh < yl
    · have HA := Lib.hid (show apartB xl xh yl yh = true by simp [apartB, ha])
      have da := decide_eq_true ha
      go_wp2_with fail
      go_meet
      exact ⟨by rw [HA.out], rfl⟩
    · have HA := Lib.hid (show apartB xl xh yl yh = decide (yh < xl) by simp [apartB, ha])
      have da := decide_eq_false ha
      go_wp2_with fail
      go_meet
      exact ⟨by rw [HA.out], rfl⟩
  case rest =>
    obtain ⟨rfl, hwc⟩ := hcut
    rw [hwc]
    clear hwc
    go_wp2_with fail
    refine (rcorners_7 _ _ _ _ _ hx1 hx2 hx3 hx4 hy1 hy2 hy3 hy4).mono ?_
    rintro e W2 ⟨g, cap, rfl, hge, hg, hc, hb⟩
    go_wp2_with fail
    refine (Calls.ext (rhull_any g cap [xl - yl, xl - yh, xh - yl, xh - yh] _ (by simp) (by simp) hg hc)).mono ?_
    rintro e _ ⟨rfl, y4, rfl⟩
    obtain ⟨y5, hm⟩ : ∃ y5 : Ext V, y4.w = y5.w := ⟨⟨y4.w, ((Below.alloc (Below.refl V.heap.size V) (Nat.le_refl _) _).trans (hb.mono (by rw [World.size_alloc]; omega))).trans (y4.h.mono (by have := hb.size; rw [World.size_alloc] at this; omega))⟩, rfl⟩
    rw [hm]
    clear hm y4 hc hg hge hb
    go_wp2
    all_goals
      refine bodyPost_ret (v := .agg #[.int .i32 (hullL [xl - yl, xl - yh, xh - yl, xh - yh]).1, .int .i32 (hullL [xl - yl, xl - yh, xh - yl, xh - yh]).2]) ?hr rfl ⟨rfl, ?bel⟩
      case hr =>
        simp [results, Try.results12, go_sem, c5, c6, s3]
      case bel =>
        exact Below.setCell (Below.setCell (Ext.below kB (by omega) y5) (by simp; omega) _) (by simp; omega) _


set_option maxRecDepth 100000 in
set_option maxHeartbeats 2000000 in
theorem rap_7_s (xl xh yl yh : Int) (w : World) (hx1 : -2147483648 ≤ xl) (hx2 : xl ≤ 2147483647) (hx3 : -2147483648 ≤ xh) (hx4 : xh ≤ 2147483647) (hy1 : -2147483648 ≤ yl) (hy2 : yl ≤ 2147483647) (hy3 : -2147483648 ≤ yh) (hy4 : yh ≤ 2147483647) (hxe : xl ≤ xh) (hye : yl ≤ yh) (hs : (xl == xh) = true) (hs' : (yl == yh) = false) :
    Calls Try.prog 12 #[.int .u8 7, .agg #[.int .i32 xl, .int .i32 xh], .agg #[.int .i32 yl, .int .i32 yh]] w fun e w' => e = .returned (.agg #[.int .i32 (hullL [xl - yl, xl - yh, xh - yl, xh - yh]).1, .int .i32 (hullL [xl - yl, xl - yh, xh - yl, xh - yh]).2]) ∧ Below w.heap.size w w' := by
  have d3 : decide (xh < xl) = false := by simp; omega
  have d4 : decide (yh < yl) = false := by simp; omega
  go_enter Try.func12, Try.ntmps12
  go_upto_region 10 with (first | (go_at_call 37; ((first | (with_reducible refine (Calls.extq (rempty_any _ _ _)).mono ?_) | (refine (Calls.ext (rempty_any _ _ _)).mono ?_)); rintro e _ ⟨rfl, y, rfl⟩)) | (go_at_call 39; ((first | (with_reducible refine (Calls.extq (rsingle_any _ _ _)).mono ?_) | (refine (Calls.ext (rsingle_any _ _ _)).mono ?_)); rintro e _ ⟨rfl, y, rfl⟩)))
  obtain ⟨V, hV, D⟩ := rdiv_base xl xh yl yh w y
  rw [hV]
  clear hV
  obtain ⟨kB, s1, s2, s3, c1, c2, c3, c4, c5, c6, f5, f6⟩ := D
  go_cut [9] (fun s wx => s = .bool (apartB xl xh yl yh) ∧ wx = V)
  case first =>
    by_cases ha : xh < yl
    · have HA := Lib.hid (show apartB xl xh yl yh = true by simp [apartB, ha])
      have da := decide_eq_true ha
      go_wp2_with fail
      go_meet
      exact ⟨by rw [HA.out], rfl⟩
    · have HA := Lib.hid (show apartB xl xh yl yh = decide (yh < xl) by simp [apartB, ha])
      have da := decide_eq_false ha
      go_wp2_with fail
      go_meet
      exact ⟨by rw [HA.out], rfl⟩
  case rest =>
    obtain ⟨rfl, hwc⟩ := hcut
    rw [hwc]
    clear hwc
    go_wp2_with fail
    refine (rcorners_7 _ _ _ _ _ hx1 hx2 hx3 hx4 hy1 hy2 hy3 hy4).mono ?_
    rintro e W2 ⟨g, cap, rfl, hge, hg, hc, hb⟩
    go_wp2_with fail
    refine (Calls.ext (rhull_any g cap [xl - yl, xl - yh, xh - yl, xh - yh] _ (by simp) (by simp) hg hc)).mono ?_
    rintro e _ ⟨rfl, y4, rfl⟩
    obtain ⟨y5, hm⟩ : ∃ y5 : Ext V, y4.w = y5.w := ⟨⟨y4.w, ((Below.alloc (Below.refl V.heap.size V) (Nat.le_refl _) _).trans (hb.mono (by rw [World.size_alloc]; omega))).trans (y4.h.mono (by have := hb.size; rw [World.size_alloc] at this; omega))⟩, rfl⟩
    rw [hm]
    clear hm y4 hc hg hge hb
    go_wp2
    all_goals
      refine bodyPost_ret (v := .agg #[.int .i32 (hullL [xl - yl, xl - yh, xh - yl, xh - yh]).1, .int .i32 (hullL [xl - yl, xl - yh, xh - yl, xh - yh]).2]) ?hr rfl ⟨rfl, ?bel⟩
      case hr =>
        simp [results, Try.results12, go_sem, c5, c6, s3]
      case bel =>
        exact Below.setCell (Below.setCell (Ext.below kB (by omega) y5) (by simp; omega) _) (by simp; omega) _


set_option maxRecDepth 100000 in
set_option maxHeartbeats 2000000 in
theorem rap_8_n (xl xh yl yh : Int) (w : World) (hx1 : -2147483648 ≤ xl) (hx2 : xl ≤ 2147483647) (hx3 : -2147483648 ≤ xh) (hx4 : xh ≤ 2147483647) (hy1 : -2147483648 ≤ yl) (hy2 : yl ≤ 2147483647) (hy3 : -2147483648 ≤ yh) (hy4 : yh ≤ 2147483647) (hxe : xl ≤ xh) (hye : yl ≤ yh) (hs : (xl == xh) = false) :
    Calls Try.prog 12 #[.int .u8 8, .agg #[.int .i32 xl, .int .i32 xh], .agg #[.int .i32 yl, .int .i32 yh]] w fun e w' => e = .returned (.agg #[.int .i32 (hullL [xl * yl, xl * yh, xh * yl, xh * yh]).1, .int .i32 (hullL [xl * yl, xl * yh, xh * yl, xh * yh]).2]) ∧ Below w.heap.size w w' := by
  have d3 : decide (xh < xl) = false := by simp; omega
  have d4 : decide (yh < yl) = false := by simp; omega
  go_enter Try.func12, Try.ntmps12
  go_upto_region 10 with (first | (go_at_call 37; ((first | (with_reducible refine (Calls.extq (rempty_any _ _ _)).mono ?_) | (refine (Calls.ext (rempty_any _ _ _)).mono ?_)); rintro e _ ⟨rfl, y, rfl⟩)) | (go_at_call 39; ((first | (with_reducible refine (Calls.extq (rsingle_any _ _ _)).mono ?_) | (refine (Calls.ext (rsingle_any _ _ _)).mono ?_)); rintro e _ ⟨rfl, y, rfl⟩)))
  obtain ⟨V, hV, D⟩ := rdiv_base xl xh yl yh w y
  rw [hV]
  clear hV
  obtain ⟨kB, s1, s2, s3, c1, c2, c3, c4, c5, c6, f5, f6⟩ := D
  go_cut [9] (fun s wx => s = .bool (apartB xl xh yl yh) ∧ wx = V)
  case first =>
    by_cases ha : xh < yl
    · have HA := Lib.hid (show apartB xl xh yl yh = true by simp [apartB, ha])
      have da := decide_eq_true ha
      go_wp2_with fail
      go_meet
      exact ⟨by rw [HA.out], rfl⟩
    · have HA := Lib.hid (show apartB xl xh yl yh = decide (yh < xl) by simp [apartB, ha])
      have da := decide_eq_false ha
      go_wp2_with fail
      go_meet
      exact ⟨by rw [HA.out], rfl⟩
  case rest =>
    obtain ⟨rfl, hwc⟩ := hcut
    rw [hwc]
    clear hwc
    go_wp2_with fail
    refine (rcorners_8 _ _ _ _ _ hx1 hx2 hx3 hx4 hy1 hy2 hy3 hy4).mono ?_
    rintro e W2 ⟨g, cap, rfl, hge, hg, hc, hb⟩
    go_wp2_with fail
    refine (Calls.ext (rhull_any g cap [xl * yl, xl * yh, xh * yl, xh * yh] _ (by simp) (by simp) hg hc)).mono ?_
    rintro e _ ⟨rfl, y4, rfl⟩
    obtain ⟨y5, hm⟩ : ∃ y5 : Ext V, y4.w = y5.w := ⟨⟨y4.w, ((Below.alloc (Below.refl V.heap.size V) (Nat.le_refl _) _).trans (hb.mono (by rw [World.size_alloc]; omega))).trans (y4.h.mono (by have := hb.size; rw [World.size_alloc] at this; omega))⟩, rfl⟩
    rw [hm]
    clear hm y4 hc hg hge hb
    go_wp2
    all_goals
      refine bodyPost_ret (v := .agg #[.int .i32 (hullL [xl * yl, xl * yh, xh * yl, xh * yh]).1, .int .i32 (hullL [xl * yl, xl * yh, xh * yl, xh * yh]).2]) ?hr rfl ⟨rfl, ?bel⟩
      case hr =>
        simp [results, Try.results12, go_sem, c5, c6, s3]
      case bel =>
        exact Below.setCell (Below.setCell (Ext.below kB (by omega) y5) (by simp; omega) _) (by simp; omega) _


set_option maxRecDepth 100000 in
set_option maxHeartbeats 2000000 in
theorem rap_8_s (xl xh yl yh : Int) (w : World) (hx1 : -2147483648 ≤ xl) (hx2 : xl ≤ 2147483647) (hx3 : -2147483648 ≤ xh) (hx4 : xh ≤ 2147483647) (hy1 : -2147483648 ≤ yl) (hy2 : yl ≤ 2147483647) (hy3 : -2147483648 ≤ yh) (hy4 : yh ≤ 2147483647) (hxe : xl ≤ xh) (hye : yl ≤ yh) (hs : (xl == xh) = true) (hs' : (yl == yh) = false) :
    Calls Try.prog 12 #[.int .u8 8, .agg #[.int .i32 xl, .int .i32 xh], .agg #[.int .i32 yl, .int .i32 yh]] w fun e w' => e = .returned (.agg #[.int .i32 (hullL [xl * yl, xl * yh, xh * yl, xh * yh]).1, .int .i32 (hullL [xl * yl, xl * yh, xh * yl, xh * yh]).2]) ∧ Below w.heap.size w w' := by
  have d3 : decide (xh < xl) = false := by simp; omega
  have d4 : decide (yh < yl) = false := by simp; omega
  go_enter Try.func12, Try.ntmps12
  go_upto_region 10 with (first | (go_at_call 37; ((first | (with_reducible refine (Calls.extq (rempty_any _ _ _)).mono ?_) | (refine (Calls.ext (rempty_any _ _ _)).mono ?_)); rintro e _ ⟨rfl, y, rfl⟩)) | (go_at_call 39; ((first | (with_reducible refine (Calls.extq (rsingle_any _ _ _)).mono ?_) | (refine (Calls.ext (rsingle_any _ _ _)).mono ?_)); rintro e _ ⟨rfl, y, rfl⟩)))
  obtain ⟨V, hV, D⟩ := rdiv_base xl xh yl yh w y
  rw [hV]
  clear hV
  obtain ⟨kB, s1, s2, s3, c1, c2, c3, c4, c5, c6, f5, f6⟩ := D
  go_cut [9] (fun s wx => s = .bool (apartB xl xh yl yh) ∧ wx = V)
  case first =>
    by_cases ha : xh < yl
    · have HA := Lib.hid (show apartB xl xh yl yh = true by simp [apartB, ha])
      have da := decide_eq_true ha
      go_wp2_with fail
      go_meet
      exact ⟨by rw [HA.out], rfl⟩
    · have HA := Lib.hid (show apartB xl xh yl yh = decide (yh < xl) by simp [apartB, ha])
      have da := decide_eq_false ha
      go_wp2_with fail
      go_meet
      exact ⟨by rw [HA.out], rfl⟩
  case rest =>
    obtain ⟨rfl, hwc⟩ := hcut
    rw [hwc]
    clear hwc
    go_wp2_with fail
    refine (rcorners_8 _ _ _ _ _ hx1 hx2 hx3 hx4 hy1 hy2 hy3 hy4).mono ?_
    rintro e W2 ⟨g, cap, rfl, hge, hg, hc, hb⟩
    go_wp2_with fail
    refine (Calls.ext (rhull_any g cap [xl * yl, xl * yh, xh * yl, xh * yh] _ (by simp) (by simp) hg hc)).mono ?_
    rintro e _ ⟨rfl, y4, rfl⟩
    obtain ⟨y5, hm⟩ : ∃ y5 : Ext V, y4.w = y5.w := ⟨⟨y4.w, ((Below.alloc (Below.refl V.heap.size V) (Nat.le_refl _) _).trans (hb.mono (by rw [World.size_alloc]; omega))).trans (y4.h.mono (by have := hb.size; rw [World.size_alloc] at this; omega))⟩, rfl⟩
    rw [hm]
    clear hm y4 hc hg hge hb
    go_wp2
    all_goals
      refine bodyPost_ret (v := .agg #[.int .i32 (hullL [xl * yl, xl * yh, xh * yl, xh * yh]).1, .int .i32 (hullL [xl * yl, xl * yh, xh * yl, xh * yh]).2]) ?hr rfl ⟨rfl, ?bel⟩
      case hr =>
        simp [results, Try.results12, go_sem, c5, c6, s3]
      case bel =>
        exact Below.setCell (Below.setCell (Ext.below kB (by omega) y5) (by simp; omega) _) (by simp; omega) _


set_option maxRecDepth 100000 in
set_option maxHeartbeats 2000000 in
theorem rap_9_n (xl xh yl yh : Int) (w : World) (hx1 : -2147483648 ≤ xl) (hx2 : xl ≤ 2147483647) (hx3 : -2147483648 ≤ xh) (hx4 : xh ≤ 2147483647) (hy1 : -2147483648 ≤ yl) (hy2 : yl ≤ 2147483647) (hy3 : -2147483648 ≤ yh) (hy4 : yh ≤ 2147483647) (hxe : xl ≤ xh) (hye : yl ≤ yh) (hs : (xl == xh) = false) (nz : (yl == 0 && yh == 0) = false) :
    Calls Try.prog 12 #[.int .u8 9, .agg #[.int .i32 xl, .int .i32 xh], .agg #[.int .i32 yl, .int .i32 yh]] w fun e w' => e = .returned (.agg #[.int .i32 (divI (xl, xh) (yl, yh)).1, .int .i32 (divI (xl, xh) (yl, yh)).2]) ∧ Below w.heap.size w w' := by
  have nz' : ¬ (yl = 0 ∧ yh = 0) := by simpa using nz
  have d3 : decide (xh < xl) = false := by simp; omega
  have d4 : decide (yh < yl) = false := by simp; omega
  go_enter Try.func12, Try.ntmps12
  go_upto_region 10 with (first | (go_at_call 37; ((first | (with_reducible refine (Calls.extq (rempty_any _ _ _)).mono ?_) | (refine (Calls.ext (rempty_any _ _ _)).mono ?_)); rintro e _ ⟨rfl, y, rfl⟩)) | (go_at_call 39; ((first | (with_reducible refine (Calls.extq (rsingle_any _ _ _)).mono ?_) | (refine (Calls.ext (rsingle_any _ _ _)).mono ?_)); rintro e _ ⟨rfl, y, rfl⟩)))
  obtain ⟨V, hV, D⟩ := rdiv_base xl xh yl yh w y
  rw [hV]
  clear hV
  obtain ⟨kB, s1, s2, s3, c1, c2, c3, c4, c5, c6, f5, f6⟩ := D
  go_cut [9] (fun s wx => s = .bool (apartB xl xh yl yh) ∧ wx = V)
  case first =>
    by_cases ha : xh < yl
    · have HA := Lib.hid (show apartB xl xh yl yh = true by simp [apartB, ha])
      have da := decide_eq_true ha
      go_wp2_with fail
      go_meet
      exact ⟨by rw [HA.out], rfl⟩
    · have HA := Lib.hid (show apartB xl xh yl yh = decide (yh < xl) by simp [apartB, ha])
      have da := decide_eq_false ha
      go_wp2_with fail
      go_meet
      exact ⟨by rw [HA.out], rfl⟩
  case rest =>
    obtain ⟨rfl, hwc⟩ := hcut
    rw [hwc]
    clear hwc
    have e2 := eq_rv
    go_wp2_with fail
    refine (Calls.ext (rdivide_any _ _ _ _ _ hx1 hx2 hx3 hx4 hy1 hy2 hy3 hy4 hxe hye nz')).mono ?_
    rintro e _ ⟨rfl, y4, rfl⟩
    obtain ⟨y5, hm⟩ := ext_alloc y4
    rw [hm]
    clear hm y4
    go_wp2
    all_goals
      refine bodyPost_ret (v := .agg #[.int .i32 (divI (xl, xh) (yl, yh)).1, .int .i32 (divI (xl, xh) (yl, yh)).2]) ?hr rfl ⟨rfl, ?bel⟩
      case hr =>
        simp [results, Try.results12, go_sem, c5, c6, s3]
      case bel =>
        exact Below.setCell (Below.setCell (Ext.below kB (by omega) y5) (by simp; omega) _) (by simp; omega) _


set_option maxRecDepth 100000 in
set_option maxHeartbeats 2000000 in
theorem rap_9_s (xl xh yl yh : Int) (w : World) (hx1 : -2147483648 ≤ xl) (hx2 : xl ≤ 2147483647) (hx3 : -2147483648 ≤ xh) (hx4 : xh ≤ 2147483647) (hy1 : -2147483648 ≤ yl) (hy2 : yl ≤ 2147483647) (hy3 : -2147483648 ≤ yh) (hy4 : yh ≤ 2147483647) (hxe : xl ≤ xh) (hye : yl ≤ yh) (hs : (xl == xh) = true) (hs' : (yl == yh) = false) (nz : (yl == 0 && yh == 0) = false) :
    Calls Try.prog 12 #[.int .u8 9, .agg #[.int .i32 xl, .int .i32 xh], .agg #[.int .i32 yl, .int .i32 yh]] w fun e w' => e = .returned (.agg #[.int .i32 (divI (xl, xh) (yl, yh)).1, .int .i32 (divI (xl, xh) (yl, yh)).2]) ∧ Below w.heap.size w w' := by
  have nz' : ¬ (yl = 0 ∧ yh = 0) := by simpa using nz
  have d3 : decide (xh < xl) = false := by simp; omega
  have d4 : decide (yh < yl) = false := by simp; omega
  go_enter Try.func12, Try.ntmps12
  go_upto_region 10 with (first | (go_at_call 37; ((first | (with_reducible refine (Calls.extq (rempty_any _ _ _)).mono ?_) | (refine (Calls.ext (rempty_any _ _ _)).mono ?_)); rintro e _ ⟨rfl, y, rfl⟩)) | (go_at_call 39; ((first | (with_reducible refine (Calls.extq (rsingle_any _ _ _)).mono ?_) | (refine (Calls.ext (rsingle_any _ _ _)).mono ?_)); rintro e _ ⟨rfl, y, rfl⟩)))
  obtain ⟨V, hV, D⟩ := rdiv_base xl xh yl yh w y
  rw [hV]
  clear hV
  obtain ⟨kB, s1, s2, s3, c1, c2, c3, c4, c5, c6, f5, f6⟩ := D
  go_cut [9] (fun s wx => s = .bool (apartB xl xh yl yh) ∧ wx = V)
  case first =>
    by_cases ha : xh < yl
    · have HA := Lib.hid (show apartB xl xh yl yh = true by simp [apartB, ha])
      have da := decide_eq_true ha
      go_wp2_with fail
      go_meet
      exact ⟨by rw [HA.out], rfl⟩
    · have HA := Lib.hid (show apartB xl xh yl yh = decide (yh < xl) by simp [apartB, ha])
      have da := decide_eq_false ha
      go_wp2_with fail
      go_meet
      exact ⟨by rw [HA.out], rfl⟩
  case rest =>
    obtain ⟨rfl, hwc⟩ := hcut
    rw [hwc]
    clear hwc
    have e2 := eq_rv
    go_wp2_with fail
    refine (Calls.ext (rdivide_any _ _ _ _ _ hx1 hx2 hx3 hx4 hy1 hy2 hy3 hy4 hxe hye nz')).mono ?_
    rintro e _ ⟨rfl, y4, rfl⟩
    obtain ⟨y5, hm⟩ := ext_alloc y4
    rw [hm]
    clear hm y4
    go_wp2
    all_goals
      refine bodyPost_ret (v := .agg #[.int .i32 (divI (xl, xh) (yl, yh)).1, .int .i32 (divI (xl, xh) (yl, yh)).2]) ?hr rfl ⟨rfl, ?bel⟩
      case hr =>
        simp [results, Try.results12, go_sem, c5, c6, s3]
      case bel =>
        exact Below.setCell (Below.setCell (Ext.below kB (by omega) y5) (by simp; omega) _) (by simp; omega) _


set_option maxRecDepth 100000 in
set_option maxHeartbeats 2000000 in
theorem rap_10_n (xl xh yl yh : Int) (w : World) (hx1 : -2147483648 ≤ xl) (hx2 : xl ≤ 2147483647) (hx3 : -2147483648 ≤ xh) (hx4 : xh ≤ 2147483647) (hy1 : -2147483648 ≤ yl) (hy2 : yl ≤ 2147483647) (hy3 : -2147483648 ≤ yh) (hy4 : yh ≤ 2147483647) (hxe : xl ≤ xh) (hye : yl ≤ yh) (hs : (xl == xh) = false) (nz : (yl == 0 && yh == 0) = false) :
    Calls Try.prog 12 #[.int .u8 10, .agg #[.int .i32 xl, .int .i32 xh], .agg #[.int .i32 yl, .int .i32 yh]] w fun e w' => e = .returned (.agg #[.int .i32 (modI (xl, xh) (yl, yh)).1, .int .i32 (modI (xl, xh) (yl, yh)).2]) ∧ Below w.heap.size w w' := by
  have nz' : ¬ (yl = 0 ∧ yh = 0) := by simpa using nz
  have d3 : decide (xh < xl) = false := by simp; omega
  have d4 : decide (yh < yl) = false := by simp; omega
  go_enter Try.func12, Try.ntmps12
  go_upto_region 10 with (first | (go_at_call 37; ((first | (with_reducible refine (Calls.extq (rempty_any _ _ _)).mono ?_) | (refine (Calls.ext (rempty_any _ _ _)).mono ?_)); rintro e _ ⟨rfl, y, rfl⟩)) | (go_at_call 39; ((first | (with_reducible refine (Calls.extq (rsingle_any _ _ _)).mono ?_) | (refine (Calls.ext (rsingle_any _ _ _)).mono ?_)); rintro e _ ⟨rfl, y, rfl⟩)))
  obtain ⟨V, hV, D⟩ := rdiv_base xl xh yl yh w y
  rw [hV]
  clear hV
  obtain ⟨kB, s1, s2, s3, c1, c2, c3, c4, c5, c6, f5, f6⟩ := D
  go_cut [9] (fun s wx => s = .bool (apartB xl xh yl yh) ∧ wx = V)
  case first =>
    by_cases ha : xh < yl
    · have HA := Lib.hid (show apartB xl xh yl yh = true by simp [apartB, ha])
      have da := decide_eq_true ha
      go_wp2_with fail
      go_meet
      exact ⟨by rw [HA.out], rfl⟩
    · have HA := Lib.hid (show apartB xl xh yl yh = decide (yh < xl) by simp [apartB, ha])
      have da := decide_eq_false ha
      go_wp2_with fail
      go_meet
      exact ⟨by rw [HA.out], rfl⟩
  case rest =>
    obtain ⟨rfl, hwc⟩ := hcut
    rw [hwc]
    clear hwc
    have e2 := eq_rv
    go_wp2_with fail
    refine (Calls.ext (rrem_any _ _ _ _ _ hx1 hx2 hx3 hx4 hy1 hy2 hy3 hy4 hye nz')).mono ?_
    rintro e _ ⟨rfl, y4, rfl⟩
    obtain ⟨y5, hm⟩ := ext_alloc y4
    rw [hm]
    clear hm y4
    go_wp2
    all_goals
      refine bodyPost_ret (v := .agg #[.int .i32 (modI (xl, xh) (yl, yh)).1, .int .i32 (modI (xl, xh) (yl, yh)).2]) ?hr rfl ⟨rfl, ?bel⟩
      case hr =>
        simp [results, Try.results12, go_sem, c5, c6, s3]
      case bel =>
        exact Below.setCell (Below.setCell (Ext.below kB (by omega) y5) (by simp; omega) _) (by simp; omega) _


set_option maxRecDepth 100000 in
set_option maxHeartbeats 2000000 in
theorem rap_10_s (xl xh yl yh : Int) (w : World) (hx1 : -2147483648 ≤ xl) (hx2 : xl ≤ 2147483647) (hx3 : -2147483648 ≤ xh) (hx4 : xh ≤ 2147483647) (hy1 : -2147483648 ≤ yl) (hy2 : yl ≤ 2147483647) (hy3 : -2147483648 ≤ yh) (hy4 : yh ≤ 2147483647) (hxe : xl ≤ xh) (hye : yl ≤ yh) (hs : (xl == xh) = true) (hs' : (yl == yh) = false) (nz : (yl == 0 && yh == 0) = false) :
    Calls Try.prog 12 #[.int .u8 10, .agg #[.int .i32 xl, .int .i32 xh], .agg #[.int .i32 yl, .int .i32 yh]] w fun e w' => e = .returned (.agg #[.int .i32 (modI (xl, xh) (yl, yh)).1, .int .i32 (modI (xl, xh) (yl, yh)).2]) ∧ Below w.heap.size w w' := by
  have nz' : ¬ (yl = 0 ∧ yh = 0) := by simpa using nz
  have d3 : decide (xh < xl) = false := by simp; omega
  have d4 : decide (yh < yl) = false := by simp; omega
  go_enter Try.func12, Try.ntmps12
  go_upto_region 10 with (first | (go_at_call 37; ((first | (with_reducible refine (Calls.extq (rempty_any _ _ _)).mono ?_) | (refine (Calls.ext (rempty_any _ _ _)).mono ?_)); rintro e _ ⟨rfl, y, rfl⟩)) | (go_at_call 39; ((first | (with_reducible refine (Calls.extq (rsingle_any _ _ _)).mono ?_) | (refine (Calls.ext (rsingle_any _ _ _)).mono ?_)); rintro e _ ⟨rfl, y, rfl⟩)))
  obtain ⟨V, hV, D⟩ := rdiv_base xl xh yl yh w y
  rw [hV]
  clear hV
  obtain ⟨kB, s1, s2, s3, c1, c2, c3, c4, c5, c6, f5, f6⟩ := D
  go_cut [9] (fun s wx => s = .bool (apartB xl xh yl yh) ∧ wx = V)
  case first =>
    by_cases ha : xh < yl
    · have HA := Lib.hid (show apartB xl xh yl yh = true by simp [apartB, ha])
      have da := decide_eq_true ha
      go_wp2_with fail
      go_meet
      exact ⟨by rw [HA.out], rfl⟩
    · have HA := Lib.hid (show apartB xl xh yl yh = decide (yh < xl) by simp [apartB, ha])
      have da := decide_eq_false ha
      go_wp2_with fail
      go_meet
      exact ⟨by rw [HA.out], rfl⟩
  case rest =>
    obtain ⟨rfl, hwc⟩ := hcut
    rw [hwc]
    clear hwc
    have e2 := eq_rv
    go_wp2_with fail
    refine (Calls.ext (rrem_any _ _ _ _ _ hx1 hx2 hx3 hx4 hy1 hy2 hy3 hy4 hye nz')).mono ?_
    rintro e _ ⟨rfl, y4, rfl⟩
    obtain ⟨y5, hm⟩ := ext_alloc y4
    rw [hm]
    clear hm y4
    go_wp2
    all_goals
      refine bodyPost_ret (v := .agg #[.int .i32 (modI (xl, xh) (yl, yh)).1, .int .i32 (modI (xl, xh) (yl, yh)).2]) ?hr rfl ⟨rfl, ?bel⟩
      case hr =>
        simp [results, Try.results12, go_sem, c5, c6, s3]
      case bel =>
        exact Below.setCell (Below.setCell (Ext.below kB (by omega) y5) (by simp; omega) _) (by simp; omega) _


set_option maxRecDepth 100000 in
set_option maxHeartbeats 2000000 in
theorem rap_9z_n (xl xh yl yh : Int) (w : World) (hx1 : -2147483648 ≤ xl) (hx2 : xl ≤ 2147483647) (hx3 : -2147483648 ≤ xh) (hx4 : xh ≤ 2147483647) (hy1 : -2147483648 ≤ yl) (hy2 : yl ≤ 2147483647) (hy3 : -2147483648 ≤ yh) (hy4 : yh ≤ 2147483647) (hxe : xl ≤ xh) (hye : yl ≤ yh) (hs : (xl == xh) = false) (nz : (yl == 0 && yh == 0) = true) :
    Calls Try.prog 12 #[.int .u8 9, .agg #[.int .i32 xl, .int .i32 xh], .agg #[.int .i32 yl, .int .i32 yh]] w fun e w' => e = .returned (.agg #[.int .i32 1, .int .i32 0]) ∧ Below w.heap.size w w' := by
  have d3 : decide (xh < xl) = false := by simp; omega
  have d4 : decide (yh < yl) = false := by simp; omega
  go_enter Try.func12, Try.ntmps12
  go_upto_region 10 with (first | (go_at_call 37; ((first | (with_reducible refine (Calls.extq (rempty_any _ _ _)).mono ?_) | (refine (Calls.ext (rempty_any _ _ _)).mono ?_)); rintro e _ ⟨rfl, y, rfl⟩)) | (go_at_call 39; ((first | (with_reducible refine (Calls.extq (rsingle_any _ _ _)).mono ?_) | (refine (Calls.ext (rsingle_any _ _ _)).mono ?_)); rintro e _ ⟨rfl, y, rfl⟩)))
  obtain ⟨V, hV, D⟩ := rdiv_base xl xh yl yh w y
  rw [hV]
  clear hV
  obtain ⟨kB, s1, s2, s3, c1, c2, c3, c4, c5, c6, f5, f6⟩ := D
  go_cut [9] (fun s wx => s = .bool (apartB xl xh yl yh) ∧ wx = V)
  case first =>
    by_cases ha : xh < yl
    · have HA := Lib.hid (show apartB xl xh yl yh = true by simp [apartB, ha])
      have da := decide_eq_true ha
      go_wp2_with fail
      go_meet
      exact ⟨by rw [HA.out], rfl⟩
    · have HA := Lib.hid (show apartB xl xh yl yh = decide (yh < xl) by simp [apartB, ha])
      have da := decide_eq_false ha
      go_wp2_with fail
      go_meet
      exact ⟨by rw [HA.out], rfl⟩
  case rest =>
    obtain ⟨rfl, hwc⟩ := hcut
    rw [hwc]
    clear hwc
    have e2 := eq_rv
    go_wp2_with fail
    refine (Calls.ext (rempty0_any _)).mono ?_
    rintro e _ ⟨rfl, y4, rfl⟩
    obtain ⟨y5, hm⟩ := ext_alloc y4
    rw [hm]
    clear hm y4
    go_wp2
    all_goals
      refine bodyPost_ret (v := .agg #[.int .i32 1, .int .i32 0]) ?hr rfl ⟨rfl, ?bel⟩
      case hr =>
        simp [results, Try.results12, go_sem, c5, c6, s3]
      case bel =>
        exact Below.setCell (Below.setCell (Ext.below kB (by omega) y5) (by simp; omega) _) (by simp; omega) _


set_option maxRecDepth 100000 in
set_option maxHeartbeats 2000000 in
theorem rap_9z_s (xl xh yl yh : Int) (w : World) (hx1 : -2147483648 ≤ xl) (hx2 : xl ≤ 2147483647) (hx3 : -2147483648 ≤ xh) (hx4 : xh ≤ 2147483647) (hy1 : -2147483648 ≤ yl) (hy2 : yl ≤ 2147483647) (hy3 : -2147483648 ≤ yh) (hy4 : yh ≤ 2147483647) (hxe : xl ≤ xh) (hye : yl ≤ yh) (hs : (xl == xh) = true) (hs' : (yl == yh) = false) (nz : (yl == 0 && yh == 0) = true) :
    Calls Try.prog 12 #[.int .u8 9, .agg #[.int .i32 xl, .int .i32 xh], .agg #[.int .i32 yl, .int .i32 yh]] w fun e w' => e = .returned (.agg #[.int .i32 1, .int .i32 0]) ∧ Below w.heap.size w w' := by
  have d3 : decide (xh < xl) = false := by simp; omega
  have d4 : decide (yh < yl) = false := by simp; omega
  go_enter Try.func12, Try.ntmps12
  go_upto_region 10 with (first | (go_at_call 37; ((first | (with_reducible refine (Calls.extq (rempty_any _ _ _)).mono ?_) | (refine (Calls.ext (rempty_any _ _ _)).mono ?_)); rintro e _ ⟨rfl, y, rfl⟩)) | (go_at_call 39; ((first | (with_reducible refine (Calls.extq (rsingle_any _ _ _)).mono ?_) | (refine (Calls.ext (rsingle_any _ _ _)).mono ?_)); rintro e _ ⟨rfl, y, rfl⟩)))
  obtain ⟨V, hV, D⟩ := rdiv_base xl xh yl yh w y
  rw [hV]
  clear hV
  obtain ⟨kB, s1, s2, s3, c1, c2, c3, c4, c5, c6, f5, f6⟩ := D
  go_cut [9] (fun s wx => s = .bool (apartB xl xh yl yh) ∧ wx = V)
  case first =>
    by_cases ha : xh < yl
    · have HA := Lib.hid (show apartB xl xh yl yh = true by simp [apartB, ha])
      have da := decide_eq_true ha
      go_wp2_with fail
      go_meet
      exact ⟨by rw [HA.out], rfl⟩
    · have HA := Lib.hid (show apartB xl xh yl yh = decide (yh < xl) by simp [apartB, ha])
      have da := decide_eq_false ha
      go_wp2_with fail
      go_meet
      exact ⟨by rw [HA.out], rfl⟩
  case rest =>
    obtain ⟨rfl, hwc⟩ := hcut
    rw [hwc]
    clear hwc
    have e2 := eq_rv
    go_wp2_with fail
    refine (Calls.ext (rempty0_any _)).mono ?_
    rintro e _ ⟨rfl, y4, rfl⟩
    obtain ⟨y5, hm⟩ := ext_alloc y4
    rw [hm]
    clear hm y4
    go_wp2
    all_goals
      refine bodyPost_ret (v := .agg #[.int .i32 1, .int .i32 0]) ?hr rfl ⟨rfl, ?bel⟩
      case hr =>
        simp [results, Try.results12, go_sem, c5, c6, s3]
      case bel =>
        exact Below.setCell (Below.setCell (Ext.below kB (by omega) y5) (by simp; omega) _) (by simp; omega) _


set_option maxRecDepth 100000 in
set_option maxHeartbeats 2000000 in
theorem rap_10z_n (xl xh yl yh : Int) (w : World) (hx1 : -2147483648 ≤ xl) (hx2 : xl ≤ 2147483647) (hx3 : -2147483648 ≤ xh) (hx4 : xh ≤ 2147483647) (hy1 : -2147483648 ≤ yl) (hy2 : yl ≤ 2147483647) (hy3 : -2147483648 ≤ yh) (hy4 : yh ≤ 2147483647) (hxe : xl ≤ xh) (hye : yl ≤ yh) (hs : (xl == xh) = false) (nz : (yl == 0 && yh == 0) = true) :
    Calls Try.prog 12 #[.int .u8 10, .agg #[.int .i32 xl, .int .i32 xh], .agg #[.int .i32 yl, .int .i32 yh]] w fun e w' => e = .returned (.agg #[.int .i32 1, .int .i32 0]) ∧ Below w.heap.size w w' := by
  have d3 : decide (xh < xl) = false := by simp; omega
  have d4 : decide (yh < yl) = false := by simp; omega
  go_enter Try.func12, Try.ntmps12
  go_upto_region 10 with (first | (go_at_call 37; ((first | (with_reducible refine (Calls.extq (rempty_any _ _ _)).mono ?_) | (refine (Calls.ext (rempty_any _ _ _)).mono ?_)); rintro e _ ⟨rfl, y, rfl⟩)) | (go_at_call 39; ((first | (with_reducible refine (Calls.extq (rsingle_any _ _ _)).mono ?_) | (refine (Calls.ext (rsingle_any _ _ _)).mono ?_)); rintro e _ ⟨rfl, y, rfl⟩)))
  obtain ⟨V, hV, D⟩ := rdiv_base xl xh yl yh w y
  rw [hV]
  clear hV
  obtain ⟨kB, s1, s2, s3, c1, c2, c3, c4, c5, c6, f5, f6⟩ := D
  go_cut [9] (fun s wx => s = .bool (apartB xl xh yl yh) ∧ wx = V)
  case first =>
    by_cases ha : xh < yl
    · have HA := Lib.hid (show apartB xl xh yl yh = true by simp [apartB, ha])
      have da := decide_eq_true ha
      go_wp2_with fail
      go_meet
      exact ⟨by rw [HA.out], rfl⟩
    · have HA := Lib.hid (show apartB xl xh yl yh = decide (yh < xl) by simp [apartB, ha])
      have da := decide_eq_false ha
      go_wp2_with fail
      go_meet
      exact ⟨by rw [HA.out], rfl⟩
  case rest =>
    obtain ⟨rfl, hwc⟩ := hcut
    rw [hwc]
    clear hwc
    have e2 := eq_rv
    go_wp2_with fail
    refine (Calls.ext (rempty0_any _)).mono ?_
    rintro e _ ⟨rfl, y4, rfl⟩
    obtain ⟨y5, hm⟩ := ext_alloc y4
    rw [hm]
    clear hm y4
    go_wp2
    all_goals
      refine bodyPost_ret (v := .agg #[.int .i32 1, .int .i32 0]) ?hr rfl ⟨rfl, ?bel⟩
      case hr =>
        simp [results, Try.results12, go_sem, c5, c6, s3]
      case bel =>
        exact Below.setCell (Below.setCell (Ext.below kB (by omega) y5) (by simp; omega) _) (by simp; omega) _


set_option maxRecDepth 100000 in
set_option maxHeartbeats 2000000 in
theorem rap_10z_s (xl xh yl yh : Int) (w : World) (hx1 : -2147483648 ≤ xl) (hx2 : xl ≤ 2147483647) (hx3 : -2147483648 ≤ xh) (hx4 : xh ≤ 2147483647) (hy1 : -2147483648 ≤ yl) (hy2 : yl ≤ 2147483647) (hy3 : -2147483648 ≤ yh) (hy4 : yh ≤ 2147483647) (hxe : xl ≤ xh) (hye : yl ≤ yh) (hs : (xl == xh) = true) (hs' : (yl == yh) = false) (nz : (yl == 0 && yh == 0) = true) :
    Calls Try.prog 12 #[.int .u8 10, .agg #[.int .i32 xl, .int .i32 xh], .agg #[.int .i32 yl, .int .i32 yh]] w fun e w' => e = .returned (.agg #[.int .i32 1, .int .i32 0]) ∧ Below w.heap.size w w' := by
  have d3 : decide (xh < xl) = false := by simp; omega
  have d4 : decide (yh < yl) = false := by simp; omega
  go_enter Try.func12, Try.ntmps12
  go_upto_region 10 with (first | (go_at_call 37; ((first | (with_reducible refine (Calls.extq (rempty_any _ _ _)).mono ?_) | (refine (Calls.ext (rempty_any _ _ _)).mono ?_)); rintro e _ ⟨rfl, y, rfl⟩)) | (go_at_call 39; ((first | (with_reducible refine (Calls.extq (rsingle_any _ _ _)).mono ?_) | (refine (Calls.ext (rsingle_any _ _ _)).mono ?_)); rintro e _ ⟨rfl, y, rfl⟩)))
  obtain ⟨V, hV, D⟩ := rdiv_base xl xh yl yh w y
  rw [hV]
  clear hV
  obtain ⟨kB, s1, s2, s3, c1, c2, c3, c4, c5, c6, f5, f6⟩ := D
  go_cut [9] (fun s wx => s = .bool (apartB xl xh yl yh) ∧ wx = V)
  case first =>
    by_cases ha : xh < yl
    · have HA := Lib.hid (show apartB xl xh yl yh = true by simp [apartB, ha])
      have da := decide_eq_true ha
      go_wp2_with fail
      go_meet
      exact ⟨by rw [HA.out], rfl⟩
    · have HA := Lib.hid (show apartB xl xh yl yh = decide (yh < xl) by simp [apartB, ha])
      have da := decide_eq_false ha
      go_wp2_with fail
      go_meet
      exact ⟨by rw [HA.out], rfl⟩
  case rest =>
    obtain ⟨rfl, hwc⟩ := hcut
    rw [hwc]
    clear hwc
    have e2 := eq_rv
    go_wp2_with fail
    refine (Calls.ext (rempty0_any _)).mono ?_
    rintro e _ ⟨rfl, y4, rfl⟩
    obtain ⟨y5, hm⟩ := ext_alloc y4
    rw [hm]
    clear hm y4
    go_wp2
    all_goals
      refine bodyPost_ret (v := .agg #[.int .i32 1, .int .i32 0]) ?hr rfl ⟨rfl, ?bel⟩
      case hr =>
        simp [results, Try.results12, go_sem, c5, c6, s3]
      case bel =>
        exact Below.setCell (Below.setCell (Ext.below kB (by omega) y5) (by simp; omega) _) (by simp; omega) _


end Go.Proofs.Ytjkjcnamlankoaa
