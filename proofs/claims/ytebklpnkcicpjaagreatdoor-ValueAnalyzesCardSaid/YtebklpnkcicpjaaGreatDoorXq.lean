/-
  What is proved here: parts vRapA.
-/
import Derived.Test.YtebklpnkcicpjaaGreatDoorXa
import Derived.Test.YtebklpnkcicpjaaGreatDoorXp
import Derived.Deep.DeepCutAuto
namespace Go.Proofs.YtebklpnkcicpjaaGreatDoor
set_option linter.unusedVariables false
set_option linter.unusedSimpArgs false
set_option maxRecDepth 100000
set_option maxHeartbeats 8000000
section
open Go.RowKit
theorem Bv (d : Nat) (a b c e : Int) (w : World) : (Op.equalIn (d + 1 + 1) 58 (.agg #[.int .i32 a, .int .i32 b]) (.agg #[.int .i32 c, .int .i32 e])).run Tryz.prog w = .ok (a == c && b == e) w := by
 rw [Op.equalIn]
 simp [run_underlying Tryz.underlying58, ox d Tryz.underlying21, Li, Lh, Sem.run_bind]
 by_cases h1 : a = c <;> by_cases h2 : b = e <;> simp [h1, h2]
theorem Bt (a b c d : Int) (w : World) : (binOp .eql 58 (.agg #[.int .i32 a, .int .i32 b]) (.agg #[.int .i32 c, .int .i32 d])).run Tryz.prog w = .ok (.bool (a == c && b == d)) w := by
 simp only [binOp]
 simp [Op.equal, Op.maxDepth, Bv 9998]
def bJ (xl xh yl yh : Int) : Bool := decide (xh < yl) || decide (yh < xl)
theorem EJ (xl xh yl yh : Int) (hx : xl ≤ xh) (hy : yl ≤ yh) : bJ xl xh yl yh = emp (aJ (xl, xh) (yl, yh)) := by
 unfold bJ
 rcases mS (xl, xh) (yl, yh) with ⟨c, e⟩ | ⟨c1, c2, c3, e⟩
 ·rw [e, Bool.eq_iff_iff]; simp only at c; simp [emp]; omega
 ·rw [e, Bool.eq_iff_iff]; simp only at c1 c2 c3; simp only [emp, Bool.or_eq_true, decide_eq_true_eq]; omega
theorem JF (op xl xh yl yh : Int) (d1 : Bool) (w : World) (hd : (decide (op < 6) = true ∧ d1 = true) ∨ (decide (op < 6) = false ∧ decide (23 < op) = true ∧ d1 = true)) :
  Calls Tryz.prog 43 #[.int .u8 op, .agg #[.int .i32 xl, .int .i32 xh], .agg #[.int .i32 yl, .int .i32 yh]] w fun e w' => e = .returned (.agg #[.int .i32 (-2147483648), .int .i32 2147483647]) ∧ Below w.heap.size w w' := by
 rcases hd with ⟨h1, rfl⟩ | ⟨h1, h2, rfl⟩
 all_goals
  go_enter Tryz.func43, Tryz.ntmps43
  go_wp2_with (go_at_call 46; ((first | (with_reducible refine (Calls.ay (cu _)).mono ?_) | (refine (Calls.ext (cu _)).mono ?_)); rintro e _ ⟨rfl, y, rfl⟩))
  refine bodyPost_ret (v := .agg #[.int .i32 (-2147483648), .int .i32 2147483647]) ?hr rfl ⟨rfl, ?aF⟩
  case hr =>
   simp [results, Tryz.results43, go_sem]
  case aF =>
   exact acB
theorem JH (op xl xh yl yh : Int) (d : Bool) (w : World) (h1 : 6 ≤ op) (h2 : op ≤ 23) (hd : (decide (xh < xl) = true ∧ d = true) ∨ (decide (xh < xl) = false ∧ decide (yh < yl) = true ∧ d = true)) :
  Calls Tryz.prog 43 #[.int .u8 op, .agg #[.int .i32 xl, .int .i32 xh], .agg #[.int .i32 yl, .int .i32 yh]] w fun e w' => e = .returned (.agg #[.int .i32 1, .int .i32 0]) ∧ Below w.heap.size w w' := by
 have d1 : decide (op < 6) = false := by simp; omega
 have d2 : decide (23 < op) = false := by simp; omega
 rcases hd with ⟨h1, rfl⟩ | ⟨h1, h2, rfl⟩
 all_goals
  go_enter Tryz.func43, Tryz.ntmps43
  go_wp2_with (first | (go_at_call 83; ((first | (with_reducible refine (Calls.ay (bP _ _ _)).mono ?_) | (refine (Calls.ext (bP _ _ _)).mono ?_)); rintro e _ ⟨rfl, y, rfl⟩)) | (go_at_call 51; ((first | (with_reducible refine (Calls.ay (fJ _)).mono ?_) | (refine (Calls.ext (fJ _)).mono ?_)); rintro e _ ⟨rfl, y, rfl⟩)))
  refine bodyPost_ret (v := .agg #[.int .i32 1, .int .i32 0]) ?hr rfl ⟨rfl, ?aF⟩
  case hr =>
   simp [results, Tryz.results43, go_sem]
  case aF =>
   exact acB
theorem rB (op n m zl zh : Int) (w : World) (h1 : 6 ≤ op) (h2 : op ≤ 23) (hn : aP n) (hm : aP m) (hd : ((we op m != 0) = false ∧ zl = wv op n m ∧ zh = wv op n m) ∨ ((we op m != 0) = true ∧ zl = 1 ∧ zh = 0)) :
  Calls Tryz.prog 43 #[.int .u8 op, .agg #[.int .i32 n, .int .i32 n], .agg #[.int .i32 m, .int .i32 m]] w fun e w' => e = .returned (.agg #[.int .i32 zl, .int .i32 zh]) ∧ Below w.heap.size w w' := by
 have d1 : decide (op < 6) = false := by simp; omega
 have d2 : decide (23 < op) = false := by simp; omega
 have d3 : decide (n < n) = false := by simp
 have d4 : decide (m < m) = false := by simp
 have d5 : (n == n) = true := by simp
 have d6 : (m == m) = true := by simp
 rcases hd with ⟨we0, rfl, rfl⟩ | ⟨we0, rfl, rfl⟩
 all_goals
  obtain ⟨q, hq⟩ : ∃ q, (we op m == 0) = q := ⟨_, rfl⟩
  have hq2 : q = !(we op m != 0) := by rw [← hq]; simp [bne]
  rw [we0] at hq2
  subst hq2
  go_enter Tryz.func43, Tryz.ntmps43
  go_wp2_with (first | (go_at_call 83; ((first | (with_reducible refine (Calls.ay (bP _ _ _)).mono ?_) | (refine (Calls.ext (bP _ _ _)).mono ?_)); rintro e _ ⟨rfl, y, rfl⟩)) | (go_at_call 84; ((first | (with_reducible refine (Calls.ay (aY _ _ _)).mono ?_) | (refine (Calls.ext (aY _ _ _)).mono ?_)); rintro e _ ⟨rfl, y, rfl⟩)) | (go_at_call 51; ((first | (with_reducible refine (Calls.ay (fJ _)).mono ?_) | (refine (Calls.ext (fJ _)).mono ?_)); rintro e _ ⟨rfl, y, rfl⟩)) | (go_at_call 85; refine (Calls.cV (mP _ _ _ _ hn hm)).mono ?_; rintro e _ ⟨rfl, y, rfl⟩))
  refine bodyPost_ret (v := _) ?hr rfl ⟨rfl, ?aF⟩
  case hr =>
   simp [results, Tryz.results43, go_sem]
  case aF =>
   exact acB
theorem qT (w V : World) (xl xh yl yh : Int) (D : Iy w V xl xh yl yh) : ∃ (W : World) (g : Nat), V.alloc (Obj.cells #[Value.int IntKind.i32 0, Value.int IntKind.i32 0] 58) = W ∧ V.heap.size = g ∧ Below w.heap.size w W ∧ w.heap.size < W.heap.size ∧ w.heap.size + 1 < W.heap.size ∧ w.heap.size + 1 + 1 < W.heap.size ∧ g < W.heap.size ∧
  W.cell? ⟨w.heap.size, 0, none⟩ = some (.int .i32 xl) ∧ W.cell? ⟨w.heap.size, 1, none⟩ = some (.int .i32 xh) ∧ W.cell? ⟨w.heap.size + 1, 0, none⟩ = some (.int .i32 yl) ∧ W.cell? ⟨w.heap.size + 1, 1, none⟩ = some (.int .i32 yh) ∧ W.cell? ⟨w.heap.size + 1 + 1, 0, none⟩ = some (.int .i32 0) ∧ W.cell? ⟨w.heap.size + 1 + 1, 1, none⟩ = some (.int .i32 0) ∧ W.cell? ⟨g, 0, none⟩ = some (.int .i32 0) ∧ W.cell? ⟨g, 1, none⟩ = some (.int .i32 0) ∧ W.frozen? ⟨w.heap.size + 1 + 1, 0, none⟩ = false ∧ W.frozen? ⟨w.heap.size + 1 + 1, 1, none⟩ = false := by
 obtain ⟨kB, s1, s2, s3, c1, c2, c3, c4, c5, c6, f5, f6⟩ := D
 refine ⟨_, _, rfl, rfl, Below.alloc kB abo _, by rw [World.size_alloc]; omega, by rw [World.size_alloc]; omega, by rw [World.size_alloc]; omega, by rw [World.size_alloc]; omega, ?_, ?_, ?_, ?_, ?_, ?_, ?_, ?_, ?_, ?_⟩
 all_goals (go_simp; done)
theorem rC (op xl xh yl yh p q r s : Int) (w : World) (hop : op = 6 ∨ op = 7 ∨ op = 8) (hx1 : -2147483648 ≤ xl) (hx2 : xl ≤ 2147483647) (hx3 : -2147483648 ≤ xh) (hx4 : xh ≤ 2147483647) (hy1 : -2147483648 ≤ yl) (hy2 : yl ≤ 2147483647) (hy3 : -2147483648 ≤ yh) (hy4 : yh ≤ 2147483647) (gY : xl ≤ xh) (gL : yl ≤ yh) (hs : (xl == xh) = false ∨ ((xl == xh) = true ∧ (yl == yh) = false)) (HC : Hid (∀ W, Calls Tryz.prog 87 #[.int .u8 op, .agg #[.int .i32 xl, .int .i32 xh], .agg #[.int .i32 yl, .int .i32 yh]] W (mA [p, q, r, s] W))) :
  Calls Tryz.prog 43 #[.int .u8 op, .agg #[.int .i32 xl, .int .i32 xh], .agg #[.int .i32 yl, .int .i32 yh]] w fun e w' => e = .returned (.agg #[.int .i32 (aD [p, q, r, s]).1, .int .i32 (aD [p, q, r, s]).2]) ∧ Below w.heap.size w w' := by
 have d3 : decide (xh < xl) = false := by simp; omega
 have d4 : decide (yh < yl) = false := by simp; omega
 rcases hop with rfl | rfl | rfl <;> rcases hs with hs | ⟨hs, hs'⟩
 all_goals
  go_enter Tryz.func43, Tryz.ntmps43
  go_upto_region 10 with (first | (go_at_call 83; ((first | (with_reducible refine (Calls.ay (bP _ _ _)).mono ?_) | (refine (Calls.ext (bP _ _ _)).mono ?_)); rintro e _ ⟨rfl, y, rfl⟩)) | (go_at_call 84; ((first | (with_reducible refine (Calls.ay (aY _ _ _)).mono ?_) | (refine (Calls.ext (aY _ _ _)).mono ?_)); rintro e _ ⟨rfl, y, rfl⟩)))
  obtain ⟨V, hV, D⟩ := dR xl xh yl yh w y
  rw [hV]
  clear hV
  obtain ⟨kB, s1, s2, s3, c1, c2, c3, c4, c5, c6, f5, f6⟩ := D
  go_cut [9] (fun s wx => s = .bool (bJ xl xh yl yh) ∧ wx = V)
  case first =>
   by_cases ha : xh < yl
   ·have HA := acD (show bJ xl xh yl yh = true by simp [bJ, ha])
    have da := decide_eq_true ha
    go_wp2_with fail
    go_meet
    exact ⟨by rw [HA.out], rfl⟩
   ·have HA := acD (show bJ xl xh yl yh = decide (yh < xl) by simp [bJ, ha])
    have da := decide_eq_false ha
    go_wp2_with fail
    go_meet
    exact ⟨by rw [HA.out], rfl⟩
  case rest =>
   obtain ⟨rfl, hwc⟩ := hcut
   rw [hwc]
   clear hwc
   as_aux_lemma =>
    go_wp2_with fail
    refine (HC.out _).mono ?_
    rintro e W2 ⟨g, cap, rfl, hge, hg, hc, hb⟩
    go_wp2_with fail
    refine (Calls.ext (jv g cap [p, q, r, s] _ aby aby hg hc)).mono ?_
    rintro e _ ⟨rfl, y4, rfl⟩
    obtain ⟨y5, hm⟩ : ∃ y5 : Ext V, y4.w = y5.w := ⟨⟨y4.w, ((Below.alloc (Below.refl V.heap.size V) (Nat.le_refl _) _).trans (hb.mono abD)).trans (y4.h.mono (by have := hb.size; rw [World.size_alloc] at this; omega))⟩, rfl⟩
    rw [hm]
    clear hm y4 hc hg hge hb
    go_wp2
    all_goals
     refine bodyPost_ret (v := .agg #[.int .i32 (aD [p, q, r, s]).1, .int .i32 (aD [p, q, r, s]).2]) ?hr rfl ⟨rfl, ?aF⟩
     case hr =>
      simp [results, Tryz.results43, go_sem, c5, c6, s3]
     case aF =>
      exact Below.setCell (Below.setCell (Ext.below kB abo y5) abA _) abA _
end
end Go.Proofs.YtebklpnkcicpjaaGreatDoor
