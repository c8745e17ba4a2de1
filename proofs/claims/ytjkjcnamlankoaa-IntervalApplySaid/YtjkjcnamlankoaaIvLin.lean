/-
  What is proved here: what linear returns (sums, differences, products: the hull of the corners).
-/
import Derived.Test.YtjkjcnamlankoaaIvHull
namespace Go.Proofs.Ytjkjcnamlankoaa
open Go.RowKit

theorem info2 : (Try.prog.info? 2).map (fun i => (i.zero, i.size, i.bytes)) = some (some (.int .i64 0), 1, 8) := by kernel_rfl
theorem ix0 (a b : Value) (w : World) : (Instr.index 61 (.agg #[a, b]) (.int .i64 0)).run Try.prog w = .ok a w := by kernel_rfl
theorem ix1 (a b : Value) (w : World) : (Instr.index 61 (.agg #[a, b]) (.int .i64 1)).run Try.prog w = .ok b w := by kernel_rfl

theorem Ext.base_le {W0 : World} (y : Ext W0) (o : Obj) : W0.heap.size ≤ (y.w.alloc o).heap.size := Nat.le_trans y.h.size (by simp)

theorem mul_word {x y : Int} (h1 : -2147483648 ≤ x) (h2 : x ≤ 2147483647) (h3 : -2147483648 ≤ y) (h4 : y ≤ 2147483647) : -4611686018427387904 ≤ x * y ∧ x * y ≤ 4611686018427387904 := by
  have hn : (x * y).natAbs ≤ 2147483648 * 2147483648 := by
    rw [Int.natAbs_mul]
    exact Nat.mul_le_mul (by omega) (by omega)
  omega

theorem own_ints {w : World} {B cap0 : Nat} {v : Value} {l : List Int} (hcap : cap0 = l.length) (h : w.ownsRow B 2 1 v cap0 (l.map (Value.int .i64))) (hl : 1 ≤ l.length) :
    ∃ g cap, v = .slice (some ⟨g, 0, none⟩) l.length cap ∧ g < w.heap.size ∧ ∀ i, i < l.length → w.cell? ⟨g, i, none⟩ = some (.int .i64 (nth l i)) := by
  subst hcap
  rcases h.2 with ⟨_, h0⟩ | ⟨g, cap, cur, hv, _, hg, hn, _, hsz, ht⟩
  · omega
  · refine ⟨g, cap, hv, ?_, fun i hi => ?_⟩
    · rcases Nat.lt_or_ge g w.heap.size with h' | h'
      · exact h'
      · rw [Array.getElem?_eq_none h'] at hg; cases hg
    · rw [Nat.mul_one] at ht
      have e : cur.toList[i]? = some (.int .i64 (nth l i)) := by
        have := congrArg (fun x => x[i]?) ht
        simp only [List.getElem?_take, hi, if_true] at this
        rw [this]
        simp [nth, List.getD, hi]
      simp [World.cell?, hg]
      simpa using e

theorem ext_grown {W0 : World} (y : Ext W0) {o : Obj} {w' : World} {e : TypeId} {size n : Nat} {v : Value} {xs : List Value} (hown : y.w.ownsRow W0.heap.size e size v n xs) (hg : (y.w.alloc o).grownBy w' v.ownBlock) : ∃ y' : Ext W0, y'.w = w' := by
  refine ⟨⟨w', (y.h.alloc y.h.size o).grown hg ?_ ?_⟩, rfl⟩
  · have := y.h.size; simp <;> omega
  · intro k hk
    rcases hown.2 with ⟨rfl, _⟩ | ⟨g, cap, cur, rfl, hb, _⟩
    · cases hk
    · cases hk; exact hb

set_option maxHeartbeats 2000000 in
theorem linear_6 (xl xh yl yh : Int) (w : World) (hx1 : -2147483648 ≤ xl) (hx2 : xl ≤ 2147483647) (hx3 : -2147483648 ≤ xh) (hx4 : xh ≤ 2147483647) (hy1 : -2147483648 ≤ yl) (hy2 : yl ≤ 2147483647) (hy3 : -2147483648 ≤ yh) (hy4 : yh ≤ 2147483647) :
    Calls Try.prog 29 #[.int .u8 6, .agg #[.int .i32 xl, .int .i32 xh], .agg #[.int .i32 yl, .int .i32 yh]] w fun e w' => e = .returned (.agg #[.int .i32 (hullL [xl + yl, xl + yh, xh + yl, xh + yh]).1, .int .i32 (hullL [xl + yl, xl + yh, xh + yl, xh + yh]).2]) ∧ Below w.heap.size w w' := by
  obtain ⟨i0, hi, hz0, hz1, hz2⟩ := info_parts info2
  have i0f := ix0
  have i1f := ix1
  go_enter Try.func29, Try.ntmps29
  go_wp2_with fail
  obtain ⟨y0, hy0⟩ : ∃ y0 : Ext (((w.alloc (Obj.cells #[Value.int IntKind.i32 xl, Value.int IntKind.i32 xh] 23)).alloc (Obj.cells #[Value.int IntKind.i32 yl, Value.int IntKind.i32 yh] 23)).alloc (Obj.cells #[Value.int IntKind.i32 0, Value.int IntKind.i32 0] 23)), (((w.alloc (Obj.cells #[Value.int IntKind.i32 xl, Value.int IntKind.i32 xh] 23)).alloc (Obj.cells #[Value.int IntKind.i32 yl, Value.int IntKind.i32 yh] 23)).alloc (Obj.cells #[Value.int IntKind.i32 0, Value.int IntKind.i32 0] 23)) = y0.w := ⟨⟨_, Below.refl _ _⟩, rfl⟩
  have hown0 : y0.w.ownsRow (World.heap (((w.alloc (Obj.cells #[Value.int IntKind.i32 xl, Value.int IntKind.i32 xh] 23)).alloc (Obj.cells #[Value.int IntKind.i32 yl, Value.int IntKind.i32 yh] 23)).alloc (Obj.cells #[Value.int IntKind.i32 0, Value.int IntKind.i32 0] 23))).size 2 1 (.slice none 0 0) 0 [] := ⟨rfl, .inl ⟨rfl, rfl⟩⟩
  rw [hy0]
  clear hy0
  refine wp_loop_rounds 3 ?_
  rw [rounds_succ]
  go_wp2_with fail
  refine wp_loop_rounds 3 ?_
  rw [rounds_succ]
  go_wp2_with (at_builtin; refine wpList_append_own _ rfl (.tmp 41) (.tmp 45) 53 rfl (World.heap (((w.alloc (Obj.cells #[Value.int IntKind.i32 xl, Value.int IntKind.i32 xh] 23)).alloc (Obj.cells #[Value.int IntKind.i32 yl, Value.int IntKind.i32 yh] 23)).alloc (Obj.cells #[Value.int IntKind.i32 0, Value.int IntKind.i32 0] 23))).size 2 i0 (.int .i64 0) 1 8 Try.underlying53 hi hz0 hz1 hz2 rfl (by decide) _ _ _ rfl (hown0.alloc _) ⟨y0.w.heap.size, 0, none⟩ 1 1 [.int .i64 (xl + yl)] rfl rfl (cell_one_new _ _ _) (by simp [Value.oneCell']) (by unfold maxLen; omega) (by omega) (Ext.base_le y0 _) ?_; intro v1 w1 hown1 hgrow _)
  obtain ⟨y1, rfl⟩ := ext_grown y0 hown0 hgrow
  clear hgrow
  go_wp2_with fail
  rw [rounds_succ]
  go_wp2_with (at_builtin; refine wpList_append_own _ rfl (.tmp 41) (.tmp 45) 53 rfl (World.heap (((w.alloc (Obj.cells #[Value.int IntKind.i32 xl, Value.int IntKind.i32 xh] 23)).alloc (Obj.cells #[Value.int IntKind.i32 yl, Value.int IntKind.i32 yh] 23)).alloc (Obj.cells #[Value.int IntKind.i32 0, Value.int IntKind.i32 0] 23))).size 2 i0 (.int .i64 0) 1 8 Try.underlying53 hi hz0 hz1 hz2 rfl (by decide) _ _ _ rfl (hown1.alloc _) ⟨y1.w.heap.size, 0, none⟩ 1 1 [.int .i64 (xl + yh)] rfl rfl (cell_one_new _ _ _) (by simp [Value.oneCell']) (by unfold maxLen; omega) (by omega) (Ext.base_le y1 _) ?_; intro v2 w1 hown2 hgrow _)
  obtain ⟨y2, rfl⟩ := ext_grown y1 hown1 hgrow
  clear hgrow
  go_wp2_with fail
  rw [rounds_succ]
  go_wp2_with fail
  rw [rounds_succ]
  go_wp2_with fail
  refine wp_loop_rounds 3 ?_
  rw [rounds_succ]
  go_wp2_with (at_builtin; refine wpList_append_own _ rfl (.tmp 41) (.tmp 45) 53 rfl (World.heap (((w.alloc (Obj.cells #[Value.int IntKind.i32 xl, Value.int IntKind.i32 xh] 23)).alloc (Obj.cells #[Value.int IntKind.i32 yl, Value.int IntKind.i32 yh] 23)).alloc (Obj.cells #[Value.int IntKind.i32 0, Value.int IntKind.i32 0] 23))).size 2 i0 (.int .i64 0) 1 8 Try.underlying53 hi hz0 hz1 hz2 rfl (by decide) _ _ _ rfl (hown2.alloc _) ⟨y2.w.heap.size, 0, none⟩ 1 1 [.int .i64 (xh + yl)] rfl rfl (cell_one_new _ _ _) (by simp [Value.oneCell']) (by unfold maxLen; omega) (by omega) (Ext.base_le y2 _) ?_; intro v3 w1 hown3 hgrow _)
  obtain ⟨y3, rfl⟩ := ext_grown y2 hown2 hgrow
  clear hgrow
  go_wp2_with fail
  rw [rounds_succ]
  go_wp2_with (at_builtin; refine wpList_append_own _ rfl (.tmp 41) (.tmp 45) 53 rfl (World.heap (((w.alloc (Obj.cells #[Value.int IntKind.i32 xl, Value.int IntKind.i32 xh] 23)).alloc (Obj.cells #[Value.int IntKind.i32 yl, Value.int IntKind.i32 yh] 23)).alloc (Obj.cells #[Value.int IntKind.i32 0, Value.int IntKind.i32 0] 23))).size 2 i0 (.int .i64 0) 1 8 Try.underlying53 hi hz0 hz1 hz2 rfl (by decide) _ _ _ rfl (hown3.alloc _) ⟨y3.w.heap.size, 0, none⟩ 1 1 [.int .i64 (xh + yh)] rfl rfl (cell_one_new _ _ _) (by simp [Value.oneCell']) (by unfold maxLen; omega) (by omega) (Ext.base_le y3 _) ?_; intro v4 w1 hown4 hgrow _)
  obtain ⟨y4, rfl⟩ := ext_grown y3 hown3 hgrow
  clear hgrow
  go_wp2_with fail
  rw [rounds_succ]
  go_wp2_with fail
  rw [rounds_succ]
  go_wp2_with fail
  obtain ⟨g, cap, hv, hg, hc⟩ := own_ints (l := [xl + yl, xl + yh, xh + yl, xh + yh]) rfl (by simpa using hown4) (by simp)
  rw [hv]
  clear hv hown0 hown1 hown2 hown3 hown4
  refine (Calls.extq (hull_any g cap [xl + yl, xl + yh, xh + yl, xh + yh] y4.w (by simp) (by simp) hg hc)).mono ?_
  rintro e _ ⟨rfl, y5, rfl⟩
  clear hc
  go_wp2
  all_goals
    refine bodyPost_ret (v := .agg #[.int .i32 (hullL [xl + yl, xl + yh, xh + yl, xh + yh]).1, .int .i32 (hullL [xl + yl, xl + yh, xh + yl, xh + yh]).2]) ?hr rfl ⟨rfl, ?bel⟩
    case hr =>
      simp [results, Try.results29, go_sem]
    case bel =>
      (repeat (first | exact Below.refl _ _ | refine Below.setCell ?_ ?_ _ | refine Ext.below ?_ ?_ _ | refine Below.alloc ?_ ?_ _)) <;> (first | (simp; done) | (simp; omega) | omega)
set_option maxHeartbeats 2000000 in
theorem linear_7 (xl xh yl yh : Int) (w : World) (hx1 : -2147483648 ≤ xl) (hx2 : xl ≤ 2147483647) (hx3 : -2147483648 ≤ xh) (hx4 : xh ≤ 2147483647) (hy1 : -2147483648 ≤ yl) (hy2 : yl ≤ 2147483647) (hy3 : -2147483648 ≤ yh) (hy4 : yh ≤ 2147483647) :
    Calls Try.prog 29 #[.int .u8 7, .agg #[.int .i32 xl, .int .i32 xh], .agg #[.int .i32 yl, .int .i32 yh]] w fun e w' => e = .returned (.agg #[.int .i32 (hullL [xl - yl, xl - yh, xh - yl, xh - yh]).1, .int .i32 (hullL [xl - yl, xl - yh, xh - yl, xh - yh]).2]) ∧ Below w.heap.size w w' := by
  obtain ⟨i0, hi, hz0, hz1, hz2⟩ := info_parts info2
  have i0f := ix0
  have i1f := ix1
  go_enter Try.func29, Try.ntmps29
  go_wp2_with fail
  obtain ⟨y0, hy0⟩ : ∃ y0 : Ext (((w.alloc (Obj.cells #[Value.int IntKind.i32 xl, Value.int IntKind.i32 xh] 23)).alloc (Obj.cells #[Value.int IntKind.i32 yl, Value.int IntKind.i32 yh] 23)).alloc (Obj.cells #[Value.int IntKind.i32 0, Value.int IntKind.i32 0] 23)), (((w.alloc (Obj.cells #[Value.int IntKind.i32 xl, Value.int IntKind.i32 xh] 23)).alloc (Obj.cells #[Value.int IntKind.i32 yl, Value.int IntKind.i32 yh] 23)).alloc (Obj.cells #[Value.int IntKind.i32 0, Value.int IntKind.i32 0] 23)) = y0.w := ⟨⟨_, Below.refl _ _⟩, rfl⟩
  have hown0 : y0.w.ownsRow (World.heap (((w.alloc (Obj.cells #[Value.int IntKind.i32 xl, Value.int IntKind.i32 xh] 23)).alloc (Obj.cells #[Value.int IntKind.i32 yl, Value.int IntKind.i32 yh] 23)).alloc (Obj.cells #[Value.int IntKind.i32 0, Value.int IntKind.i32 0] 23))).size 2 1 (.slice none 0 0) 0 [] := ⟨rfl, .inl ⟨rfl, rfl⟩⟩
  rw [hy0]
  clear hy0
  refine wp_loop_rounds 3 ?_
  rw [rounds_succ]
  go_wp2_with fail
  refine wp_loop_rounds 3 ?_
  rw [rounds_succ]
  go_wp2_with (at_builtin; refine wpList_append_own _ rfl (.tmp 49) (.tmp 53) 53 rfl (World.heap (((w.alloc (Obj.cells #[Value.int IntKind.i32 xl, Value.int IntKind.i32 xh] 23)).alloc (Obj.cells #[Value.int IntKind.i32 yl, Value.int IntKind.i32 yh] 23)).alloc (Obj.cells #[Value.int IntKind.i32 0, Value.int IntKind.i32 0] 23))).size 2 i0 (.int .i64 0) 1 8 Try.underlying53 hi hz0 hz1 hz2 rfl (by decide) _ _ _ rfl (hown0.alloc _) ⟨y0.w.heap.size, 0, none⟩ 1 1 [.int .i64 (xl - yl)] rfl rfl (cell_one_new _ _ _) (by simp [Value.oneCell']) (by unfold maxLen; omega) (by omega) (Ext.base_le y0 _) ?_; intro v1 w1 hown1 hgrow _)
  obtain ⟨y1, rfl⟩ := ext_grown y0 hown0 hgrow
  clear hgrow
  go_wp2_with fail
  rw [rounds_succ]
  go_wp2_with (at_builtin; refine wpList_append_own _ rfl (.tmp 49) (.tmp 53) 53 rfl (World.heap (((w.alloc (Obj.cells #[Value.int IntKind.i32 xl, Value.int IntKind.i32 xh] 23)).alloc (Obj.cells #[Value.int IntKind.i32 yl, Value.int IntKind.i32 yh] 23)).alloc (Obj.cells #[Value.int IntKind.i32 0, Value.int IntKind.i32 0] 23))).size 2 i0 (.int .i64 0) 1 8 Try.underlying53 hi hz0 hz1 hz2 rfl (by decide) _ _ _ rfl (hown1.alloc _) ⟨y1.w.heap.size, 0, none⟩ 1 1 [.int .i64 (xl - yh)] rfl rfl (cell_one_new _ _ _) (by simp [Value.oneCell']) (by unfold maxLen; omega) (by omega) (Ext.base_le y1 _) ?_; intro v2 w1 hown2 hgrow _)
  obtain ⟨y2, rfl⟩ := ext_grown y1 hown1 hgrow
  clear hgrow
  go_wp2_with fail
  rw [rounds_succ]
  go_wp2_with fail
  rw [rounds_succ]
  go_wp2_with fail
  refine wp_loop_rounds 3 ?_
  rw [rounds_succ]
  go_wp2_with (at_builtin; refine wpList_append_own _ rfl (.tmp 49) (.tmp 53) 53 rfl (World.heap (((w.alloc (Obj.cells #[Value.int IntKind.i32 xl, Value.int IntKind.i32 xh] 23)).alloc (Obj.cells #[Value.int IntKind.i32 yl, Value.int IntKind.i32 yh] 23)).alloc (Obj.cells #[Value.int IntKind.i32 0, Value.int IntKind.i32 0] 23))).size 2 i0 (.int .i64 0) 1 8 Try.underlying53 hi hz0 hz1 hz2 rfl (by decide) _ _ _ rfl (hown2.alloc _) ⟨y2.w.heap.size, 0, none⟩ 1 1 [.int .i64 (xh - yl)] rfl rfl (cell_one_new _ _ _) (by simp [Value.oneCell']) (by unfold maxLen; omega) (by omega) (Ext.base_le y2 _) ?_; intro v3 w1 hown3 hgrow _)
  obtain ⟨y3, rfl⟩ := ext_grown y2 hown2 hgrow
  clear hgrow
  go_wp2_with fail
  rw [rounds_succ]
  go_wp2_with (at_builtin; refine wpList_append_own _ rfl (.tmp 49) (.tmp 53) 53 rfl (World.heap (((w.alloc (Obj.cells #[Value.int IntKind.i32 xl, Value.int IntKind.i32 xh] 23)).alloc (Obj.cells #[Value.int IntKind.i32 yl, Value.int IntKind.i32 yh] 23)).alloc (Obj.cells #[Value.int IntKind.i32 0, Value.int IntKind.i32 0] 23))).size 2 i0 (.int .i64 0) 1 8 Try.underlying53 hi hz0 hz1 hz2 rfl (by decide) _ _ _ rfl (hown3.alloc _) ⟨y3.w.heap.size, 0, none⟩ 1 1 [.int .i64 (xh - yh)] rfl rfl (cell_one_new _ _ _) (by simp [Value.oneCell']) (by unfold maxLen; omega) (by omega) (Ext.base_le y3 _) ?_; intro v4 w1 hown4 hgrow _)
  obtain ⟨y4, rfl⟩ := ext_grown y3 hown3 hgrow
  clear hgrow
  go_wp2_with fail
  rw [rounds_succ]
  go_wp2_with fail
  rw [rounds_succ]
  go_wp2_with fail
  obtain ⟨g, cap, hv, hg, hc⟩ := own_ints (l := [xl - yl, xl - yh, xh - yl, xh - yh]) rfl (by simpa using hown4) (by simp)
  rw [hv]
  clear hv hown0 hown1 hown2 hown3 hown4
  refine (Calls.extq (hull_any g cap [xl - yl, xl - yh, xh - yl, xh - yh] y4.w (by simp) (by simp) hg hc)).mono ?_
  rintro e _ ⟨rfl, y5, rfl⟩
  clear hc
  go_wp2
  all_goals
    refine bodyPost_ret (v := .agg #[.int .i32 (hullL [xl - yl, xl - yh, xh - yl, xh - yh]).1, .int .i32 (hullL [xl - yl, xl - yh, xh - yl, xh - yh]).2]) ?hr rfl ⟨rfl, ?bel⟩
    case hr =>
      simp [results, Try.results29, go_sem]
    case bel =>
      (repeat (first | exact Below.refl _ _ | refine Below.setCell ?_ ?_ _ | refine Ext.below ?_ ?_ _ | refine Below.alloc ?_ ?_ _)) <;> (first | (simp; done) | (simp; omega) | omega)
set_option maxHeartbeats 2000000 in
theorem linear_8 (xl xh yl yh : Int) (w : World) (hx1 : -2147483648 ≤ xl) (hx2 : xl ≤ 2147483647) (hx3 : -2147483648 ≤ xh) (hx4 : xh ≤ 2147483647) (hy1 : -2147483648 ≤ yl) (hy2 : yl ≤ 2147483647) (hy3 : -2147483648 ≤ yh) (hy4 : yh ≤ 2147483647) :
    Calls Try.prog 29 #[.int .u8 8, .agg #[.int .i32 xl, .int .i32 xh], .agg #[.int .i32 yl, .int .i32 yh]] w fun e w' => e = .returned (.agg #[.int .i32 (hullL [xl * yl, xl * yh, xh * yl, xh * yh]).1, .int .i32 (hullL [xl * yl, xl * yh, xh * yl, xh * yh]).2]) ∧ Below w.heap.size w w' := by
  obtain ⟨i0, hi, hz0, hz1, hz2⟩ := info_parts info2
  have i0f := ix0
  have i1f := ix1
  obtain ⟨p0, q0⟩ := mul_word (x := xl) (y := yl) (by omega) (by omega) (by omega) (by omega)
  obtain ⟨p1, q1⟩ := mul_word (x := xl) (y := yh) (by omega) (by omega) (by omega) (by omega)
  obtain ⟨p2, q2⟩ := mul_word (x := xh) (y := yl) (by omega) (by omega) (by omega) (by omega)
  obtain ⟨p3, q3⟩ := mul_word (x := xh) (y := yh) (by omega) (by omega) (by omega) (by omega)
  go_enter Try.func29, Try.ntmps29
  go_wp2_with fail
  obtain ⟨y0, hy0⟩ : ∃ y0 : Ext (((w.alloc (Obj.cells #[Value.int IntKind.i32 xl, Value.int IntKind.i32 xh] 23)).alloc (Obj.cells #[Value.int IntKind.i32 yl, Value.int IntKind.i32 yh] 23)).alloc (Obj.cells #[Value.int IntKind.i32 0, Value.int IntKind.i32 0] 23)), (((w.alloc (Obj.cells #[Value.int IntKind.i32 xl, Value.int IntKind.i32 xh] 23)).alloc (Obj.cells #[Value.int IntKind.i32 yl, Value.int IntKind.i32 yh] 23)).alloc (Obj.cells #[Value.int IntKind.i32 0, Value.int IntKind.i32 0] 23)) = y0.w := ⟨⟨_, Below.refl _ _⟩, rfl⟩
  have hown0 : y0.w.ownsRow (World.heap (((w.alloc (Obj.cells #[Value.int IntKind.i32 xl, Value.int IntKind.i32 xh] 23)).alloc (Obj.cells #[Value.int IntKind.i32 yl, Value.int IntKind.i32 yh] 23)).alloc (Obj.cells #[Value.int IntKind.i32 0, Value.int IntKind.i32 0] 23))).size 2 1 (.slice none 0 0) 0 [] := ⟨rfl, .inl ⟨rfl, rfl⟩⟩
  rw [hy0]
  clear hy0
  refine wp_loop_rounds 3 ?_
  rw [rounds_succ]
  go_wp2_with fail
  refine wp_loop_rounds 3 ?_
  rw [rounds_succ]
  go_wp2_with (at_builtin; refine wpList_append_own _ rfl (.tmp 33) (.tmp 37) 53 rfl (World.heap (((w.alloc (Obj.cells #[Value.int IntKind.i32 xl, Value.int IntKind.i32 xh] 23)).alloc (Obj.cells #[Value.int IntKind.i32 yl, Value.int IntKind.i32 yh] 23)).alloc (Obj.cells #[Value.int IntKind.i32 0, Value.int IntKind.i32 0] 23))).size 2 i0 (.int .i64 0) 1 8 Try.underlying53 hi hz0 hz1 hz2 rfl (by decide) _ _ _ rfl (hown0.alloc _) ⟨y0.w.heap.size, 0, none⟩ 1 1 [.int .i64 (xl * yl)] rfl rfl (cell_one_new _ _ _) (by simp [Value.oneCell']) (by unfold maxLen; omega) (by omega) (Ext.base_le y0 _) ?_; intro v1 w1 hown1 hgrow _)
  obtain ⟨y1, rfl⟩ := ext_grown y0 hown0 hgrow
  clear hgrow
  go_wp2_with fail
  rw [rounds_succ]
  go_wp2_with (at_builtin; refine wpList_append_own _ rfl (.tmp 33) (.tmp 37) 53 rfl (World.heap (((w.alloc (Obj.cells #[Value.int IntKind.i32 xl, Value.int IntKind.i32 xh] 23)).alloc (Obj.cells #[Value.int IntKind.i32 yl, Value.int IntKind.i32 yh] 23)).alloc (Obj.cells #[Value.int IntKind.i32 0, Value.int IntKind.i32 0] 23))).size 2 i0 (.int .i64 0) 1 8 Try.underlying53 hi hz0 hz1 hz2 rfl (by decide) _ _ _ rfl (hown1.alloc _) ⟨y1.w.heap.size, 0, none⟩ 1 1 [.int .i64 (xl * yh)] rfl rfl (cell_one_new _ _ _) (by simp [Value.oneCell']) (by unfold maxLen; omega) (by omega) (Ext.base_le y1 _) ?_; intro v2 w1 hown2 hgrow _)
  obtain ⟨y2, rfl⟩ := ext_grown y1 hown1 hgrow
  clear hgrow
  go_wp2_with fail
  rw [rounds_succ]
  go_wp2_with fail
  rw [rounds_succ]
  go_wp2_with fail
  refine wp_loop_rounds 3 ?_
  rw [rounds_succ]
  go_wp2_with (at_builtin; refine wpList_append_own _ rfl (.tmp 33) (.tmp 37) 53 rfl (World.heap (((w.alloc (Obj.cells #[Value.int IntKind.i32 xl, Value.int IntKind.i32 xh] 23)).alloc (Obj.cells #[Value.int IntKind.i32 yl, Value.int IntKind.i32 yh] 23)).alloc (Obj.cells #[Value.int IntKind.i32 0, Value.int IntKind.i32 0] 23))).size 2 i0 (.int .i64 0) 1 8 Try.underlying53 hi hz0 hz1 hz2 rfl (by decide) _ _ _ rfl (hown2.alloc _) ⟨y2.w.heap.size, 0, none⟩ 1 1 [.int .i64 (xh * yl)] rfl rfl (cell_one_new _ _ _) (by simp [Value.oneCell']) (by unfold maxLen; omega) (by omega) (Ext.base_le y2 _) ?_; intro v3 w1 hown3 hgrow _)
  obtain ⟨y3, rfl⟩ := ext_grown y2 hown2 hgrow
  clear hgrow
  go_wp2_with fail
  rw [rounds_succ]
  go_wp2_with (at_builtin; refine wpList_append_own _ rfl (.tmp 33) (.tmp 37) 53 rfl (World.heap (((w.alloc (Obj.cells #[Value.int IntKind.i32 xl, Value.int IntKind.i32 xh] 23)).alloc (Obj.cells #[Value.int IntKind.i32 yl, Value.int IntKind.i32 yh] 23)).alloc (Obj.cells #[Value.int IntKind.i32 0, Value.int IntKind.i32 0] 23))).size 2 i0 (.int .i64 0) 1 8 Try.underlying53 hi hz0 hz1 hz2 rfl (by decide) _ _ _ rfl (hown3.alloc _) ⟨y3.w.heap.size, 0, none⟩ 1 1 [.int .i64 (xh * yh)] rfl rfl (cell_one_new _ _ _) (by simp [Value.oneCell']) (by unfold maxLen; omega) (by omega) (Ext.base_le y3 _) ?_; intro v4 w1 hown4 hgrow _)
  obtain ⟨y4, rfl⟩ := ext_grown y3 hown3 hgrow
  clear hgrow
  go_wp2_with fail
  rw [rounds_succ]
  go_wp2_with fail
  rw [rounds_succ]
  go_wp2_with fail
  obtain ⟨g, cap, hv, hg, hc⟩ := own_ints (l := [xl * yl, xl * yh, xh * yl, xh * yh]) rfl (by simpa using hown4) (by simp)
  rw [hv]
  clear hv hown0 hown1 hown2 hown3 hown4
  refine (Calls.extq (hull_any g cap [xl * yl, xl * yh, xh * yl, xh * yh] y4.w (by simp) (by simp) hg hc)).mono ?_
  rintro e _ ⟨rfl, y5, rfl⟩
  clear hc
  go_wp2
  all_goals
    refine bodyPost_ret (v := .agg #[.int .i32 (hullL [xl * yl, xl * yh, xh * yl, xh * yh]).1, .int .i32 (hullL [xl * yl, xl * yh, xh * yl, xh * yh]).2]) ?hr rfl ⟨rfl, ?bel⟩
    case hr =>
      simp [results, Try.results29, go_sem]
    case bel =>
      (repeat (first | exact Below.refl _ _ | refine Below.setCell ?_ ?_ _ | refine Ext.below ?_ ?_ _ | refine Below.alloc ?_ ?_ _)) <;> (first | (simp; done) | (simp; omega) | omega)

end Go.Proofs.Ytjkjcnamlankoaa
