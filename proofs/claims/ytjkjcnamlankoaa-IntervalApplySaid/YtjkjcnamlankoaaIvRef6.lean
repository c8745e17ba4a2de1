/-
  What is proved here: what ontimeref27.corners returns.
-/
import Derived.Test.YtjkjcnamlankoaaIvRef5
namespace Go.Proofs.Ytjkjcnamlankoaa
open Go.RowKit
set_option linter.unusedVariables false
set_option linter.unusedSimpArgs false

/-- A new slice of numbers comes back. -/
def RetInts (l : List Int) (w : World) (e : Ending) (w' : World) : Prop :=
  ∃ g cap, e = .returned (.slice (some ⟨g, 0, none⟩) l.length cap) ∧ w.heap.size ≤ g ∧ g < w'.heap.size ∧ (∀ i, i < l.length → w'.cell? ⟨g, i, none⟩ = some (.int .i64 (nth l i))) ∧ Below w.heap.size w w'

theorem cor_cells {V W : World} (h : Below V.heap.size V W) {n m : Nat} {a b c d : Value} (z1 : n < V.heap.size) (z2 : m < V.heap.size) (c1 : V.cell? ⟨n, 0, none⟩ = some a) (c2 : V.cell? ⟨n, 1, none⟩ = some b) (c3 : V.cell? ⟨m, 0, none⟩ = some c) (c4 : V.cell? ⟨m, 1, none⟩ = some d) :
    W.cell? ⟨n, 0, none⟩ = some a ∧ W.cell? ⟨n, 1, none⟩ = some b ∧ W.cell? ⟨m, 0, none⟩ = some c ∧ W.cell? ⟨m, 1, none⟩ = some d ∧ n < W.heap.size ∧ m < W.heap.size := by
  have e : ∀ k j, k < V.heap.size → W.cell? ⟨k, j, none⟩ = V.cell? ⟨k, j, none⟩ := fun k j hk => h.cell (p := ⟨k, j, none⟩) hk
  refine ⟨(e _ _ z1).trans c1, (e _ _ z1).trans c2, (e _ _ z2).trans c3, (e _ _ z2).trans c4, Nat.lt_of_lt_of_le z1 h.size, Nat.lt_of_lt_of_le z2 h.size⟩
theorem cor_grown {V W W' : World} (x : Ext W) (h : Below V.heap.size V W) {e : TypeId} {size n : Nat} {v : Value} {xs : List Value} {o : Obj} (hown : x.w.ownsRow V.heap.size e size v n xs) (hg : (x.w.alloc o).grownBy W' v.ownBlock) : Below V.heap.size V W' := by
  have hs := h.size
  have hx := x.h.size
  refine ((h.trans (x.h.mono hs)).alloc (by omega) o).grown hg (by rw [World.size_alloc]; omega) ?_
  intro k hk
  rcases hown.2 with ⟨rfl, _⟩ | ⟨g, cap, cur, rfl, hb, _⟩
  · cases hk
  · cases hk; exact hb
theorem own_ints2 {w : World} {B cap0 : Nat} {v : Value} {l : List Int} (hcap : cap0 = l.length) (h : w.ownsRow B 2 1 v cap0 (l.map (Value.int .i64))) (hl : 1 ≤ l.length) :
    ∃ g cap, v = .slice (some ⟨g, 0, none⟩) l.length cap ∧ B ≤ g ∧ g < w.heap.size ∧ ∀ i, i < l.length → w.cell? ⟨g, i, none⟩ = some (.int .i64 (nth l i)) := by
  obtain ⟨g, cap, hv, hg, hc⟩ := own_ints hcap h hl
  refine ⟨g, cap, hv, ?_, hg, hc⟩
  rcases h.2 with ⟨e, _⟩ | ⟨g', cap', cur, e, hb, _⟩
  · rw [hv] at e; cases e
  · rw [hv] at e; cases e; exact hb
theorem cor_base_le {V W : World} (x : Ext W) (h : Below V.heap.size V W) (o : Obj) : V.heap.size ≤ (x.w.alloc o).heap.size := by
  have := h.size; have := x.h.size; rw [World.size_alloc]; omega

theorem cor_base (xl xh yl yh : Int) (w : World) : ∃ V : World, ((((w.alloc (Obj.cells #[Value.int IntKind.i32 xl, Value.int IntKind.i32 xh] 25)).alloc (Obj.cells #[Value.int IntKind.i32 yl, Value.int IntKind.i32 yh] 25)).alloc (Obj.cells #[Value.int IntKind.i64 xl, Value.int IntKind.i64 xh] 2)).alloc (Obj.cells #[Value.int IntKind.i64 yl, Value.int IntKind.i64 yh] 2)) = V ∧ Below w.heap.size w V ∧ w.heap.size + 1 + 1 < V.heap.size ∧ w.heap.size + 1 + 1 + 1 < V.heap.size ∧ V.cell? ⟨w.heap.size + 1 + 1, 0, none⟩ = some (.int .i64 xl) ∧ V.cell? ⟨w.heap.size + 1 + 1, 1, none⟩ = some (.int .i64 xh) ∧ V.cell? ⟨w.heap.size + 1 + 1 + 1, 0, none⟩ = some (.int .i64 yl) ∧ V.cell? ⟨w.heap.size + 1 + 1 + 1, 1, none⟩ = some (.int .i64 yh) := by
  refine ⟨_, rfl, ?_, by simp, by simp, ?_, ?_, ?_, ?_⟩
  · (repeat (first | exact Below.refl _ _ | refine Below.setCell ?_ ?_ _ | refine Ext.below ?_ ?_ _ | refine Below.alloc ?_ ?_ _)) <;> (first | (simp; done) | (simp; omega) | omega | (simp only [World.size_setCell, World.size_alloc]; refine Nat.le_trans ?_ (Below.size (Ext.h _)); simp only [World.size_setCell, World.size_alloc]; omega))
  all_goals (go_simp; done)

set_option maxRecDepth 100000 in
set_option maxHeartbeats 4000000 in
theorem rcorners_6 (xl xh yl yh : Int) (w : World) (hx1 : -2147483648 ≤ xl) (hx2 : xl ≤ 2147483647) (hx3 : -2147483648 ≤ xh) (hx4 : xh ≤ 2147483647) (hy1 : -2147483648 ≤ yl) (hy2 : yl ≤ 2147483647) (hy3 : -2147483648 ≤ yh) (hy4 : yh ≤ 2147483647) :
    Calls Try.prog 42 #[.int .u8 6, .agg #[.int .i32 xl, .int .i32 xh], .agg #[.int .i32 yl, .int .i32 yh]] w (RetInts [xl + yl, xl + yh, xh + yl, xh + yh] w) := by
  obtain ⟨i0, hi, hz0, hz1, hz2⟩ := info_parts info2
  go_enter Try.func42, Try.ntmps42
  go_wp2_with fail
  obtain ⟨V, hV, kB, z1, z2, d1, d2, d3, d4⟩ := cor_base xl xh yl yh w
  rw [hV]
  have hown0 : V.ownsRow V.heap.size 2 1 (.slice none 0 0) 0 [] := ⟨rfl, .inl ⟨rfl, rfl⟩⟩
  have bV : Below V.heap.size V V := Below.refl _ _
  have hVs : w.heap.size ≤ V.heap.size := kB.size
  clear hV
  obtain ⟨c1, c2, c3, c4, s1, s2⟩ := cor_cells bV z1 z2 d1 d2 d3 d4
  refine wp_loop_rounds 3 ?_
  rw [rounds_succ]
  go_wp2_with fail
  refine wp_loop_rounds 3 ?_
  rw [rounds_succ]
  go_wp2_with fail
  refine wp_region_ext_move 11 14 _ 7 _ rfl rfl rfl rfl (by kernel_rfl) rfl (by kernel_rfl) (by kernel_rfl) (by kernel_rfl) ?_
  simp only [Act.put, List.setIfInBounds_toArray, List.set_cons_zero, List.set_cons_succ, List.take_succ_cons, List.take_zero, List.drop_succ_cons, List.drop_zero, Nat.reduceSub]
  repeat (go_big_quiet_step ((go_at_call 61; exact Calls.extq_same (rexact_6 _ _ _ (by assumption) (by assumption) (by assumption) (by assumption)))))
  refine wpQuiet_nil ?_
  rintro _ ⟨x0, rfl⟩
  have ho := own_ext x0 hown0
  go_wp2_with (at_builtin; refine wpList_append_own _ rfl (.tmp 34) (.tmp 45) 53 rfl V.heap.size 2 i0 (.int .i64 0) 1 8 Try.underlying53 hi hz0 hz1 hz2 rfl (by decide) _ _ _ rfl (ho.alloc _) ⟨x0.w.heap.size, 0, none⟩ 1 1 [.int .i64 (xl + yl)] rfl rfl (cell_one_new _ _ _) (by simp [Value.oneCell']) (by unfold maxLen; omega) (by omega) (cor_base_le x0 bV _) ?_; intro v1 W1 hown1 hgrow _)
  refine NoPanic.normal ?_
  have bV' := cor_grown x0 bV ho hgrow
  obtain ⟨c1, c2, c3, c4, s1, s2⟩ := cor_cells bV' z1 z2 d1 d2 d3 d4
  clear hgrow ho hown0 bV
  have bV := bV'
  clear bV'
  go_wp2_with fail
  rw [rounds_succ]
  go_wp2_with fail
  refine wp_region_ext_move 11 14 _ 7 _ rfl rfl rfl rfl (by kernel_rfl) rfl (by kernel_rfl) (by kernel_rfl) (by kernel_rfl) ?_
  simp only [Act.put, List.setIfInBounds_toArray, List.set_cons_zero, List.set_cons_succ, List.take_succ_cons, List.take_zero, List.drop_succ_cons, List.drop_zero, Nat.reduceSub]
  repeat (go_big_quiet_step ((go_at_call 61; exact Calls.extq_same (rexact_6 _ _ _ (by assumption) (by assumption) (by assumption) (by assumption)))))
  refine wpQuiet_nil ?_
  rintro _ ⟨x1, rfl⟩
  have ho := own_ext x1 hown1
  go_wp2_with (at_builtin; refine wpList_append_own _ rfl (.tmp 34) (.tmp 45) 53 rfl V.heap.size 2 i0 (.int .i64 0) 1 8 Try.underlying53 hi hz0 hz1 hz2 rfl (by decide) _ _ _ rfl (ho.alloc _) ⟨x1.w.heap.size, 0, none⟩ 1 1 [.int .i64 (xl + yh)] rfl rfl (cell_one_new _ _ _) (by simp [Value.oneCell']) (by unfold maxLen; omega) (by omega) (cor_base_le x1 bV _) ?_; intro v2 W2 hown2 hgrow _)
  refine NoPanic.normal ?_
  have bV' := cor_grown x1 bV ho hgrow
  obtain ⟨c1, c2, c3, c4, s1, s2⟩ := cor_cells bV' z1 z2 d1 d2 d3 d4
  clear hgrow ho hown1 bV
  have bV := bV'
  clear bV'
  go_wp2_with fail
  rw [rounds_succ]
  go_wp2_with fail
  rw [rounds_succ]
  go_wp2_with fail
  refine wp_loop_rounds 3 ?_
  rw [rounds_succ]
  go_wp2_with fail
  refine wp_region_ext_move 11 14 _ 7 _ rfl rfl rfl rfl (by kernel_rfl) rfl (by kernel_rfl) (by kernel_rfl) (by kernel_rfl) ?_
  simp only [Act.put, List.setIfInBounds_toArray, List.set_cons_zero, List.set_cons_succ, List.take_succ_cons, List.take_zero, List.drop_succ_cons, List.drop_zero, Nat.reduceSub]
  repeat (go_big_quiet_step ((go_at_call 61; exact Calls.extq_same (rexact_6 _ _ _ (by assumption) (by assumption) (by assumption) (by assumption)))))
  refine wpQuiet_nil ?_
  rintro _ ⟨x2, rfl⟩
  have ho := own_ext x2 hown2
  go_wp2_with (at_builtin; refine wpList_append_own _ rfl (.tmp 34) (.tmp 45) 53 rfl V.heap.size 2 i0 (.int .i64 0) 1 8 Try.underlying53 hi hz0 hz1 hz2 rfl (by decide) _ _ _ rfl (ho.alloc _) ⟨x2.w.heap.size, 0, none⟩ 1 1 [.int .i64 (xh + yl)] rfl rfl (cell_one_new _ _ _) (by simp [Value.oneCell']) (by unfold maxLen; omega) (by omega) (cor_base_le x2 bV _) ?_; intro v3 W3 hown3 hgrow _)
  refine NoPanic.normal ?_
  have bV' := cor_grown x2 bV ho hgrow
  obtain ⟨c1, c2, c3, c4, s1, s2⟩ := cor_cells bV' z1 z2 d1 d2 d3 d4
  clear hgrow ho hown2 bV
  have bV := bV'
  clear bV'
  go_wp2_with fail
  rw [rounds_succ]
  go_wp2_with fail
  refine wp_region_ext_move 11 14 _ 7 _ rfl rfl rfl rfl (by kernel_rfl) rfl (by kernel_rfl) (by kernel_rfl) (by kernel_rfl) ?_
  simp only [Act.put, List.setIfInBounds_toArray, List.set_cons_zero, List.set_cons_succ, List.take_succ_cons, List.take_zero, List.drop_succ_cons, List.drop_zero, Nat.reduceSub]
  repeat (go_big_quiet_step ((go_at_call 61; exact Calls.extq_same (rexact_6 _ _ _ (by assumption) (by assumption) (by assumption) (by assumption)))))
  refine wpQuiet_nil ?_
  rintro _ ⟨x3, rfl⟩
  have ho := own_ext x3 hown3
  go_wp2_with (at_builtin; refine wpList_append_own _ rfl (.tmp 34) (.tmp 45) 53 rfl V.heap.size 2 i0 (.int .i64 0) 1 8 Try.underlying53 hi hz0 hz1 hz2 rfl (by decide) _ _ _ rfl (ho.alloc _) ⟨x3.w.heap.size, 0, none⟩ 1 1 [.int .i64 (xh + yh)] rfl rfl (cell_one_new _ _ _) (by simp [Value.oneCell']) (by unfold maxLen; omega) (by omega) (cor_base_le x3 bV _) ?_; intro v4 W4 hown4 hgrow _)
  refine NoPanic.normal ?_
  have bV' := cor_grown x3 bV ho hgrow
  obtain ⟨c1, c2, c3, c4, s1, s2⟩ := cor_cells bV' z1 z2 d1 d2 d3 d4
  clear hgrow ho hown3 bV
  have bV := bV'
  clear bV'
  go_wp2_with fail
  rw [rounds_succ]
  go_wp2_with fail
  rw [rounds_succ]
  go_wp2_with fail
  obtain ⟨g, cap, hv, hB, hg, hc⟩ := own_ints2 (l := [xl + yl, xl + yh, xh + yl, xh + yh]) rfl (by simpa using hown4) (by simp)
  go_ret
  exact ⟨g, cap, by rw [hv]; rfl, by omega, hg, hc, kB.trans (bV.mono hVs)⟩

set_option maxRecDepth 100000 in
set_option maxHeartbeats 4000000 in
theorem rcorners_7 (xl xh yl yh : Int) (w : World) (hx1 : -2147483648 ≤ xl) (hx2 : xl ≤ 2147483647) (hx3 : -2147483648 ≤ xh) (hx4 : xh ≤ 2147483647) (hy1 : -2147483648 ≤ yl) (hy2 : yl ≤ 2147483647) (hy3 : -2147483648 ≤ yh) (hy4 : yh ≤ 2147483647) :
    Calls Try.prog 42 #[.int .u8 7, .agg #[.int .i32 xl, .int .i32 xh], .agg #[.int .i32 yl, .int .i32 yh]] w (RetInts [xl - yl, xl - yh, xh - yl, xh - yh] w) := by
  obtain ⟨i0, hi, hz0, hz1, hz2⟩ := info_parts info2
  go_enter Try.func42, Try.ntmps42
  go_wp2_with fail
  obtain ⟨V, hV, kB, z1, z2, d1, d2, d3, d4⟩ := cor_base xl xh yl yh w
  rw [hV]
  have hown0 : V.ownsRow V.heap.size 2 1 (.slice none 0 0) 0 [] := ⟨rfl, .inl ⟨rfl, rfl⟩⟩
  have bV : Below V.heap.size V V := Below.refl _ _
  have hVs : w.heap.size ≤ V.heap.size := kB.size
  clear hV
  obtain ⟨c1, c2, c3, c4, s1, s2⟩ := cor_cells bV z1 z2 d1 d2 d3 d4
  refine wp_loop_rounds 3 ?_
  rw [rounds_succ]
  go_wp2_with fail
  refine wp_loop_rounds 3 ?_
  rw [rounds_succ]
  go_wp2_with fail
  refine wp_region_ext_move 11 14 _ 7 _ rfl rfl rfl rfl (by kernel_rfl) rfl (by kernel_rfl) (by kernel_rfl) (by kernel_rfl) ?_
  simp only [Act.put, List.setIfInBounds_toArray, List.set_cons_zero, List.set_cons_succ, List.take_succ_cons, List.take_zero, List.drop_succ_cons, List.drop_zero, Nat.reduceSub]
  repeat (go_big_quiet_step ((go_at_call 61; exact Calls.extq_same (rexact_7 _ _ _ (by assumption) (by assumption) (by assumption) (by assumption)))))
  refine wpQuiet_nil ?_
  rintro _ ⟨x0, rfl⟩
  have ho := own_ext x0 hown0
  go_wp2_with (at_builtin; refine wpList_append_own _ rfl (.tmp 34) (.tmp 45) 53 rfl V.heap.size 2 i0 (.int .i64 0) 1 8 Try.underlying53 hi hz0 hz1 hz2 rfl (by decide) _ _ _ rfl (ho.alloc _) ⟨x0.w.heap.size, 0, none⟩ 1 1 [.int .i64 (xl - yl)] rfl rfl (cell_one_new _ _ _) (by simp [Value.oneCell']) (by unfold maxLen; omega) (by omega) (cor_base_le x0 bV _) ?_; intro v1 W1 hown1 hgrow _)
  refine NoPanic.normal ?_
  have bV' := cor_grown x0 bV ho hgrow
  obtain ⟨c1, c2, c3, c4, s1, s2⟩ := cor_cells bV' z1 z2 d1 d2 d3 d4
  clear hgrow ho hown0 bV
  have bV := bV'
  clear bV'
  go_wp2_with fail
  rw [rounds_succ]
  go_wp2_with fail
  refine wp_region_ext_move 11 14 _ 7 _ rfl rfl rfl rfl (by kernel_rfl) rfl (by kernel_rfl) (by kernel_rfl) (by kernel_rfl) ?_
  simp only [Act.put, List.setIfInBounds_toArray, List.set_cons_zero, List.set_cons_succ, List.take_succ_cons, List.take_zero, List.drop_succ_cons, List.drop_zero, Nat.reduceSub]
  repeat (go_big_quiet_step ((go_at_call 61; exact Calls.extq_same (rexact_7 _ _ _ (by assumption) (by assumption) (by assumption) (by assumption)))))
  refine wpQuiet_nil ?_
  rintro _ ⟨x1, rfl⟩
  have ho := own_ext x1 hown1
  go_wp2_with (at_builtin; refine wpList_append_own _ rfl (.tmp 34) (.tmp 45) 53 rfl V.heap.size 2 i0 (.int .i64 0) 1 8 Try.underlying53 hi hz0 hz1 hz2 rfl (by decide) _ _ _ rfl (ho.alloc _) ⟨x1.w.heap.size, 0, none⟩ 1 1 [.int .i64 (xl - yh)] rfl rfl (cell_one_new _ _ _) (by simp [Value.oneCell']) (by unfold maxLen; omega) (by omega) (cor_base_le x1 bV _) ?_; intro v2 W2 hown2 hgrow _)
  refine NoPanic.normal ?_
  have bV' := cor_grown x1 bV ho hgrow
  obtain ⟨c1, c2, c3, c4, s1, s2⟩ := cor_cells bV' z1 z2 d1 d2 d3 d4
  clear hgrow ho hown1 bV
  have bV := bV'
  clear bV'
  go_wp2_with fail
  rw [rounds_succ]
  go_wp2_with fail
  rw [rounds_succ]
  go_wp2_with fail
  refine wp_loop_rounds 3 ?_
  rw [rounds_succ]
  go_wp2_with fail
  refine wp_region_ext_move 11 14 _ 7 _ rfl rfl rfl rfl (by kernel_rfl) rfl (by kernel_rfl) (by kernel_rfl) (by kernel_rfl) ?_
  simp only [Act.put, List.setIfInBounds_toArray, List.set_cons_zero, List.set_cons_succ, List.take_succ_cons, List.take_zero, List.drop_succ_cons, List.drop_zero, Nat.reduceSub]
  repeat (go_big_quiet_step ((go_at_call 61; exact Calls.extq_same (rexact_7 _ _ _ (by assumption) (by assumption) (by assumption) (by assumption)))))
  refine wpQuiet_nil ?_
  rintro _ ⟨x2, rfl⟩
  have ho := own_ext x2 hown2
  go_wp2_with (at_builtin; refine wpList_append_own _ rfl (.tmp 34) (.tmp 45) 53 rfl V.heap.size 2 i0 (.int .i64 0) 1 8 Try.underlying53 hi hz0 hz1 hz2 rfl (by decide) _ _ _ rfl (ho.alloc _) ⟨x2.w.heap.size, 0, none⟩ 1 1 [.int .i64 (xh - yl)] rfl rfl (cell_one_new _ _ _) (by simp [Value.oneCell']) (by unfold maxLen; omega) (by omega) (cor_base_le x2 bV _) ?_; intro v3 W3 hown3 hgrow _)
  refine NoPanic.normal ?_
  have bV' := cor_grown x2 bV ho hgrow
  obtain ⟨c1, c2, c3, c4, s1, s2⟩ := cor_cells bV' z1 z2 d1 d2 d3 d4
  clear hgrow ho hown2 bV
  have bV := bV'
  clear bV'
  go_wp2_with fail
  rw [rounds_succ]
  go_wp2_with fail
  refine wp_region_ext_move 11 14 _ 7 _ rfl rfl rfl rfl (by kernel_rfl) rfl (by kernel_rfl) (by kernel_rfl) (by kernel_rfl) ?_
  simp only [Act.put, List.setIfInBounds_toArray, List.set_cons_zero, List.set_cons_succ, List.take_succ_cons, List.take_zero, List.drop_succ_cons, List.drop_zero, Nat.reduceSub]
  repeat (go_big_quiet_step ((go_at_call 61; exact Calls.extq_same (rexact_7 _ _ _ (by assumption) (by assumption) (by assumption) (by assumption)))))
  refine wpQuiet_nil ?_
  rintro _ ⟨x3, rfl⟩
  have ho := own_ext x3 hown3
  go_wp2_with (at_builtin; refine wpList_append_own _ rfl (.tmp 34) (.tmp 45) 53 rfl V.heap.size 2 i0 (.int .i64 0) 1 8 Try.underlying53 hi hz0 hz1 hz2 rfl (by decide) _ _ _ rfl (ho.alloc _) ⟨x3.w.heap.size, 0, none⟩ 1 1 [.int .i64 (xh - yh)] rfl rfl (cell_one_new _ _ _) (by simp [Value.oneCell']) (by unfold maxLen; omega) (by omega) (cor_base_le x3 bV _) ?_; intro v4 W4 hown4 hgrow _)
  refine NoPanic.normal ?_
  have bV' := cor_grown x3 bV ho hgrow
  obtain ⟨c1, c2, c3, c4, s1, s2⟩ := cor_cells bV' z1 z2 d1 d2 d3 d4
  clear hgrow ho hown3 bV
  have bV := bV'
  clear bV'
  go_wp2_with fail
  rw [rounds_succ]
  go_wp2_with fail
  rw [rounds_succ]
  go_wp2_with fail
  obtain ⟨g, cap, hv, hB, hg, hc⟩ := own_ints2 (l := [xl - yl, xl - yh, xh - yl, xh - yh]) rfl (by simpa using hown4) (by simp)
  go_ret
  exact ⟨g, cap, by rw [hv]; rfl, by omega, hg, hc, kB.trans (bV.mono hVs)⟩

set_option maxRecDepth 100000 in
set_option maxHeartbeats 4000000 in
theorem rcorners_8 (xl xh yl yh : Int) (w : World) (hx1 : -2147483648 ≤ xl) (hx2 : xl ≤ 2147483647) (hx3 : -2147483648 ≤ xh) (hx4 : xh ≤ 2147483647) (hy1 : -2147483648 ≤ yl) (hy2 : yl ≤ 2147483647) (hy3 : -2147483648 ≤ yh) (hy4 : yh ≤ 2147483647) :
    Calls Try.prog 42 #[.int .u8 8, .agg #[.int .i32 xl, .int .i32 xh], .agg #[.int .i32 yl, .int .i32 yh]] w (RetInts [xl * yl, xl * yh, xh * yl, xh * yh] w) := by
  obtain ⟨i0, hi, hz0, hz1, hz2⟩ := info_parts info2
  go_enter Try.func42, Try.ntmps42
  go_wp2_with fail
  obtain ⟨V, hV, kB, z1, z2, d1, d2, d3, d4⟩ := cor_base xl xh yl yh w
  rw [hV]
  have hown0 : V.ownsRow V.heap.size 2 1 (.slice none 0 0) 0 [] := ⟨rfl, .inl ⟨rfl, rfl⟩⟩
  have bV : Below V.heap.size V V := Below.refl _ _
  have hVs : w.heap.size ≤ V.heap.size := kB.size
  clear hV
  obtain ⟨c1, c2, c3, c4, s1, s2⟩ := cor_cells bV z1 z2 d1 d2 d3 d4
  refine wp_loop_rounds 3 ?_
  rw [rounds_succ]
  go_wp2_with fail
  refine wp_loop_rounds 3 ?_
  rw [rounds_succ]
  go_wp2_with fail
  refine wp_region_ext_move 11 14 _ 7 _ rfl rfl rfl rfl (by kernel_rfl) rfl (by kernel_rfl) (by kernel_rfl) (by kernel_rfl) ?_
  simp only [Act.put, List.setIfInBounds_toArray, List.set_cons_zero, List.set_cons_succ, List.take_succ_cons, List.take_zero, List.drop_succ_cons, List.drop_zero, Nat.reduceSub]
  repeat (go_big_quiet_step ((go_at_call 61; exact Calls.extq_same (rexact_8 _ _ _ (by assumption) (by assumption) (by assumption) (by assumption)))))
  refine wpQuiet_nil ?_
  rintro _ ⟨x0, rfl⟩
  have ho := own_ext x0 hown0
  go_wp2_with (at_builtin; refine wpList_append_own _ rfl (.tmp 34) (.tmp 45) 53 rfl V.heap.size 2 i0 (.int .i64 0) 1 8 Try.underlying53 hi hz0 hz1 hz2 rfl (by decide) _ _ _ rfl (ho.alloc _) ⟨x0.w.heap.size, 0, none⟩ 1 1 [.int .i64 (xl * yl)] rfl rfl (cell_one_new _ _ _) (by simp [Value.oneCell']) (by unfold maxLen; omega) (by omega) (cor_base_le x0 bV _) ?_; intro v1 W1 hown1 hgrow _)
  refine NoPanic.normal ?_
  have bV' := cor_grown x0 bV ho hgrow
  obtain ⟨c1, c2, c3, c4, s1, s2⟩ := cor_cells bV' z1 z2 d1 d2 d3 d4
  clear hgrow ho hown0 bV
  have bV := bV'
  clear bV'
  go_wp2_with fail
  rw [rounds_succ]
  go_wp2_with fail
  refine wp_region_ext_move 11 14 _ 7 _ rfl rfl rfl rfl (by kernel_rfl) rfl (by kernel_rfl) (by kernel_rfl) (by kernel_rfl) ?_
  simp only [Act.put, List.setIfInBounds_toArray, List.set_cons_zero, List.set_cons_succ, List.take_succ_cons, List.take_zero, List.drop_succ_cons, List.drop_zero, Nat.reduceSub]
  repeat (go_big_quiet_step ((go_at_call 61; exact Calls.extq_same (rexact_8 _ _ _ (by assumption) (by assumption) (by assumption) (by assumption)))))
  refine wpQuiet_nil ?_
  rintro _ ⟨x1, rfl⟩
  have ho := own_ext x1 hown1
  go_wp2_with (at_builtin; refine wpList_append_own _ rfl (.tmp 34) (.tmp 45) 53 rfl V.heap.size 2 i0 (.int .i64 0) 1 8 Try.underlying53 hi hz0 hz1 hz2 rfl (by decide) _ _ _ rfl (ho.alloc _) ⟨x1.w.heap.size, 0, none⟩ 1 1 [.int .i64 (xl * yh)] rfl rfl (cell_one_new _ _ _) (by simp [Value.oneCell']) (by unfold maxLen; omega) (by omega) (cor_base_le x1 bV _) ?_; intro v2 W2 hown2 hgrow _)
  refine NoPanic.normal ?_
  have bV' := cor_grown x1 bV ho hgrow
  obtain ⟨c1, c2, c3, c4, s1, s2⟩ := cor_cells bV' z1 z2 d1 d2 d3 d4
  clear hgrow ho hown1 bV
  have bV := bV'
  clear bV'
  go_wp2_with fail
  rw [rounds_succ]
  go_wp2_with fail
  rw [rounds_succ]
  go_wp2_with fail
  refine wp_loop_rounds 3 ?_
  rw [rounds_succ]
  go_wp2_with fail
  refine wp_region_ext_move 11 14 _ 7 _ rfl rfl rfl rfl (by kernel_rfl) rfl (by kernel_rfl) (by kernel_rfl) (by kernel_rfl) ?_
  simp only [Act.put, List.setIfInBounds_toArray, List.set_cons_zero, List.set_cons_succ, List.take_succ_cons, List.take_zero, List.drop_succ_cons, List.drop_zero, Nat.reduceSub]
  repeat (go_big_quiet_step ((go_at_call 61; exact Calls.extq_same (rexact_8 _ _ _ (by assumption) (by assumption) (by assumption) (by assumption)))))
  refine wpQuiet_nil ?_
  rintro _ ⟨x2, rfl⟩
  have ho := own_ext x2 hown2
  go_wp2_with (at_builtin; refine wpList_append_own _ rfl (.tmp 34) (.tmp 45) 53 rfl V.heap.size 2 i0 (.int .i64 0) 1 8 Try.underlying53 hi hz0 hz1 hz2 rfl (by decide) _ _ _ rfl (ho.alloc _) ⟨x2.w.heap.size, 0, none⟩ 1 1 [.int .i64 (xh * yl)] rfl rfl (cell_one_new _ _ _) (by simp [Value.oneCell']) (by unfold maxLen; omega) (by omega) (cor_base_le x2 bV _) ?_; intro v3 W3 hown3 hgrow _)
  refine NoPanic.normal ?_
  have bV' := cor_grown x2 bV ho hgrow
  obtain ⟨c1, c2, c3, c4, s1, s2⟩ := cor_cells bV' z1 z2 d1 d2 d3 d4
  clear hgrow ho hown2 bV
  have bV := bV'
  clear bV'
  go_wp2_with fail
  rw [rounds_succ]
  go_wp2_with fail
  refine wp_region_ext_move 11 14 _ 7 _ rfl rfl rfl rfl (by kernel_rfl) rfl (by kernel_rfl) (by kernel_rfl) (by kernel_rfl) ?_
  simp only [Act.put, List.setIfInBounds_toArray, List.set_cons_zero, List.set_cons_succ, List.take_succ_cons, List.take_zero, List.drop_succ_cons, List.drop_zero, Nat.reduceSub]
  repeat (go_big_quiet_step ((go_at_call 61; exact Calls.extq_same (rexact_8 _ _ _ (by assumption) (by assumption) (by assumption) (by assumption)))))
  refine wpQuiet_nil ?_
  rintro _ ⟨x3, rfl⟩
  have ho := own_ext x3 hown3
  go_wp2_with (at_builtin; refine wpList_append_own _ rfl (.tmp 34) (.tmp 45) 53 rfl V.heap.size 2 i0 (.int .i64 0) 1 8 Try.underlying53 hi hz0 hz1 hz2 rfl (by decide) _ _ _ rfl (ho.alloc _) ⟨x3.w.heap.size, 0, none⟩ 1 1 [.int .i64 (xh * yh)] rfl rfl (cell_one_new _ _ _) (by simp [Value.oneCell']) (by unfold maxLen; omega) (by omega) (cor_base_le x3 bV _) ?_; intro v4 W4 hown4 hgrow _)
  refine NoPanic.normal ?_
  have bV' := cor_grown x3 bV ho hgrow
  obtain ⟨c1, c2, c3, c4, s1, s2⟩ := cor_cells bV' z1 z2 d1 d2 d3 d4
  clear hgrow ho hown3 bV
  have bV := bV'
  clear bV'
  go_wp2_with fail
  rw [rounds_succ]
  go_wp2_with fail
  rw [rounds_succ]
  go_wp2_with fail
  obtain ⟨g, cap, hv, hB, hg, hc⟩ := own_ints2 (l := [xl * yl, xl * yh, xh * yl, xh * yh]) rfl (by simpa using hown4) (by simp)
  go_ret
  exact ⟨g, cap, by rw [hv]; rfl, by omega, hg, hc, kB.trans (bV.mono hVs)⟩

set_option maxRecDepth 100000 in
set_option maxHeartbeats 4000000 in
theorem rcorners_9 (xl xh yl yh : Int) (w : World) (hx1 : -2147483648 ≤ xl) (hx2 : xl ≤ 2147483647) (hx3 : -2147483648 ≤ xh) (hx4 : xh ≤ 2147483647) (hy1 : -2147483648 ≤ yl) (hy2 : yl ≤ 2147483647) (hy3 : -2147483648 ≤ yh) (hy4 : yh ≤ 2147483647) (n1 : ¬ yl = 0) (n2 : ¬ yh = 0) :
    Calls Try.prog 42 #[.int .u8 9, .agg #[.int .i32 xl, .int .i32 xh], .agg #[.int .i32 yl, .int .i32 yh]] w (RetInts [xl.tdiv yl, xl.tdiv yh, xh.tdiv yl, xh.tdiv yh] w) := by
  obtain ⟨i0, hi, hz0, hz1, hz2⟩ := info_parts info2
  go_enter Try.func42, Try.ntmps42
  go_wp2_with fail
  obtain ⟨V, hV, kB, z1, z2, d1, d2, d3, d4⟩ := cor_base xl xh yl yh w
  rw [hV]
  have hown0 : V.ownsRow V.heap.size 2 1 (.slice none 0 0) 0 [] := ⟨rfl, .inl ⟨rfl, rfl⟩⟩
  have bV : Below V.heap.size V V := Below.refl _ _
  have hVs : w.heap.size ≤ V.heap.size := kB.size
  clear hV
  obtain ⟨c1, c2, c3, c4, s1, s2⟩ := cor_cells bV z1 z2 d1 d2 d3 d4
  refine wp_loop_rounds 3 ?_
  rw [rounds_succ]
  go_wp2_with fail
  refine wp_loop_rounds 3 ?_
  rw [rounds_succ]
  go_wp2_with fail
  refine wp_region_ext_move 11 14 _ 7 _ rfl rfl rfl rfl (by kernel_rfl) rfl (by kernel_rfl) (by kernel_rfl) (by kernel_rfl) ?_
  simp only [Act.put, List.setIfInBounds_toArray, List.set_cons_zero, List.set_cons_succ, List.take_succ_cons, List.take_zero, List.drop_succ_cons, List.drop_zero, Nat.reduceSub]
  repeat (go_big_quiet_step ((go_at_call 61; exact Calls.extq_same (rexact_9 _ _ _ (by assumption) (by assumption) (by assumption) (by assumption) (by assumption)))))
  refine wpQuiet_nil ?_
  rintro _ ⟨x0, rfl⟩
  have ho := own_ext x0 hown0
  go_wp2_with (at_builtin; refine wpList_append_own _ rfl (.tmp 34) (.tmp 45) 53 rfl V.heap.size 2 i0 (.int .i64 0) 1 8 Try.underlying53 hi hz0 hz1 hz2 rfl (by decide) _ _ _ rfl (ho.alloc _) ⟨x0.w.heap.size, 0, none⟩ 1 1 [.int .i64 (xl.tdiv yl)] rfl rfl (cell_one_new _ _ _) (by simp [Value.oneCell']) (by unfold maxLen; omega) (by omega) (cor_base_le x0 bV _) ?_; intro v1 W1 hown1 hgrow _)
  refine NoPanic.normal ?_
  have bV' := cor_grown x0 bV ho hgrow
  obtain ⟨c1, c2, c3, c4, s1, s2⟩ := cor_cells bV' z1 z2 d1 d2 d3 d4
  clear hgrow ho hown0 bV
  have bV := bV'
  clear bV'
  go_wp2_with fail
  rw [rounds_succ]
  go_wp2_with fail
  refine wp_region_ext_move 11 14 _ 7 _ rfl rfl rfl rfl (by kernel_rfl) rfl (by kernel_rfl) (by kernel_rfl) (by kernel_rfl) ?_
  simp only [Act.put, List.setIfInBounds_toArray, List.set_cons_zero, List.set_cons_succ, List.take_succ_cons, List.take_zero, List.drop_succ_cons, List.drop_zero, Nat.reduceSub]
  repeat (go_big_quiet_step ((go_at_call 61; exact Calls.extq_same (rexact_9 _ _ _ (by assumption) (by assumption) (by assumption) (by assumption) (by assumption)))))
  refine wpQuiet_nil ?_
  rintro _ ⟨x1, rfl⟩
  have ho := own_ext x1 hown1
  go_wp2_with (at_builtin; refine wpList_append_own _ rfl (.tmp 34) (.tmp 45) 53 rfl V.heap.size 2 i0 (.int .i64 0) 1 8 Try.underlying53 hi hz0 hz1 hz2 rfl (by decide) _ _ _ rfl (ho.alloc _) ⟨x1.w.heap.size, 0, none⟩ 1 1 [.int .i64 (xl.tdiv yh)] rfl rfl (cell_one_new _ _ _) (by simp [Value.oneCell']) (by unfold maxLen; omega) (by omega) (cor_base_le x1 bV _) ?_; intro v2 W2 hown2 hgrow _)
  refine NoPanic.normal ?_
  have bV' := cor_grown x1 bV ho hgrow
  obtain ⟨c1, c2, c3, c4, s1, s2⟩ := cor_cells bV' z1 z2 d1 d2 d3 d4
  clear hgrow ho hown1 bV
  have bV := bV'
  clear bV'
  go_wp2_with fail
  rw [rounds_succ]
  go_wp2_with fail
  rw [rounds_succ]
  go_wp2_with fail
  refine wp_loop_rounds 3 ?_
  rw [rounds_succ]
  go_wp2_with fail
  refine wp_region_ext_move 11 14 _ 7 _ rfl rfl rfl rfl (by kernel_rfl) rfl (by kernel_rfl) (by kernel_rfl) (by kernel_rfl) ?_
  simp only [Act.put, List.setIfInBounds_toArray, List.set_cons_zero, List.set_cons_succ, List.take_succ_cons, List.take_zero, List.drop_succ_cons, List.drop_zero, Nat.reduceSub]
  repeat (go_big_quiet_step ((go_at_call 61; exact Calls.extq_same (rexact_9 _ _ _ (by assumption) (by assumption) (by assumption) (by assumption) (by assumption)))))
  refine wpQuiet_nil ?_
  rintro _ ⟨x2, rfl⟩
  have ho := own_ext x2 hown2
  go_wp2_with (at_builtin; refine wpList_append_own _ rfl (.tmp 34) (.tmp 45) 53 rfl V.heap.size 2 i0 (.int .i64 0) 1 8 Try.underlying53 hi hz0 hz1 hz2 rfl (by decide) _ _ _ rfl (ho.alloc _) ⟨x2.w.heap.size, 0, none⟩ 1 1 [.int .i64 (xh.tdiv yl)] rfl rfl (cell_one_new _ _ _) (by simp [Value.oneCell']) (by unfold maxLen; omega) (by omega) (cor_base_le x2 bV _) ?_; intro v3 W3 hown3 hgrow _)
  refine NoPanic.normal ?_
  have bV' := cor_grown x2 bV ho hgrow
  obtain ⟨c1, c2, c3, c4, s1, s2⟩ := cor_cells bV' z1 z2 d1 d2 d3 d4
  clear hgrow ho hown2 bV
  have bV := bV'
  clear bV'
  go_wp2_with fail
  rw [rounds_succ]
  go_wp2_with fail
  refine wp_region_ext_move 11 14 _ 7 _ rfl rfl rfl rfl (by kernel_rfl) rfl (by kernel_rfl) (by kernel_rfl) (by kernel_rfl) ?_
  simp only [Act.put, List.setIfInBounds_toArray, List.set_cons_zero, List.set_cons_succ, List.take_succ_cons, List.take_zero, List.drop_succ_cons, List.drop_zero, Nat.reduceSub]
  repeat (go_big_quiet_step ((go_at_call 61; exact Calls.extq_same (rexact_9 _ _ _ (by assumption) (by assumption) (by assumption) (by assumption) (by assumption)))))
  refine wpQuiet_nil ?_
  rintro _ ⟨x3, rfl⟩
  have ho := own_ext x3 hown3
  go_wp2_with (at_builtin; refine wpList_append_own _ rfl (.tmp 34) (.tmp 45) 53 rfl V.heap.size 2 i0 (.int .i64 0) 1 8 Try.underlying53 hi hz0 hz1 hz2 rfl (by decide) _ _ _ rfl (ho.alloc _) ⟨x3.w.heap.size, 0, none⟩ 1 1 [.int .i64 (xh.tdiv yh)] rfl rfl (cell_one_new _ _ _) (by simp [Value.oneCell']) (by unfold maxLen; omega) (by omega) (cor_base_le x3 bV _) ?_; intro v4 W4 hown4 hgrow _)
  refine NoPanic.normal ?_
  have bV' := cor_grown x3 bV ho hgrow
  obtain ⟨c1, c2, c3, c4, s1, s2⟩ := cor_cells bV' z1 z2 d1 d2 d3 d4
  clear hgrow ho hown3 bV
  have bV := bV'
  clear bV'
  go_wp2_with fail
  rw [rounds_succ]
  go_wp2_with fail
  rw [rounds_succ]
  go_wp2_with fail
  obtain ⟨g, cap, hv, hB, hg, hc⟩ := own_ints2 (l := [xl.tdiv yl, xl.tdiv yh, xh.tdiv yl, xh.tdiv yh]) rfl (by simpa using hown4) (by simp)
  go_ret
  exact ⟨g, cap, by rw [hv]; rfl, by omega, hg, hc, kB.trans (bV.mono hVs)⟩

end Go.Proofs.Ytjkjcnamlankoaa
