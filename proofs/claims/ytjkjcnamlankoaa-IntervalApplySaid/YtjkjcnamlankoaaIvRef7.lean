/-
  What is proved here: what ontimeref27.divide returns.
-/
import Derived.Test.YtjkjcnamlankoaaIvRef6
namespace Go.Proofs.Ytjkjcnamlankoaa
open Go.RowKit
set_option linter.unusedVariables false
set_option linter.unusedSimpArgs false

theorem news_of {W : World} {g : Nat} {l : List Int} (hc : ∀ i, i < l.length → W.cell? ⟨g, i, none⟩ = some (.int .i64 (nth l i))) : ∀ (j : Nat) (u : Value), (l.map (Value.int .i64))[j]? = some u → W.cell? ((⟨g, 0, none⟩ : Addr).add j) = some u := by
  intro j u h
  have hj : j < l.length := by
    rcases Nat.lt_or_ge j l.length with h' | h'
    · exact h'
    · rw [List.getElem?_eq_none (by simpa using h')] at h; cases h
  have e : (⟨g, 0, none⟩ : Addr).add j = ⟨g, j, none⟩ := by simp [Addr.add]; exact fun h => h.symm
  rw [e, hc j hj]
  simp [hj] at h
  rw [← h]
  simp [nth, List.getD, hj]
theorem news_one (l : List Int) : ∀ u ∈ l.map (Value.int .i64), u.oneCell' = true := by
  intro u hu
  obtain ⟨z, _, rfl⟩ := List.mem_map.1 hu
  rfl

/-- What stays in memory while the reference collects the corners. -/
structure RDiv (w V : World) (xl xh yl yh : Int) : Prop where
  below : Below w.heap.size w V
  s1 : w.heap.size < V.heap.size
  s2 : w.heap.size + 1 < V.heap.size
  s3 : w.heap.size + 1 + 1 < V.heap.size
  c1 : V.cell? ⟨w.heap.size, 0, none⟩ = some (.int .i32 xl)
  c2 : V.cell? ⟨w.heap.size, 1, none⟩ = some (.int .i32 xh)
  c3 : V.cell? ⟨w.heap.size + 1, 0, none⟩ = some (.int .i32 yl)
  c4 : V.cell? ⟨w.heap.size + 1, 1, none⟩ = some (.int .i32 yh)
  c5 : V.cell? ⟨w.heap.size + 1 + 1, 0, none⟩ = some (.int .i32 0)
  c6 : V.cell? ⟨w.heap.size + 1 + 1, 1, none⟩ = some (.int .i32 0)
  f5 : V.frozen? ⟨w.heap.size + 1 + 1, 0, none⟩ = false
  f6 : V.frozen? ⟨w.heap.size + 1 + 1, 1, none⟩ = false
theorem RDiv.later {w V W : World} {xl xh yl yh : Int} (D : RDiv w V xl xh yl yh) (h : Below V.heap.size V W) : RDiv w W xl xh yl yh := by
  have e : ∀ k j, k < V.heap.size → W.cell? ⟨k, j, none⟩ = V.cell? ⟨k, j, none⟩ := fun k j hk => h.cell (p := ⟨k, j, none⟩) hk
  have e' : ∀ k j, k < V.heap.size → W.frozen? ⟨k, j, none⟩ = V.frozen? ⟨k, j, none⟩ := fun k j hk => h.frozen (p := ⟨k, j, none⟩) hk
  have hs := h.size
  have s1 := D.s1
  have s2 := D.s2
  have s3 := D.s3
  exact ⟨D.below.trans (h.mono (by omega)), by omega, by omega, by omega, (e _ _ s1).trans D.c1, (e _ _ s1).trans D.c2, (e _ _ s2).trans D.c3, (e _ _ s2).trans D.c4, (e _ _ s3).trans D.c5, (e _ _ s3).trans D.c6, (e' _ _ s3).trans D.f5, (e' _ _ s3).trans D.f6⟩
theorem rdiv_base (xl xh yl yh : Int) (w : World) (y : Ext (((w.alloc (Obj.cells #[Value.int IntKind.i32 xl, Value.int IntKind.i32 xh] 25)).alloc (Obj.cells #[Value.int IntKind.i32 yl, Value.int IntKind.i32 yh] 25)).alloc (Obj.cells #[Value.int IntKind.i32 0, Value.int IntKind.i32 0] 25))) : ∃ V, y.w = V ∧ RDiv w V xl xh yl yh := by
  have hs : w.heap.size + 1 + 1 + 1 ≤ y.w.heap.size := ks_of y.h
  refine ⟨_, rfl, ?_, by omega, by omega, by omega, ?_, ?_, ?_, ?_, ?_, ?_, ?_, ?_⟩
  · (repeat (first | exact Below.refl _ _ | refine Below.setCell ?_ ?_ _ | refine Ext.below ?_ ?_ _ | refine Below.alloc ?_ ?_ _)) <;> (first | (simp; done) | (simp; omega) | omega | (simp only [World.size_setCell, World.size_alloc]; refine Nat.le_trans ?_ (Below.size (Ext.h _)); simp only [World.size_setCell, World.size_alloc]; omega))
  all_goals (go_simp; done)
/-- A row that is the function's own stays so behind a call and an append. -/
theorem rdiv_grown {V W W2 W' : World} (x : Ext W) (h : Below V.heap.size V W) (hb : Below x.w.heap.size x.w W2) {e : TypeId} {size n : Nat} {v : Value} {xs : List Value} (hown : W2.ownsRow V.heap.size e size v n xs) (hg : W2.grownBy W' v.ownBlock) : Below V.heap.size V W' := by
  have hs := h.size
  have hx := x.h.size
  have h2 := hb.size
  refine (((h.trans (x.h.mono hs)).trans (hb.mono (by omega)))).grown hg (by omega) ?_
  intro k hk
  rcases hown.2 with ⟨rfl, _⟩ | ⟨g, cap, cur, rfl, hb', _⟩
  · cases hk
  · cases hk; exact hb'

theorem rlit {P : Program} {f : FuncId} {args : Array Value} {w : World} {p q : Int} (h : Calls P f args w fun e w' => e = .returned (.int .i64 p) ∧ w = w') (hp : p = q) :
    Calls P f args w fun e w' => e = .returned (.int .i64 q) ∧ w = w' := hp ▸ h

set_option maxRecDepth 100000 in
set_option maxHeartbeats 4000000 in
theorem rdivide_n_a (xl xh yl yh : Int) (w : World) (hx1 : -2147483648 ≤ xl) (hx2 : xl ≤ 2147483647) (hx3 : -2147483648 ≤ xh) (hx4 : xh ≤ 2147483647) (hy1 : -2147483648 ≤ yl) (hy2 : yl ≤ 2147483647) (hy3 : -2147483648 ≤ yh) (hy4 : yh ≤ 2147483647) (nh pl : Int) (NH : Hid (min yh (-1) = nh)) (PL : Hid (max yl 1 = pl)) (BX : Hid ((decide (xl ≤ -2147483648) && decide (-2147483648 ≤ xh)) = false)) (BY : True) (d1 : decide (yl < 0) = true) (d2 : decide (0 < yh) = false) (q1 : yl ≤ nh) (q2 : nh ≤ -1) :
    Calls Try.prog 43 #[.agg #[.int .i32 xl, .int .i32 xh], .agg #[.int .i32 yl, .int .i32 yh]] w fun e w' => e = .returned (.agg #[.int .i32 (hullL [xl.tdiv yl, xl.tdiv nh, xh.tdiv yl, xh.tdiv nh]).1, .int .i32 (hullL [xl.tdiv yl, xl.tdiv nh, xh.tdiv yl, xh.tdiv nh]).2]) ∧ Below w.heap.size w w' := by
  obtain ⟨i0, hi, hz0, hz1, hz2⟩ := info_parts info2
  go_enter Try.func43, Try.ntmps43
  go_wp2_with fail
  refine (Calls.ext (lit_of (rhas_any _ _ _ _) BX.out)).mono ?_
  rintro e _ ⟨rfl, y, rfl⟩
  go_wp2_with fail
  obtain ⟨V, hV, D⟩ := rdiv_base xl xh yl yh w y
  rw [hV]
  clear hV
  have hown : V.ownsRow V.heap.size 2 1 (.slice none 0 0) 0 [] := ⟨rfl, .inl ⟨rfl, rfl⟩⟩
  have bV : Below V.heap.size V V := Below.refl _ _
  obtain ⟨kB, s1, s2, s3, c1, c2, c3, c4, c5, c6, f5, f6⟩ := D.later bV
  go_wp2_with fail
  refine wp_region_ext_move 10 13 _ 5 _ rfl rfl rfl rfl (by kernel_rfl) rfl (by kernel_rfl) (by kernel_rfl) (by kernel_rfl) ?_
  simp only [Act.put, List.setIfInBounds_toArray, List.set_cons_zero, List.set_cons_succ, List.take_succ_cons, List.take_zero, List.drop_succ_cons, List.drop_zero, Nat.reduceSub]
  repeat (go_big_quiet_step ((go_at_call 59; exact Calls.extq_same (rlit (rleast_any _ _ _) NH.out))))
  refine wpQuiet_nil ?_
  rintro _ ⟨x0, rfl⟩
  have ho := own_ext x0 hown
  go_wp2_with fail
  refine (rcorners_9 xl xh yl nh _ hx1 hx2 hx3 hx4 (by omega) (by omega) (by omega) (by omega) (by omega) (by omega)).mono ?_
  rintro e W2 ⟨g, cap, rfl, hge, hg, hc, hb⟩
  have ho2 := own_ext ⟨W2, hb⟩ ho
  go_wp2_with (at_builtin; refine wpList_append_own _ rfl (.tmp 16) (.tmp 26) 53 rfl V.heap.size 2 i0 (.int .i64 0) 1 8 Try.underlying53 hi hz0 hz1 hz2 rfl (by decide) _ _ _ rfl ho2 ⟨g, 0, none⟩ 4 cap ([xl.tdiv yl, xl.tdiv nh, xh.tdiv yl, xh.tdiv nh].map (Value.int .i64)) rfl rfl (news_of hc) (news_one _) (by unfold maxLen; omega) (by omega) (by have := bV.size; have := x0.h.size; have := hb.size; omega) ?_; intro v0 W0 hown0 hgrow _)
  refine NoPanic.normal ?_
  have bV' := rdiv_grown x0 bV hb ho2 hgrow
  obtain ⟨kB, s1, s2, s3, c1, c2, c3, c4, c5, c6, f5, f6⟩ := D.later bV'
  clear hgrow ho ho2 hown bV hc hg hge hb
  have bV := bV'
  clear bV'
  go_wp2_with fail
  obtain ⟨g, cap, hv, hg, hc⟩ := own_ints (l := [xl.tdiv yl, xl.tdiv nh, xh.tdiv yl, xh.tdiv nh]) rfl (by simpa using hown0) (by simp)
  rw [hv]
  clear hv hown0
  refine (Calls.ext (rhull_any g cap [xl.tdiv yl, xl.tdiv nh, xh.tdiv yl, xh.tdiv nh] _ (by simp) (by simp) hg hc)).mono ?_
  rintro e _ ⟨rfl, y5, rfl⟩
  clear hc
  go_wp2
  all_goals
    refine bodyPost_ret (v := .agg #[.int .i32 (hullL [xl.tdiv yl, xl.tdiv nh, xh.tdiv yl, xh.tdiv nh]).1, .int .i32 (hullL [xl.tdiv yl, xl.tdiv nh, xh.tdiv yl, xh.tdiv nh]).2]) ?hr rfl ⟨rfl, ?bel⟩
    case hr =>
      simp [results, Try.results43, go_sem, c5, c6, s3]
    case bel =>
      exact Below.setCell (Below.setCell (Ext.below kB (by omega) y5) (by simp; omega) _) (by simp; omega) _

set_option maxRecDepth 100000 in
set_option maxHeartbeats 4000000 in
theorem rdivide_p_a (xl xh yl yh : Int) (w : World) (hx1 : -2147483648 ≤ xl) (hx2 : xl ≤ 2147483647) (hx3 : -2147483648 ≤ xh) (hx4 : xh ≤ 2147483647) (hy1 : -2147483648 ≤ yl) (hy2 : yl ≤ 2147483647) (hy3 : -2147483648 ≤ yh) (hy4 : yh ≤ 2147483647) (nh pl : Int) (NH : Hid (min yh (-1) = nh)) (PL : Hid (max yl 1 = pl)) (BX : Hid ((decide (xl ≤ -2147483648) && decide (-2147483648 ≤ xh)) = false)) (BY : True) (d1 : decide (yl < 0) = false) (d2 : decide (0 < yh) = true) (q1 : 1 ≤ pl) (q2 : pl ≤ yh) :
    Calls Try.prog 43 #[.agg #[.int .i32 xl, .int .i32 xh], .agg #[.int .i32 yl, .int .i32 yh]] w fun e w' => e = .returned (.agg #[.int .i32 (hullL [xl.tdiv pl, xl.tdiv yh, xh.tdiv pl, xh.tdiv yh]).1, .int .i32 (hullL [xl.tdiv pl, xl.tdiv yh, xh.tdiv pl, xh.tdiv yh]).2]) ∧ Below w.heap.size w w' := by
  obtain ⟨i0, hi, hz0, hz1, hz2⟩ := info_parts info2
  go_enter Try.func43, Try.ntmps43
  go_wp2_with fail
  refine (Calls.ext (lit_of (rhas_any _ _ _ _) BX.out)).mono ?_
  rintro e _ ⟨rfl, y, rfl⟩
  go_wp2_with fail
  obtain ⟨V, hV, D⟩ := rdiv_base xl xh yl yh w y
  rw [hV]
  clear hV
  have hown : V.ownsRow V.heap.size 2 1 (.slice none 0 0) 0 [] := ⟨rfl, .inl ⟨rfl, rfl⟩⟩
  have bV : Below V.heap.size V V := Below.refl _ _
  obtain ⟨kB, s1, s2, s3, c1, c2, c3, c4, c5, c6, f5, f6⟩ := D.later bV
  go_wp2_with fail
  refine wp_region_ext_move 10 13 _ 5 _ rfl rfl rfl rfl (by kernel_rfl) rfl (by kernel_rfl) (by kernel_rfl) (by kernel_rfl) ?_
  simp only [Act.put, List.setIfInBounds_toArray, List.set_cons_zero, List.set_cons_succ, List.take_succ_cons, List.take_zero, List.drop_succ_cons, List.drop_zero, Nat.reduceSub]
  repeat (go_big_quiet_step ((go_at_call 60; exact Calls.extq_same (rlit (rmost_any _ _ _) PL.out))))
  refine wpQuiet_nil ?_
  rintro _ ⟨x0, rfl⟩
  have ho := own_ext x0 hown
  go_wp2_with fail
  refine (rcorners_9 xl xh pl yh _ hx1 hx2 hx3 hx4 (by omega) (by omega) (by omega) (by omega) (by omega) (by omega)).mono ?_
  rintro e W2 ⟨g, cap, rfl, hge, hg, hc, hb⟩
  have ho2 := own_ext ⟨W2, hb⟩ ho
  go_wp2_with (at_builtin; refine wpList_append_own _ rfl (.tmp 31) (.tmp 41) 53 rfl V.heap.size 2 i0 (.int .i64 0) 1 8 Try.underlying53 hi hz0 hz1 hz2 rfl (by decide) _ _ _ rfl ho2 ⟨g, 0, none⟩ 4 cap ([xl.tdiv pl, xl.tdiv yh, xh.tdiv pl, xh.tdiv yh].map (Value.int .i64)) rfl rfl (news_of hc) (news_one _) (by unfold maxLen; omega) (by omega) (by have := bV.size; have := x0.h.size; have := hb.size; omega) ?_; intro v0 W0 hown0 hgrow _)
  refine NoPanic.normal ?_
  have bV' := rdiv_grown x0 bV hb ho2 hgrow
  obtain ⟨kB, s1, s2, s3, c1, c2, c3, c4, c5, c6, f5, f6⟩ := D.later bV'
  clear hgrow ho ho2 hown bV hc hg hge hb
  have bV := bV'
  clear bV'
  go_wp2_with fail
  obtain ⟨g, cap, hv, hg, hc⟩ := own_ints (l := [xl.tdiv pl, xl.tdiv yh, xh.tdiv pl, xh.tdiv yh]) rfl (by simpa using hown0) (by simp)
  rw [hv]
  clear hv hown0
  refine (Calls.ext (rhull_any g cap [xl.tdiv pl, xl.tdiv yh, xh.tdiv pl, xh.tdiv yh] _ (by simp) (by simp) hg hc)).mono ?_
  rintro e _ ⟨rfl, y5, rfl⟩
  clear hc
  go_wp2
  all_goals
    refine bodyPost_ret (v := .agg #[.int .i32 (hullL [xl.tdiv pl, xl.tdiv yh, xh.tdiv pl, xh.tdiv yh]).1, .int .i32 (hullL [xl.tdiv pl, xl.tdiv yh, xh.tdiv pl, xh.tdiv yh]).2]) ?hr rfl ⟨rfl, ?bel⟩
    case hr =>
      simp [results, Try.results43, go_sem, c5, c6, s3]
    case bel =>
      exact Below.setCell (Below.setCell (Ext.below kB (by omega) y5) (by simp; omega) _) (by simp; omega) _

set_option maxRecDepth 100000 in
set_option maxHeartbeats 4000000 in
theorem rdivide_np_a (xl xh yl yh : Int) (w : World) (hx1 : -2147483648 ≤ xl) (hx2 : xl ≤ 2147483647) (hx3 : -2147483648 ≤ xh) (hx4 : xh ≤ 2147483647) (hy1 : -2147483648 ≤ yl) (hy2 : yl ≤ 2147483647) (hy3 : -2147483648 ≤ yh) (hy4 : yh ≤ 2147483647) (nh pl : Int) (NH : Hid (min yh (-1) = nh)) (PL : Hid (max yl 1 = pl)) (BX : Hid ((decide (xl ≤ -2147483648) && decide (-2147483648 ≤ xh)) = false)) (BY : True) (d1 : decide (yl < 0) = true) (d2 : decide (0 < yh) = true) (q1 : yl ≤ nh) (q2 : nh ≤ -1) (q3 : 1 ≤ pl) (q4 : pl ≤ yh) :
    Calls Try.prog 43 #[.agg #[.int .i32 xl, .int .i32 xh], .agg #[.int .i32 yl, .int .i32 yh]] w fun e w' => e = .returned (.agg #[.int .i32 (hullL [xl.tdiv yl, xl.tdiv nh, xh.tdiv yl, xh.tdiv nh, xl.tdiv pl, xl.tdiv yh, xh.tdiv pl, xh.tdiv yh]).1, .int .i32 (hullL [xl.tdiv yl, xl.tdiv nh, xh.tdiv yl, xh.tdiv nh, xl.tdiv pl, xl.tdiv yh, xh.tdiv pl, xh.tdiv yh]).2]) ∧ Below w.heap.size w w' := by
  obtain ⟨i0, hi, hz0, hz1, hz2⟩ := info_parts info2
  go_enter Try.func43, Try.ntmps43
  go_wp2_with fail
  refine (Calls.ext (lit_of (rhas_any _ _ _ _) BX.out)).mono ?_
  rintro e _ ⟨rfl, y, rfl⟩
  go_wp2_with fail
  obtain ⟨V, hV, D⟩ := rdiv_base xl xh yl yh w y
  rw [hV]
  clear hV
  have hown : V.ownsRow V.heap.size 2 1 (.slice none 0 0) 0 [] := ⟨rfl, .inl ⟨rfl, rfl⟩⟩
  have bV : Below V.heap.size V V := Below.refl _ _
  obtain ⟨kB, s1, s2, s3, c1, c2, c3, c4, c5, c6, f5, f6⟩ := D.later bV
  go_wp2_with fail
  refine wp_region_ext_move 10 13 _ 5 _ rfl rfl rfl rfl (by kernel_rfl) rfl (by kernel_rfl) (by kernel_rfl) (by kernel_rfl) ?_
  simp only [Act.put, List.setIfInBounds_toArray, List.set_cons_zero, List.set_cons_succ, List.take_succ_cons, List.take_zero, List.drop_succ_cons, List.drop_zero, Nat.reduceSub]
  repeat (go_big_quiet_step ((go_at_call 59; exact Calls.extq_same (rlit (rleast_any _ _ _) NH.out))))
  refine wpQuiet_nil ?_
  rintro _ ⟨x0, rfl⟩
  have ho := own_ext x0 hown
  go_wp2_with fail
  refine (rcorners_9 xl xh yl nh _ hx1 hx2 hx3 hx4 (by omega) (by omega) (by omega) (by omega) (by omega) (by omega)).mono ?_
  rintro e W2 ⟨g, cap, rfl, hge, hg, hc, hb⟩
  have ho2 := own_ext ⟨W2, hb⟩ ho
  go_wp2_with (at_builtin; refine wpList_append_own _ rfl (.tmp 16) (.tmp 26) 53 rfl V.heap.size 2 i0 (.int .i64 0) 1 8 Try.underlying53 hi hz0 hz1 hz2 rfl (by decide) _ _ _ rfl ho2 ⟨g, 0, none⟩ 4 cap ([xl.tdiv yl, xl.tdiv nh, xh.tdiv yl, xh.tdiv nh].map (Value.int .i64)) rfl rfl (news_of hc) (news_one _) (by unfold maxLen; omega) (by omega) (by have := bV.size; have := x0.h.size; have := hb.size; omega) ?_; intro v0 W0 hown0 hgrow _)
  refine NoPanic.normal ?_
  have bV' := rdiv_grown x0 bV hb ho2 hgrow
  obtain ⟨kB, s1, s2, s3, c1, c2, c3, c4, c5, c6, f5, f6⟩ := D.later bV'
  clear hgrow ho ho2 hown bV hc hg hge hb
  have bV := bV'
  clear bV'
  go_wp2_with fail
  refine wp_region_ext_move 10 13 _ 5 _ rfl rfl rfl rfl (by kernel_rfl) rfl (by kernel_rfl) (by kernel_rfl) (by kernel_rfl) ?_
  simp only [Act.put, List.setIfInBounds_toArray, List.set_cons_zero, List.set_cons_succ, List.take_succ_cons, List.take_zero, List.drop_succ_cons, List.drop_zero, Nat.reduceSub]
  repeat (go_big_quiet_step ((go_at_call 60; exact Calls.extq_same (rlit (rmost_any _ _ _) PL.out))))
  refine wpQuiet_nil ?_
  rintro _ ⟨x1, rfl⟩
  have ho := own_ext x1 hown0
  go_wp2_with fail
  refine (rcorners_9 xl xh pl yh _ hx1 hx2 hx3 hx4 (by omega) (by omega) (by omega) (by omega) (by omega) (by omega)).mono ?_
  rintro e W2 ⟨g, cap, rfl, hge, hg, hc, hb⟩
  have ho2 := own_ext ⟨W2, hb⟩ ho
  go_wp2_with (at_builtin; refine wpList_append_own _ rfl (.tmp 31) (.tmp 41) 53 rfl V.heap.size 2 i0 (.int .i64 0) 1 8 Try.underlying53 hi hz0 hz1 hz2 rfl (by decide) _ _ _ rfl ho2 ⟨g, 0, none⟩ 4 cap ([xl.tdiv pl, xl.tdiv yh, xh.tdiv pl, xh.tdiv yh].map (Value.int .i64)) rfl rfl (news_of hc) (news_one _) (by unfold maxLen; omega) (by omega) (by have := bV.size; have := x1.h.size; have := hb.size; omega) ?_; intro v1 W1 hown1 hgrow _)
  refine NoPanic.normal ?_
  have bV' := rdiv_grown x1 bV hb ho2 hgrow
  obtain ⟨kB, s1, s2, s3, c1, c2, c3, c4, c5, c6, f5, f6⟩ := D.later bV'
  clear hgrow ho ho2 hown0 bV hc hg hge hb
  have bV := bV'
  clear bV'
  go_wp2_with fail
  obtain ⟨g, cap, hv, hg, hc⟩ := own_ints (l := [xl.tdiv yl, xl.tdiv nh, xh.tdiv yl, xh.tdiv nh, xl.tdiv pl, xl.tdiv yh, xh.tdiv pl, xh.tdiv yh]) rfl (by simpa using hown1) (by simp)
  rw [hv]
  clear hv hown1
  refine (Calls.ext (rhull_any g cap [xl.tdiv yl, xl.tdiv nh, xh.tdiv yl, xh.tdiv nh, xl.tdiv pl, xl.tdiv yh, xh.tdiv pl, xh.tdiv yh] _ (by simp) (by simp) hg hc)).mono ?_
  rintro e _ ⟨rfl, y5, rfl⟩
  clear hc
  go_wp2
  all_goals
    refine bodyPost_ret (v := .agg #[.int .i32 (hullL [xl.tdiv yl, xl.tdiv nh, xh.tdiv yl, xh.tdiv nh, xl.tdiv pl, xl.tdiv yh, xh.tdiv pl, xh.tdiv yh]).1, .int .i32 (hullL [xl.tdiv yl, xl.tdiv nh, xh.tdiv yl, xh.tdiv nh, xl.tdiv pl, xl.tdiv yh, xh.tdiv pl, xh.tdiv yh]).2]) ?hr rfl ⟨rfl, ?bel⟩
    case hr =>
      simp [results, Try.results43, go_sem, c5, c6, s3]
    case bel =>
      exact Below.setCell (Below.setCell (Ext.below kB (by omega) y5) (by simp; omega) _) (by simp; omega) _

set_option maxRecDepth 100000 in
set_option maxHeartbeats 4000000 in
theorem rdivide_n_b (xl xh yl yh : Int) (w : World) (hx1 : -2147483648 ≤ xl) (hx2 : xl ≤ 2147483647) (hx3 : -2147483648 ≤ xh) (hx4 : xh ≤ 2147483647) (hy1 : -2147483648 ≤ yl) (hy2 : yl ≤ 2147483647) (hy3 : -2147483648 ≤ yh) (hy4 : yh ≤ 2147483647) (nh pl : Int) (NH : Hid (min yh (-1) = nh)) (PL : Hid (max yl 1 = pl)) (BX : Hid ((decide (xl ≤ -2147483648) && decide (-2147483648 ≤ xh)) = true)) (BY : Hid ((decide (yl ≤ -1) && decide (-1 ≤ yh)) = false)) (d1 : decide (yl < 0) = true) (d2 : decide (0 < yh) = false) (q1 : yl ≤ nh) (q2 : nh ≤ -1) :
    Calls Try.prog 43 #[.agg #[.int .i32 xl, .int .i32 xh], .agg #[.int .i32 yl, .int .i32 yh]] w fun e w' => e = .returned (.agg #[.int .i32 (hullL [xl.tdiv yl, xl.tdiv nh, xh.tdiv yl, xh.tdiv nh]).1, .int .i32 (hullL [xl.tdiv yl, xl.tdiv nh, xh.tdiv yl, xh.tdiv nh]).2]) ∧ Below w.heap.size w w' := by
  obtain ⟨i0, hi, hz0, hz1, hz2⟩ := info_parts info2
  go_enter Try.func43, Try.ntmps43
  go_wp2_with fail
  refine (Calls.ext (lit_of (rhas_any _ _ _ _) BX.out)).mono ?_
  rintro e _ ⟨rfl, y, rfl⟩
  go_wp2_with fail
  refine (Calls.extq (lit_of (rhas_any _ _ _ _) BY.out)).mono ?_
  rintro e _ ⟨rfl, y, rfl⟩
  go_wp2_with fail
  obtain ⟨V, hV, D⟩ := rdiv_base xl xh yl yh w y
  rw [hV]
  clear hV
  have hown : V.ownsRow V.heap.size 2 1 (.slice none 0 0) 0 [] := ⟨rfl, .inl ⟨rfl, rfl⟩⟩
  have bV : Below V.heap.size V V := Below.refl _ _
  obtain ⟨kB, s1, s2, s3, c1, c2, c3, c4, c5, c6, f5, f6⟩ := D.later bV
  go_wp2_with fail
  refine wp_region_ext_move 10 13 _ 5 _ rfl rfl rfl rfl (by kernel_rfl) rfl (by kernel_rfl) (by kernel_rfl) (by kernel_rfl) ?_
  simp only [Act.put, List.setIfInBounds_toArray, List.set_cons_zero, List.set_cons_succ, List.take_succ_cons, List.take_zero, List.drop_succ_cons, List.drop_zero, Nat.reduceSub]
  repeat (go_big_quiet_step ((go_at_call 59; exact Calls.extq_same (rlit (rleast_any _ _ _) NH.out))))
  refine wpQuiet_nil ?_
  rintro _ ⟨x0, rfl⟩
  have ho := own_ext x0 hown
  go_wp2_with fail
  refine (rcorners_9 xl xh yl nh _ hx1 hx2 hx3 hx4 (by omega) (by omega) (by omega) (by omega) (by omega) (by omega)).mono ?_
  rintro e W2 ⟨g, cap, rfl, hge, hg, hc, hb⟩
  have ho2 := own_ext ⟨W2, hb⟩ ho
  go_wp2_with (at_builtin; refine wpList_append_own _ rfl (.tmp 16) (.tmp 26) 53 rfl V.heap.size 2 i0 (.int .i64 0) 1 8 Try.underlying53 hi hz0 hz1 hz2 rfl (by decide) _ _ _ rfl ho2 ⟨g, 0, none⟩ 4 cap ([xl.tdiv yl, xl.tdiv nh, xh.tdiv yl, xh.tdiv nh].map (Value.int .i64)) rfl rfl (news_of hc) (news_one _) (by unfold maxLen; omega) (by omega) (by have := bV.size; have := x0.h.size; have := hb.size; omega) ?_; intro v0 W0 hown0 hgrow _)
  refine NoPanic.normal ?_
  have bV' := rdiv_grown x0 bV hb ho2 hgrow
  obtain ⟨kB, s1, s2, s3, c1, c2, c3, c4, c5, c6, f5, f6⟩ := D.later bV'
  clear hgrow ho ho2 hown bV hc hg hge hb
  have bV := bV'
  clear bV'
  go_wp2_with fail
  obtain ⟨g, cap, hv, hg, hc⟩ := own_ints (l := [xl.tdiv yl, xl.tdiv nh, xh.tdiv yl, xh.tdiv nh]) rfl (by simpa using hown0) (by simp)
  rw [hv]
  clear hv hown0
  refine (Calls.ext (rhull_any g cap [xl.tdiv yl, xl.tdiv nh, xh.tdiv yl, xh.tdiv nh] _ (by simp) (by simp) hg hc)).mono ?_
  rintro e _ ⟨rfl, y5, rfl⟩
  clear hc
  go_wp2
  all_goals
    refine bodyPost_ret (v := .agg #[.int .i32 (hullL [xl.tdiv yl, xl.tdiv nh, xh.tdiv yl, xh.tdiv nh]).1, .int .i32 (hullL [xl.tdiv yl, xl.tdiv nh, xh.tdiv yl, xh.tdiv nh]).2]) ?hr rfl ⟨rfl, ?bel⟩
    case hr =>
      simp [results, Try.results43, go_sem, c5, c6, s3]
    case bel =>
      exact Below.setCell (Below.setCell (Ext.below kB (by omega) y5) (by simp; omega) _) (by simp; omega) _

set_option maxRecDepth 100000 in
set_option maxHeartbeats 4000000 in
theorem rdivide_p_b (xl xh yl yh : Int) (w : World) (hx1 : -2147483648 ≤ xl) (hx2 : xl ≤ 2147483647) (hx3 : -2147483648 ≤ xh) (hx4 : xh ≤ 2147483647) (hy1 : -2147483648 ≤ yl) (hy2 : yl ≤ 2147483647) (hy3 : -2147483648 ≤ yh) (hy4 : yh ≤ 2147483647) (nh pl : Int) (NH : Hid (min yh (-1) = nh)) (PL : Hid (max yl 1 = pl)) (BX : Hid ((decide (xl ≤ -2147483648) && decide (-2147483648 ≤ xh)) = true)) (BY : Hid ((decide (yl ≤ -1) && decide (-1 ≤ yh)) = false)) (d1 : decide (yl < 0) = false) (d2 : decide (0 < yh) = true) (q1 : 1 ≤ pl) (q2 : pl ≤ yh) :
    Calls Try.prog 43 #[.agg #[.int .i32 xl, .int .i32 xh], .agg #[.int .i32 yl, .int .i32 yh]] w fun e w' => e = .returned (.agg #[.int .i32 (hullL [xl.tdiv pl, xl.tdiv yh, xh.tdiv pl, xh.tdiv yh]).1, .int .i32 (hullL [xl.tdiv pl, xl.tdiv yh, xh.tdiv pl, xh.tdiv yh]).2]) ∧ Below w.heap.size w w' := by
  obtain ⟨i0, hi, hz0, hz1, hz2⟩ := info_parts info2
  go_enter Try.func43, Try.ntmps43
  go_wp2_with fail
  refine (Calls.ext (lit_of (rhas_any _ _ _ _) BX.out)).mono ?_
  rintro e _ ⟨rfl, y, rfl⟩
  go_wp2_with fail
  refine (Calls.extq (lit_of (rhas_any _ _ _ _) BY.out)).mono ?_
  rintro e _ ⟨rfl, y, rfl⟩
  go_wp2_with fail
  obtain ⟨V, hV, D⟩ := rdiv_base xl xh yl yh w y
  rw [hV]
  clear hV
  have hown : V.ownsRow V.heap.size 2 1 (.slice none 0 0) 0 [] := ⟨rfl, .inl ⟨rfl, rfl⟩⟩
  have bV : Below V.heap.size V V := Below.refl _ _
  obtain ⟨kB, s1, s2, s3, c1, c2, c3, c4, c5, c6, f5, f6⟩ := D.later bV
  go_wp2_with fail
  refine wp_region_ext_move 10 13 _ 5 _ rfl rfl rfl rfl (by kernel_rfl) rfl (by kernel_rfl) (by kernel_rfl) (by kernel_rfl) ?_
  simp only [Act.put, List.setIfInBounds_toArray, List.set_cons_zero, List.set_cons_succ, List.take_succ_cons, List.take_zero, List.drop_succ_cons, List.drop_zero, Nat.reduceSub]
  repeat (go_big_quiet_step ((go_at_call 60; exact Calls.extq_same (rlit (rmost_any _ _ _) PL.out))))
  refine wpQuiet_nil ?_
  rintro _ ⟨x0, rfl⟩
  have ho := own_ext x0 hown
  go_wp2_with fail
  refine (rcorners_9 xl xh pl yh _ hx1 hx2 hx3 hx4 (by omega) (by omega) (by omega) (by omega) (by omega) (by omega)).mono ?_
  rintro e W2 ⟨g, cap, rfl, hge, hg, hc, hb⟩
  have ho2 := own_ext ⟨W2, hb⟩ ho
  go_wp2_with (at_builtin; refine wpList_append_own _ rfl (.tmp 31) (.tmp 41) 53 rfl V.heap.size 2 i0 (.int .i64 0) 1 8 Try.underlying53 hi hz0 hz1 hz2 rfl (by decide) _ _ _ rfl ho2 ⟨g, 0, none⟩ 4 cap ([xl.tdiv pl, xl.tdiv yh, xh.tdiv pl, xh.tdiv yh].map (Value.int .i64)) rfl rfl (news_of hc) (news_one _) (by unfold maxLen; omega) (by omega) (by have := bV.size; have := x0.h.size; have := hb.size; omega) ?_; intro v0 W0 hown0 hgrow _)
  refine NoPanic.normal ?_
  have bV' := rdiv_grown x0 bV hb ho2 hgrow
  obtain ⟨kB, s1, s2, s3, c1, c2, c3, c4, c5, c6, f5, f6⟩ := D.later bV'
  clear hgrow ho ho2 hown bV hc hg hge hb
  have bV := bV'
  clear bV'
  go_wp2_with fail
  obtain ⟨g, cap, hv, hg, hc⟩ := own_ints (l := [xl.tdiv pl, xl.tdiv yh, xh.tdiv pl, xh.tdiv yh]) rfl (by simpa using hown0) (by simp)
  rw [hv]
  clear hv hown0
  refine (Calls.ext (rhull_any g cap [xl.tdiv pl, xl.tdiv yh, xh.tdiv pl, xh.tdiv yh] _ (by simp) (by simp) hg hc)).mono ?_
  rintro e _ ⟨rfl, y5, rfl⟩
  clear hc
  go_wp2
  all_goals
    refine bodyPost_ret (v := .agg #[.int .i32 (hullL [xl.tdiv pl, xl.tdiv yh, xh.tdiv pl, xh.tdiv yh]).1, .int .i32 (hullL [xl.tdiv pl, xl.tdiv yh, xh.tdiv pl, xh.tdiv yh]).2]) ?hr rfl ⟨rfl, ?bel⟩
    case hr =>
      simp [results, Try.results43, go_sem, c5, c6, s3]
    case bel =>
      exact Below.setCell (Below.setCell (Ext.below kB (by omega) y5) (by simp; omega) _) (by simp; omega) _

set_option maxRecDepth 100000 in
set_option maxHeartbeats 4000000 in
theorem rdivide_np_b (xl xh yl yh : Int) (w : World) (hx1 : -2147483648 ≤ xl) (hx2 : xl ≤ 2147483647) (hx3 : -2147483648 ≤ xh) (hx4 : xh ≤ 2147483647) (hy1 : -2147483648 ≤ yl) (hy2 : yl ≤ 2147483647) (hy3 : -2147483648 ≤ yh) (hy4 : yh ≤ 2147483647) (nh pl : Int) (NH : Hid (min yh (-1) = nh)) (PL : Hid (max yl 1 = pl)) (BX : Hid ((decide (xl ≤ -2147483648) && decide (-2147483648 ≤ xh)) = true)) (BY : Hid ((decide (yl ≤ -1) && decide (-1 ≤ yh)) = false)) (d1 : decide (yl < 0) = true) (d2 : decide (0 < yh) = true) (q1 : yl ≤ nh) (q2 : nh ≤ -1) (q3 : 1 ≤ pl) (q4 : pl ≤ yh) :
    Calls Try.prog 43 #[.agg #[.int .i32 xl, .int .i32 xh], .agg #[.int .i32 yl, .int .i32 yh]] w fun e w' => e = .returned (.agg #[.int .i32 (hullL [xl.tdiv yl, xl.tdiv nh, xh.tdiv yl, xh.tdiv nh, xl.tdiv pl, xl.tdiv yh, xh.tdiv pl, xh.tdiv yh]).1, .int .i32 (hullL [xl.tdiv yl, xl.tdiv nh, xh.tdiv yl, xh.tdiv nh, xl.tdiv pl, xl.tdiv yh, xh.tdiv pl, xh.tdiv yh]).2]) ∧ Below w.heap.size w w' := by
  obtain ⟨i0, hi, hz0, hz1, hz2⟩ := info_parts info2
  go_enter Try.func43, Try.ntmps43
  go_wp2_with fail
  refine (Calls.ext (lit_of (rhas_any _ _ _ _) BX.out)).mono ?_
  rintro e _ ⟨rfl, y, rfl⟩
  go_wp2_with fail
  refine (Calls.extq (lit_of (rhas_any _ _ _ _) BY.out)).mono ?_
  rintro e _ ⟨rfl, y, rfl⟩
  go_wp2_with fail
  obtain ⟨V, hV, D⟩ := rdiv_base xl xh yl yh w y
  rw [hV]
  clear hV
  have hown : V.ownsRow V.heap.size 2 1 (.slice none 0 0) 0 [] := ⟨rfl, .inl ⟨rfl, rfl⟩⟩
  have bV : Below V.heap.size V V := Below.refl _ _
  obtain ⟨kB, s1, s2, s3, c1, c2, c3, c4, c5, c6, f5, f6⟩ := D.later bV
  go_wp2_with fail
  refine wp_region_ext_move 10 13 _ 5 _ rfl rfl rfl rfl (by kernel_rfl) rfl (by kernel_rfl) (by kernel_rfl) (by kernel_rfl) ?_
  simp only [Act.put, List.setIfInBounds_toArray, List.set_cons_zero, List.set_cons_succ, List.take_succ_cons, List.take_zero, List.drop_succ_cons, List.drop_zero, Nat.reduceSub]
  repeat (go_big_quiet_step ((go_at_call 59; exact Calls.extq_same (rlit (rleast_any _ _ _) NH.out))))
  refine wpQuiet_nil ?_
  rintro _ ⟨x0, rfl⟩
  have ho := own_ext x0 hown
  go_wp2_with fail
  refine (rcorners_9 xl xh yl nh _ hx1 hx2 hx3 hx4 (by omega) (by omega) (by omega) (by omega) (by omega) (by omega)).mono ?_
  rintro e W2 ⟨g, cap, rfl, hge, hg, hc, hb⟩
  have ho2 := own_ext ⟨W2, hb⟩ ho
  go_wp2_with (at_builtin; refine wpList_append_own _ rfl (.tmp 16) (.tmp 26) 53 rfl V.heap.size 2 i0 (.int .i64 0) 1 8 Try.underlying53 hi hz0 hz1 hz2 rfl (by decide) _ _ _ rfl ho2 ⟨g, 0, none⟩ 4 cap ([xl.tdiv yl, xl.tdiv nh, xh.tdiv yl, xh.tdiv nh].map (Value.int .i64)) rfl rfl (news_of hc) (news_one _) (by unfold maxLen; omega) (by omega) (by have := bV.size; have := x0.h.size; have := hb.size; omega) ?_; intro v0 W0 hown0 hgrow _)
  refine NoPanic.normal ?_
  have bV' := rdiv_grown x0 bV hb ho2 hgrow
  obtain ⟨kB, s1, s2, s3, c1, c2, c3, c4, c5, c6, f5, f6⟩ := D.later bV'
  clear hgrow ho ho2 hown bV hc hg hge hb
  have bV := bV'
  clear bV'
  go_wp2_with fail
  refine wp_region_ext_move 10 13 _ 5 _ rfl rfl rfl rfl (by kernel_rfl) rfl (by kernel_rfl) (by kernel_rfl) (by kernel_rfl) ?_
  simp only [Act.put, List.setIfInBounds_toArray, List.set_cons_zero, List.set_cons_succ, List.take_succ_cons, List.take_zero, List.drop_succ_cons, List.drop_zero, Nat.reduceSub]
  repeat (go_big_quiet_step ((go_at_call 60; exact Calls.extq_same (rlit (rmost_any _ _ _) PL.out))))
  refine wpQuiet_nil ?_
  rintro _ ⟨x1, rfl⟩
  have ho := own_ext x1 hown0
  go_wp2_with fail
  refine (rcorners_9 xl xh pl yh _ hx1 hx2 hx3 hx4 (by omega) (by omega) (by omega) (by omega) (by omega) (by omega)).mono ?_
  rintro e W2 ⟨g, cap, rfl, hge, hg, hc, hb⟩
  have ho2 := own_ext ⟨W2, hb⟩ ho
  go_wp2_with (at_builtin; refine wpList_append_own _ rfl (.tmp 31) (.tmp 41) 53 rfl V.heap.size 2 i0 (.int .i64 0) 1 8 Try.underlying53 hi hz0 hz1 hz2 rfl (by decide) _ _ _ rfl ho2 ⟨g, 0, none⟩ 4 cap ([xl.tdiv pl, xl.tdiv yh, xh.tdiv pl, xh.tdiv yh].map (Value.int .i64)) rfl rfl (news_of hc) (news_one _) (by unfold maxLen; omega) (by omega) (by have := bV.size; have := x1.h.size; have := hb.size; omega) ?_; intro v1 W1 hown1 hgrow _)
  refine NoPanic.normal ?_
  have bV' := rdiv_grown x1 bV hb ho2 hgrow
  obtain ⟨kB, s1, s2, s3, c1, c2, c3, c4, c5, c6, f5, f6⟩ := D.later bV'
  clear hgrow ho ho2 hown0 bV hc hg hge hb
  have bV := bV'
  clear bV'
  go_wp2_with fail
  obtain ⟨g, cap, hv, hg, hc⟩ := own_ints (l := [xl.tdiv yl, xl.tdiv nh, xh.tdiv yl, xh.tdiv nh, xl.tdiv pl, xl.tdiv yh, xh.tdiv pl, xh.tdiv yh]) rfl (by simpa using hown1) (by simp)
  rw [hv]
  clear hv hown1
  refine (Calls.ext (rhull_any g cap [xl.tdiv yl, xl.tdiv nh, xh.tdiv yl, xh.tdiv nh, xl.tdiv pl, xl.tdiv yh, xh.tdiv pl, xh.tdiv yh] _ (by simp) (by simp) hg hc)).mono ?_
  rintro e _ ⟨rfl, y5, rfl⟩
  clear hc
  go_wp2
  all_goals
    refine bodyPost_ret (v := .agg #[.int .i32 (hullL [xl.tdiv yl, xl.tdiv nh, xh.tdiv yl, xh.tdiv nh, xl.tdiv pl, xl.tdiv yh, xh.tdiv pl, xh.tdiv yh]).1, .int .i32 (hullL [xl.tdiv yl, xl.tdiv nh, xh.tdiv yl, xh.tdiv nh, xl.tdiv pl, xl.tdiv yh, xh.tdiv pl, xh.tdiv yh]).2]) ?hr rfl ⟨rfl, ?bel⟩
    case hr =>
      simp [results, Try.results43, go_sem, c5, c6, s3]
    case bel =>
      exact Below.setCell (Below.setCell (Ext.below kB (by omega) y5) (by simp; omega) _) (by simp; omega) _

set_option maxRecDepth 100000 in
set_option maxHeartbeats 1000000 in
theorem rdivide_over (xl xh yl yh : Int) (w : World) (BX : Hid ((decide (xl ≤ -2147483648) && decide (-2147483648 ≤ xh)) = true)) (BY : Hid ((decide (yl ≤ -1) && decide (-1 ≤ yh)) = true)) :
    Calls Try.prog 43 #[.agg #[.int .i32 xl, .int .i32 xh], .agg #[.int .i32 yl, .int .i32 yh]] w fun e w' => e = .returned (.agg #[.int .i32 (-2147483648), .int .i32 2147483647]) ∧ Below w.heap.size w w' := by
  go_enter Try.func43, Try.ntmps43
  go_wp2_with (first | (go_at_call 36; ((first | (with_reducible refine (Calls.extq (rfull_any _)).mono ?_) | (refine (Calls.ext (rfull_any _)).mono ?_)); rintro e _ ⟨rfl, y, rfl⟩)) | (go_at_call 48; (first | (with_reducible refine (Calls.extq (lit_of (rhas_any _ _ _ _) BX.out)).mono ?_) | (with_reducible refine (Calls.ext (lit_of (rhas_any _ _ _ _) BX.out)).mono ?_) | (with_reducible refine (Calls.extq (lit_of (rhas_any _ _ _ _) BY.out)).mono ?_)); rintro e _ ⟨rfl, y, rfl⟩))
  all_goals
    refine bodyPost_ret (v := .agg #[.int .i32 (-2147483648), .int .i32 2147483647]) ?hr rfl ⟨rfl, ?bel⟩
    case hr =>
      simp [results, Try.results43, go_sem]
    case bel =>
      (repeat (first | exact Below.refl _ _ | refine Below.setCell ?_ ?_ _ | refine Ext.below ?_ ?_ _ | refine Below.alloc ?_ ?_ _)) <;> (first | (simp; done) | (simp; omega) | omega | (simp only [World.size_setCell, World.size_alloc]; refine Nat.le_trans ?_ (Below.size (Ext.h _)); simp only [World.size_setCell, World.size_alloc]; omega))

theorem rdivide_any (xl xh yl yh : Int) (w : World) (hx1 : -2147483648 ≤ xl) (hx2 : xl ≤ 2147483647) (hx3 : -2147483648 ≤ xh) (hx4 : xh ≤ 2147483647) (hy1 : -2147483648 ≤ yl) (hy2 : yl ≤ 2147483647) (hy3 : -2147483648 ≤ yh) (hy4 : yh ≤ 2147483647) (he : xl ≤ xh) (he' : yl ≤ yh) (z : ¬ (yl = 0 ∧ yh = 0)) :
    Calls Try.prog 43 #[.agg #[.int .i32 xl, .int .i32 xh], .agg #[.int .i32 yl, .int .i32 yh]] w fun e w' => e = .returned (.agg #[.int .i32 (divI (xl, xh) (yl, yh)).1, .int .i32 (divI (xl, xh) (yl, yh)).2]) ∧ Below w.heap.size w w' := by
  have nz' : yl < 0 ∨ 0 < yh := by omega
  by_cases b : (xl ≤ -2147483648 ∧ -2147483648 ≤ xh) ∧ (yl ≤ -1 ∧ -1 ≤ yh)
  · refine (rdivide_over xl xh yl yh w (Lib.hid (by simpa using b.1)) (Lib.hid (by simpa using b.2))).mono fun e' w' ⟨q, hb⟩ => ⟨q.trans ?_, hb⟩
    rw [divI, if_neg z, if_pos b]
  · have ev : divI (xl, xh) (yl, yh) = hullL (divL (xl, xh) (yl, yh)) := by rw [divI, if_neg z, if_neg b]
    rw [ev]
    by_cases bx : xl ≤ -2147483648 ∧ -2147483648 ≤ xh
    · have by' : ¬ (yl ≤ -1 ∧ -1 ≤ yh) := fun h => b ⟨bx, h⟩
      have HX := Lib.hid (show (decide (xl ≤ -2147483648) && decide (-2147483648 ≤ xh)) = true by simpa using bx)
      have HY := Lib.hid (show (decide (yl ≤ -1) && decide (-1 ≤ yh)) = false by simpa using by')
      by_cases c1 : yl < 0
      · by_cases c2 : 0 < yh
        · refine (rdivide_np_b xl xh yl yh w hx1 hx2 hx3 hx4 hy1 hy2 hy3 hy4 (min yh (-1)) (max yl 1) (Lib.hid rfl) (Lib.hid rfl) HX HY (by simpa using c1) (by simpa using c2) (by omega) (by omega) (by omega) (by omega)).mono fun e' w' ⟨q, hb⟩ => ⟨q.trans (ret_pair (congrArg hullL ?_)), hb⟩
          simp [divL, divC, c1, c2]
        · refine (rdivide_n_b xl xh yl yh w hx1 hx2 hx3 hx4 hy1 hy2 hy3 hy4 (min yh (-1)) (max yl 1) (Lib.hid rfl) (Lib.hid rfl) HX HY (by simpa using c1) (by simpa using c2) (by omega) (by omega)).mono fun e' w' ⟨q, hb⟩ => ⟨q.trans (ret_pair (congrArg hullL ?_)), hb⟩
          simp [divL, divC, c1, c2]
      · have c2 : 0 < yh := by omega
        refine (rdivide_p_b xl xh yl yh w hx1 hx2 hx3 hx4 hy1 hy2 hy3 hy4 (min yh (-1)) (max yl 1) (Lib.hid rfl) (Lib.hid rfl) HX HY (by simpa using c1) (by simpa using c2) (by omega) (by omega)).mono fun e' w' ⟨q, hb⟩ => ⟨q.trans (ret_pair (congrArg hullL ?_)), hb⟩
        simp [divL, divC, c1, c2]
    · have HX := Lib.hid (show (decide (xl ≤ -2147483648) && decide (-2147483648 ≤ xh)) = false by simpa using bx)
      have HY := trivial
      by_cases c1 : yl < 0
      · by_cases c2 : 0 < yh
        · refine (rdivide_np_a xl xh yl yh w hx1 hx2 hx3 hx4 hy1 hy2 hy3 hy4 (min yh (-1)) (max yl 1) (Lib.hid rfl) (Lib.hid rfl) HX HY (by simpa using c1) (by simpa using c2) (by omega) (by omega) (by omega) (by omega)).mono fun e' w' ⟨q, hb⟩ => ⟨q.trans (ret_pair (congrArg hullL ?_)), hb⟩
          simp [divL, divC, c1, c2]
        · refine (rdivide_n_a xl xh yl yh w hx1 hx2 hx3 hx4 hy1 hy2 hy3 hy4 (min yh (-1)) (max yl 1) (Lib.hid rfl) (Lib.hid rfl) HX HY (by simpa using c1) (by simpa using c2) (by omega) (by omega)).mono fun e' w' ⟨q, hb⟩ => ⟨q.trans (ret_pair (congrArg hullL ?_)), hb⟩
          simp [divL, divC, c1, c2]
      · have c2 : 0 < yh := by omega
        refine (rdivide_p_a xl xh yl yh w hx1 hx2 hx3 hx4 hy1 hy2 hy3 hy4 (min yh (-1)) (max yl 1) (Lib.hid rfl) (Lib.hid rfl) HX HY (by simpa using c1) (by simpa using c2) (by omega) (by omega)).mono fun e' w' ⟨q, hb⟩ => ⟨q.trans (ret_pair (congrArg hullL ?_)), hb⟩
        simp [divL, divC, c1, c2]

end Go.Proofs.Ytjkjcnamlankoaa
