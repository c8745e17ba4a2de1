/-
 What is proved here: what interval.Apply returns, for every operator.
-/
import Derived.Test.YtebklpnkcicpjaaDoorFbIb
import Derived.Test.YtebklpnkcicpjaaDoorFbIa
namespace Go.Proofs.YtebklpnkcicpjaaDoor
open Go.RowKit
set_option linter.unusedVariables false
set_option linter.unusedSimpArgs false

def divC (x y : Int × Int) : List Int := [x.1.tdiv y.1, x.1.tdiv y.2, x.2.tdiv y.1, x.2.tdiv y.2]
def divL (x y : Int × Int) : List Int := (if y.1 < 0 then divC x (y.1, min y.2 (-1)) else []) ++ (if 0 < y.2 then divC x (max y.1 1, y.2) else [])
def divI (x y : Int × Int) : Int × Int :=
 if y.1 = 0 ∧ y.2 = 0 then (1, 0) else if (x.1 ≤ -2147483648 ∧ -2147483648 ≤ x.2) ∧ (y.1 ≤ -1 ∧ -1 ≤ y.2) then (-2147483648, 2147483647) else hullL (divL x y)

structure Div (w W : World) (xl xh pl ph : Int) (p : Nat) : Prop where
 below : Below w.heap.size w W
 bx : W.heap[w.heap.size]? = some (.cells #[.int .i32 xl, .int .i32 xh] 25 (0, 0))
 br : W.heap[w.heap.size + 1 + 1]? = some (.cells #[.int .i32 0, .int .i32 0] 25 (0, 0))
 bp : W.heap[p]? = some (.cells #[.int .i32 pl, .int .i32 ph] 25 (0, 0))

theorem lt_of_block {W : World} {k : Nat} {ob : Obj} (h : W.heap[k]? = some ob) : k < W.heap.size := by
 rcases Nat.lt_or_ge k W.heap.size with h' | h'
 ·exact h'
 ·rw [Array.getElem?_eq_none h'] at h; cases h
theorem alloc_block {W : World} (ob : Obj) {k : Nat} {ob' : Obj} (h : W.heap[k]? = some ob') : (W.alloc ob).heap[k]? = some ob' := by
 have hlt := lt_of_block h
 show (W.heap.push ob)[k]? = _
 rw [Array.getElem?_push, if_neg (Nat.ne_of_lt hlt)]; exact h
theorem alloc_new (W : World) (ob : Obj) : (W.alloc ob).heap[W.heap.size]? = some ob := by
 show (W.heap.push ob)[W.heap.size]? = _
 rw [Array.getElem?_push, if_pos rfl]
theorem grown_kept {W W' : World} {ob : Obj} {B n k : Nat} {v : Value} {xs : List Value} {c : Array Value} (hk : W.heap[k]? = some (.cells c 25 (0, 0))) (hown : W.ownsRow B 2 1 v n xs) (hg : (W.alloc ob).grownBy W' v.ownBlock) : W'.heap[k]? = some (.cells c 25 (0, 0)) := by
 have hlt := lt_of_block hk
 rw [hg.block k (by rw [World.size_alloc]; omega) ?_]
 ·exact alloc_block ob hk
 ·rcases hown.2 with ⟨rfl, _⟩ | ⟨g, cap, cur, rfl, _, hb, _⟩
  ·simp [Value.ownBlock]
  ·simp only [Value.ownBlock, ne_eq, Option.some.injEq]
   rintro rfl
   rw [hk] at hb
   simp at hb
theorem Div.grown {w W W' : World} {xl xh pl ph : Int} {p B n : Nat} {v : Value} {xs : List Value} {ob : Obj} (D : Div w W xl xh pl ph p) (hB : w.heap.size ≤ B) (hown : W.ownsRow B 2 1 v n xs) (hg : (W.alloc ob).grownBy W' v.ownBlock) : Div w W' xl xh pl ph p := by
 have hs := D.below.size
 refine ⟨(D.below.alloc hs ob).grown hg (by rw [World.size_alloc]; omega) ?_, grown_kept D.bx hown hg, grown_kept D.br hown hg, grown_kept D.bp hown hg⟩
 intro k hk
 rcases hown.2 with ⟨rfl, _⟩ | ⟨g, cap, cur, rfl, hb, _⟩
 ·cases hk
 ·cases hk; exact Nat.le_trans hB hb
theorem ext_block {W : World} (y : Ext W) {k : Nat} {ob : Obj} (h : W.heap[k]? = some ob) : y.w.heap[k]? = some ob := by
 rw [y.h.block k (lt_of_block h)]; exact h
theorem own_ext {W : World} (y : Ext W) {B n size : Nat} {e : TypeId} {v : Value} {xs : List Value} (h : W.ownsRow B e size v n xs) : y.w.ownsRow B e size v n xs := by
 refine ⟨h.1, ?_⟩
 rcases h.2 with h0 | ⟨g, cap, cur, hv, hb, hk, hr⟩
 ·exact .inl h0
 ·exact .inr ⟨g, cap, cur, hv, hb, ext_block y hk, hr⟩
theorem Div.ext {w W : World} {xl xh pl ph : Int} {p B n : Nat} {v : Value} {xs : List Value} (D : Div w W xl xh pl ph p) (hown : W.ownsRow B 2 1 v n xs) (y : Ext W) : ∃ W', y.w = W' ∧ Div w W' xl xh pl ph p ∧ W'.ownsRow B 2 1 v n xs :=
 ⟨_, rfl, ⟨Ext.below D.below D.below.size y, ext_block y D.bx, ext_block y D.br, ext_block y D.bp⟩, own_ext y hown⟩
theorem Div.part {w W : World} {xl xh pl ph : Int} {p B n : Nat} {v : Value} {xs : List Value} (D : Div w W xl xh pl ph p) (hown : W.ownsRow B 2 1 v n xs) (ql qh : Int) : ∃ (W' : World) (q : Nat), W.alloc (.cells #[.int .i32 ql, .int .i32 qh] 25) = W' ∧ W.heap.size = q ∧ Div w W' xl xh ql qh q ∧ W'.ownsRow B 2 1 v n xs :=
 ⟨_, _, rfl, rfl, ⟨D.below.alloc D.below.size _, alloc_block _ D.bx, alloc_block _ D.br, alloc_new _ _⟩, hown.alloc _⟩
theorem Div.cells {w W : World} {xl xh pl ph : Int} {p : Nat} (D : Div w W xl xh pl ph p) :
  W.cell? ⟨w.heap.size, 0, none⟩ = some (.int .i32 xl) ∧ W.cell? ⟨w.heap.size, 1, none⟩ = some (.int .i32 xh) ∧ W.cell? ⟨p, 0, none⟩ = some (.int .i32 pl) ∧ W.cell? ⟨p, 1, none⟩ = some (.int .i32 ph) ∧ w.heap.size < W.heap.size ∧ p < W.heap.size := by
 refine ⟨?_, ?_, ?_, ?_, lt_of_block D.bx, lt_of_block D.bp⟩ <;> simp [World.cell?, D.bx, D.bp]
theorem Div.result {w W : World} {xl xh pl ph : Int} {p : Nat} (D : Div w W xl xh pl ph p) :
  W.cell? ⟨w.heap.size + 1 + 1, 0, none⟩ = some (.int .i32 0) ∧ W.cell? ⟨w.heap.size + 1 + 1, 1, none⟩ = some (.int .i32 0) ∧ W.frozen? ⟨w.heap.size + 1 + 1, 0, none⟩ = false ∧ W.frozen? ⟨w.heap.size + 1 + 1, 1, none⟩ = false ∧ w.heap.size + 1 + 1 < W.heap.size := by
 refine ⟨?_, ?_, ?_, ?_, lt_of_block D.br⟩ <;> simp [World.cell?, World.frozen?, D.br]
theorem Div.base_le {w W : World} {xl xh pl ph : Int} {p : Nat} (D : Div w W xl xh pl ph p) (ob : Obj) : w.heap.size ≤ (W.alloc ob).heap.size := by
 have := D.below.size; rw [World.size_alloc]; omega
theorem div_base (xl xh yl yh a b c d : Int) (w : World) (y : Ext (((w.alloc (Obj.cells #[Value.int IntKind.i32 xl, Value.int IntKind.i32 xh] 25)).alloc (Obj.cells #[Value.int IntKind.i32 yl, Value.int IntKind.i32 yh] 25)).alloc (Obj.cells #[Value.int IntKind.i32 0, Value.int IntKind.i32 0] 25))) :
  ∃ W : World, (y.w.alloc (Obj.cells #[Value.int IntKind.i32 a, Value.int IntKind.i32 b] 25)).alloc (Obj.cells #[Value.int IntKind.i32 c, Value.int IntKind.i32 d] 25) = W ∧ Div w W xl xh xl xh w.heap.size := by
 have hs : w.heap.size + 1 + 1 + 1 ≤ y.w.heap.size := ks_of y.h
 have e1 : y.w.heap[w.heap.size]? = some (.cells #[.int .i32 xl, .int .i32 xh] 25 (0, 0)) := ext_block y (alloc_block _ (alloc_block _ (alloc_new _ _)))
 have e2 : y.w.heap[w.heap.size + 1 + 1]? = some (.cells #[.int .i32 0, .int .i32 0] 25 (0, 0)) := ext_block y (by have := alloc_new ((w.alloc (Obj.cells #[Value.int IntKind.i32 xl, Value.int IntKind.i32 xh] 25)).alloc (Obj.cells #[Value.int IntKind.i32 yl, Value.int IntKind.i32 yh] 25)) (Obj.cells #[Value.int IntKind.i32 0, Value.int IntKind.i32 0] 25); rw [World.size_alloc, World.size_alloc] at this; exact this)
 refine ⟨_, rfl, ?_, alloc_block _ (alloc_block _ e1), alloc_block _ (alloc_block _ e2), alloc_block _ (alloc_block _ e1)⟩
 (repeat (first | exact Below.refl _ _ | refine Below.setCell ?_ ?_ _ | refine Ext.below ?_ ?_ _ | refine Below.alloc ?_ ?_ _)) <;> (first | (simp; done) | (simp; omega) | omega | (simp only [World.size_setCell, World.size_alloc]; refine Nat.le_trans ?_ (Below.size (Ext.h _)); simp only [World.size_setCell, World.size_alloc]; omega))
theorem tdiv_bd (x y : Int) (h1 : -2147483648 ≤ x) (h2 : x ≤ 2147483647) : -2147483648 ≤ x.tdiv y ∧ x.tdiv y ≤ 2147483648 := by
 have h : (x.tdiv y).natAbs ≤ x.natAbs := by rw [Int.natAbs_tdiv]; exact Nat.div_le_self _ _
 omega
theorem ixp0 (a b c d : Int) (w : World) : (Instr.index 159 (.agg #[.int .i32 a, .int .i32 b, .int .i32 c, .int .i32 d]) (.int .i64 0)).run Tryd.prog w = .ok (.agg #[.int .i32 a, .int .i32 b]) w := by kernel_rfl
theorem ixp1 (a b c d : Int) (w : World) : (Instr.index 159 (.agg #[.int .i32 a, .int .i32 b, .int .i32 c, .int .i32 d]) (.int .i64 1)).run Tryd.prog w = .ok (.agg #[.int .i32 c, .int .i32 d]) w := by kernel_rfl

set_option maxRecDepth 100000 in
set_option maxHeartbeats 8000000 in
theorem divide_n (xl xh yl yh : Int) (w : World) (hx1 : -2147483648 ≤ xl) (hx2 : xl ≤ 2147483647) (hx3 : -2147483648 ≤ xh) (hx4 : xh ≤ 2147483647) (hy1 : -2147483648 ≤ yl) (hy2 : yl ≤ 2147483647) (hy3 : -2147483648 ≤ yh) (hy4 : yh ≤ 2147483647) (nh pl : Int) (NH : Hid (min yh (-1) = nh)) (PL : Hid (max yl 1 = pl)) (HXY : Hid ((decide (xl ≤ -2147483648) && decide (-2147483648 ≤ xh)) = false) ∨ Hid ((decide (xl ≤ -2147483648) && decide (-2147483648 ≤ xh)) = true) ∧ Hid ((decide (yl ≤ -1) && decide (-1 ≤ yh)) = false)) (nz : (yl == 0 && yh == 0) = false) (n1 : -2147483648 ≤ nh) (n2 : nh ≤ 2147483647) (n3 : -2147483648 ≤ pl) (n4 : pl ≤ 2147483647) (q1 : yl ≤ nh) (q2 : nh ≤ -1) (q3 : yh < pl) (EP0 : Hid (decide (nh < yl) = false)) (EP1 : Hid (decide (yh < pl) = true)) :
  Calls Tryd.prog 67 #[.agg #[.int .i32 xl, .int .i32 xh], .agg #[.int .i32 yl, .int .i32 yh]] w fun e w' => e = .returned (.agg #[.int .i32 (hullL ([xl.tdiv yl, xl.tdiv nh, xh.tdiv yl, xh.tdiv nh])).1, .int .i32 (hullL ([xl.tdiv yl, xl.tdiv nh, xh.tdiv yl, xh.tdiv nh])).2]) ∧ Below w.heap.size w w' := by
 obtain ⟨i0, hi, hz0, hz1, hz2⟩ := info_parts info2
 have i0f := ix0
 have i1f := ix1
 have j0f := ixp0
 have j1f := ixp1
 have e2 := eq_iv
 have zyl : (yl == 0) = false := by simp; omega
 have bxlyl := tdiv_bd xl yl (by omega) (by omega)
 have bxhyl := tdiv_bd xh yl (by omega) (by omega)
 have znh : (nh == 0) = false := by simp; omega
 have bxlnh := tdiv_bd xl nh (by omega) (by omega)
 have bxhnh := tdiv_bd xh nh (by omega) (by omega)
 go_enter Tryd.func67, Tryd.ntmps67
 go_wp2_with fail
 refine wp_region_ext (by kernel_rfl) (by kernel_rfl) ?_
 repeat (go_big_quiet_step ((go_at_call 37; exact Calls.extq (of_any _ _))))
 refine wpQuiet_nil ?_
 rintro _ ⟨x1, rfl⟩
 rcases HXY with BX | ⟨BX, BY⟩
 all_goals
  go_wp2_with (first | (go_at_call 21; (first | (with_reducible refine (Calls.extq (lit_of (contains_any _ _ _ _) BX.out)).mono ?_) | (with_reducible refine (Calls.extq (lit_of (contains_any _ _ _ _) BY.out)).mono ?_)); rintro e _ ⟨rfl, y, rfl⟩))
  obtain ⟨W, hW, D⟩ := div_base xl xh yl yh yl (min yh (-1)) (max yl 1) yh w y
  rw [hW]
  clear hW
  have hown : W.ownsRow w.heap.size 2 1 (.slice none 0 0) 0 [] := ⟨rfl, .inl ⟨rfl, rfl⟩⟩
  rw [NH.out, PL.out]
  refine wp_loop_rounds 3 ?_
  rw [rounds_succ]
  go_wp2_with fail
  obtain ⟨Wp0, q0, hW, hq, Dp0, hop0⟩ := D.part hown (yl) (nh)
  rw [hW, hq]
  clear hW hq D hown
  obtain ⟨c1, c2, c3, c4, s1, s2⟩ := Dp0.cells
  refine (Calls.ext (lit_of (isEmpty_any _ _ _) EP0.out)).mono ?_
  rintro e _ ⟨rfl, y, rfl⟩
  obtain ⟨We0, hW, De0, hoe0⟩ := Dp0.ext hop0 y
  rw [hW]
  clear hW Dp0 hop0
  obtain ⟨c1, c2, c3, c4, s1, s2⟩ := De0.cells
  go_wp2_with fail
  refine wp_loop_rounds 3 ?_
  rw [rounds_succ]
  go_wp2_with fail
  refine wp_loop_rounds 3 ?_
  rw [rounds_succ]
  go_wp2_with (at_builtin; refine wpList_append_own _ rfl (.tmp 65) (.tmp 69) 156 rfl w.heap.size 2 i0 (.int .i64 0) 1 8 Tryd.underlying156 hi hz0 hz1 hz2 rfl (by decide) _ _ _ rfl (hoe0.alloc _) ⟨World.heap We0 |>.size, 0, none⟩ 1 1 [.int .i64 (xl.tdiv yl)] rfl rfl (cell_one_new _ _ _) (by simp [Value.oneCell']) (by unfold maxLen; omega) (by omega) (De0.base_le _) ?_; intro va0 Wa0 hown0 hgrow _)
  have Da0 := De0.grown (Nat.le_refl _) hoe0 hgrow
  obtain ⟨c1, c2, c3, c4, s1, s2⟩ := Da0.cells
  clear hgrow hoe0 De0
  go_wp2_with fail
  rw [rounds_succ]
  go_wp2_with (at_builtin; refine wpList_append_own _ rfl (.tmp 65) (.tmp 69) 156 rfl w.heap.size 2 i0 (.int .i64 0) 1 8 Tryd.underlying156 hi hz0 hz1 hz2 rfl (by decide) _ _ _ rfl (hown0.alloc _) ⟨World.heap Wa0 |>.size, 0, none⟩ 1 1 [.int .i64 (xl.tdiv nh)] rfl rfl (cell_one_new _ _ _) (by simp [Value.oneCell']) (by unfold maxLen; omega) (by omega) (Da0.base_le _) ?_; intro va1 Wa1 hown1 hgrow _)
  have Da1 := Da0.grown (Nat.le_refl _) hown0 hgrow
  obtain ⟨c1, c2, c3, c4, s1, s2⟩ := Da1.cells
  clear hgrow hown0 Da0
  go_wp2_with fail
  rw [rounds_succ]
  go_wp2_with fail
  rw [rounds_succ]
  go_wp2_with fail
  refine wp_loop_rounds 3 ?_
  rw [rounds_succ]
  go_wp2_with (at_builtin; refine wpList_append_own _ rfl (.tmp 65) (.tmp 69) 156 rfl w.heap.size 2 i0 (.int .i64 0) 1 8 Tryd.underlying156 hi hz0 hz1 hz2 rfl (by decide) _ _ _ rfl (hown1.alloc _) ⟨World.heap Wa1 |>.size, 0, none⟩ 1 1 [.int .i64 (xh.tdiv yl)] rfl rfl (cell_one_new _ _ _) (by simp [Value.oneCell']) (by unfold maxLen; omega) (by omega) (Da1.base_le _) ?_; intro va2 Wa2 hown2 hgrow _)
  have Da2 := Da1.grown (Nat.le_refl _) hown1 hgrow
  obtain ⟨c1, c2, c3, c4, s1, s2⟩ := Da2.cells
  clear hgrow hown1 Da1
  go_wp2_with fail
  rw [rounds_succ]
  go_wp2_with (at_builtin; refine wpList_append_own _ rfl (.tmp 65) (.tmp 69) 156 rfl w.heap.size 2 i0 (.int .i64 0) 1 8 Tryd.underlying156 hi hz0 hz1 hz2 rfl (by decide) _ _ _ rfl (hown2.alloc _) ⟨World.heap Wa2 |>.size, 0, none⟩ 1 1 [.int .i64 (xh.tdiv nh)] rfl rfl (cell_one_new _ _ _) (by simp [Value.oneCell']) (by unfold maxLen; omega) (by omega) (Da2.base_le _) ?_; intro va3 Wa3 hown3 hgrow _)
  have Da3 := Da2.grown (Nat.le_refl _) hown2 hgrow
  obtain ⟨c1, c2, c3, c4, s1, s2⟩ := Da3.cells
  clear hgrow hown2 Da2
  go_wp2_with fail
  rw [rounds_succ]
  go_wp2_with fail
  rw [rounds_succ]
  go_wp2_with fail
  rw [rounds_succ]
  go_wp2_with fail
  obtain ⟨Wp1, q1, hW, hq, Dp1, hop1⟩ := Da3.part hown3 (pl) (yh)
  rw [hW, hq]
  clear hW hq Da3 hown3
  obtain ⟨c1, c2, c3, c4, s1, s2⟩ := Dp1.cells
  refine (Calls.ext (lit_of (isEmpty_any _ _ _) EP1.out)).mono ?_
  rintro e _ ⟨rfl, y, rfl⟩
  obtain ⟨We1, hW, De1, hoe1⟩ := Dp1.ext hop1 y
  rw [hW]
  clear hW Dp1 hop1
  obtain ⟨c1, c2, c3, c4, s1, s2⟩ := De1.cells
  go_wp2_with fail
  rw [rounds_succ]
  go_wp2_with fail
  obtain ⟨g, cap, hv, hg, hc⟩ := own_ints (l := [xl.tdiv yl, xl.tdiv nh, xh.tdiv yl, xh.tdiv nh]) rfl (by simpa using hoe1) (by simp)
  rw [hv]
  obtain ⟨r1, r2, r3, r4, r5⟩ := De1.result
  have kB := De1.below
  clear hv hoe1 De1
  refine (Calls.ext (hull_any g cap [xl.tdiv yl, xl.tdiv nh, xh.tdiv yl, xh.tdiv nh] _ (by simp) (by simp) hg hc)).mono ?_
  rintro e _ ⟨rfl, y5, rfl⟩
  clear hc
  go_wp2
  all_goals
   refine bodyPost_ret (v := .agg #[.int .i32 (hullL [xl.tdiv yl, xl.tdiv nh, xh.tdiv yl, xh.tdiv nh]).1, .int .i32 (hullL [xl.tdiv yl, xl.tdiv nh, xh.tdiv yl, xh.tdiv nh]).2]) ?hr rfl ⟨rfl, ?bel⟩
   case hr =>
    simp [results, Tryd.results67, go_sem, r1, r2, r5]
   case bel =>
    (repeat (first | assumption | refine Below.setCell ?_ ?_ _ | refine Ext.below ?_ ?_ _ | refine Below.alloc ?_ ?_ _)) <;> (first | (simp; done) | (simp; omega) | omega)

set_option maxRecDepth 100000 in
set_option maxHeartbeats 8000000 in
theorem divide_p (xl xh yl yh : Int) (w : World) (hx1 : -2147483648 ≤ xl) (hx2 : xl ≤ 2147483647) (hx3 : -2147483648 ≤ xh) (hx4 : xh ≤ 2147483647) (hy1 : -2147483648 ≤ yl) (hy2 : yl ≤ 2147483647) (hy3 : -2147483648 ≤ yh) (hy4 : yh ≤ 2147483647) (nh pl : Int) (NH : Hid (min yh (-1) = nh)) (PL : Hid (max yl 1 = pl)) (HXY : Hid ((decide (xl ≤ -2147483648) && decide (-2147483648 ≤ xh)) = false) ∨ Hid ((decide (xl ≤ -2147483648) && decide (-2147483648 ≤ xh)) = true) ∧ Hid ((decide (yl ≤ -1) && decide (-1 ≤ yh)) = false)) (nz : (yl == 0 && yh == 0) = false) (n1 : -2147483648 ≤ nh) (n2 : nh ≤ 2147483647) (n3 : -2147483648 ≤ pl) (n4 : pl ≤ 2147483647) (q1 : nh < yl) (q2 : 1 ≤ pl) (q3 : pl ≤ yh) (EP0 : Hid (decide (nh < yl) = true)) (EP1 : Hid (decide (yh < pl) = false)) :
  Calls Tryd.prog 67 #[.agg #[.int .i32 xl, .int .i32 xh], .agg #[.int .i32 yl, .int .i32 yh]] w fun e w' => e = .returned (.agg #[.int .i32 (hullL ([xl.tdiv pl, xl.tdiv yh, xh.tdiv pl, xh.tdiv yh])).1, .int .i32 (hullL ([xl.tdiv pl, xl.tdiv yh, xh.tdiv pl, xh.tdiv yh])).2]) ∧ Below w.heap.size w w' := by
 obtain ⟨i0, hi, hz0, hz1, hz2⟩ := info_parts info2
 have i0f := ix0
 have i1f := ix1
 have j0f := ixp0
 have j1f := ixp1
 have e2 := eq_iv
 have zpl : (pl == 0) = false := by simp; omega
 have bxlpl := tdiv_bd xl pl (by omega) (by omega)
 have bxhpl := tdiv_bd xh pl (by omega) (by omega)
 have zyh : (yh == 0) = false := by simp; omega
 have bxlyh := tdiv_bd xl yh (by omega) (by omega)
 have bxhyh := tdiv_bd xh yh (by omega) (by omega)
 go_enter Tryd.func67, Tryd.ntmps67
 go_wp2_with fail
 refine wp_region_ext (by kernel_rfl) (by kernel_rfl) ?_
 repeat (go_big_quiet_step ((go_at_call 37; exact Calls.extq (of_any _ _))))
 refine wpQuiet_nil ?_
 rintro _ ⟨x1, rfl⟩
 rcases HXY with BX | ⟨BX, BY⟩
 all_goals
  go_wp2_with (first | (go_at_call 21; (first | (with_reducible refine (Calls.extq (lit_of (contains_any _ _ _ _) BX.out)).mono ?_) | (with_reducible refine (Calls.extq (lit_of (contains_any _ _ _ _) BY.out)).mono ?_)); rintro e _ ⟨rfl, y, rfl⟩))
  obtain ⟨W, hW, D⟩ := div_base xl xh yl yh yl (min yh (-1)) (max yl 1) yh w y
  rw [hW]
  clear hW
  have hown : W.ownsRow w.heap.size 2 1 (.slice none 0 0) 0 [] := ⟨rfl, .inl ⟨rfl, rfl⟩⟩
  rw [NH.out, PL.out]
  refine wp_loop_rounds 3 ?_
  rw [rounds_succ]
  go_wp2_with fail
  obtain ⟨Wp0, q0, hW, hq, Dp0, hop0⟩ := D.part hown (yl) (nh)
  rw [hW, hq]
  clear hW hq D hown
  obtain ⟨c1, c2, c3, c4, s1, s2⟩ := Dp0.cells
  refine (Calls.ext (lit_of (isEmpty_any _ _ _) EP0.out)).mono ?_
  rintro e _ ⟨rfl, y, rfl⟩
  obtain ⟨We0, hW, De0, hoe0⟩ := Dp0.ext hop0 y
  rw [hW]
  clear hW Dp0 hop0
  obtain ⟨c1, c2, c3, c4, s1, s2⟩ := De0.cells
  go_wp2_with fail
  rw [rounds_succ]
  go_wp2_with fail
  obtain ⟨Wp1, q1, hW, hq, Dp1, hop1⟩ := De0.part hoe0 (pl) (yh)
  rw [hW, hq]
  clear hW hq De0 hoe0
  obtain ⟨c1, c2, c3, c4, s1, s2⟩ := Dp1.cells
  refine (Calls.ext (lit_of (isEmpty_any _ _ _) EP1.out)).mono ?_
  rintro e _ ⟨rfl, y, rfl⟩
  obtain ⟨We1, hW, De1, hoe1⟩ := Dp1.ext hop1 y
  rw [hW]
  clear hW Dp1 hop1
  obtain ⟨c1, c2, c3, c4, s1, s2⟩ := De1.cells
  go_wp2_with fail
  refine wp_loop_rounds 3 ?_
  rw [rounds_succ]
  go_wp2_with fail
  refine wp_loop_rounds 3 ?_
  rw [rounds_succ]
  go_wp2_with (at_builtin; refine wpList_append_own _ rfl (.tmp 65) (.tmp 69) 156 rfl w.heap.size 2 i0 (.int .i64 0) 1 8 Tryd.underlying156 hi hz0 hz1 hz2 rfl (by decide) _ _ _ rfl (hoe1.alloc _) ⟨World.heap We1 |>.size, 0, none⟩ 1 1 [.int .i64 (xl.tdiv pl)] rfl rfl (cell_one_new _ _ _) (by simp [Value.oneCell']) (by unfold maxLen; omega) (by omega) (De1.base_le _) ?_; intro va0 Wa0 hown0 hgrow _)
  have Da0 := De1.grown (Nat.le_refl _) hoe1 hgrow
  obtain ⟨c1, c2, c3, c4, s1, s2⟩ := Da0.cells
  clear hgrow hoe1 De1
  go_wp2_with fail
  rw [rounds_succ]
  go_wp2_with (at_builtin; refine wpList_append_own _ rfl (.tmp 65) (.tmp 69) 156 rfl w.heap.size 2 i0 (.int .i64 0) 1 8 Tryd.underlying156 hi hz0 hz1 hz2 rfl (by decide) _ _ _ rfl (hown0.alloc _) ⟨World.heap Wa0 |>.size, 0, none⟩ 1 1 [.int .i64 (xl.tdiv yh)] rfl rfl (cell_one_new _ _ _) (by simp [Value.oneCell']) (by unfold maxLen; omega) (by omega) (Da0.base_le _) ?_; intro va1 Wa1 hown1 hgrow _)
  have Da1 := Da0.grown (Nat.le_refl _) hown0 hgrow
  obtain ⟨c1, c2, c3, c4, s1, s2⟩ := Da1.cells
  clear hgrow hown0 Da0
  go_wp2_with fail
  rw [rounds_succ]
  go_wp2_with fail
  rw [rounds_succ]
  go_wp2_with fail
  refine wp_loop_rounds 3 ?_
  rw [rounds_succ]
  go_wp2_with (at_builtin; refine wpList_append_own _ rfl (.tmp 65) (.tmp 69) 156 rfl w.heap.size 2 i0 (.int .i64 0) 1 8 Tryd.underlying156 hi hz0 hz1 hz2 rfl (by decide) _ _ _ rfl (hown1.alloc _) ⟨World.heap Wa1 |>.size, 0, none⟩ 1 1 [.int .i64 (xh.tdiv pl)] rfl rfl (cell_one_new _ _ _) (by simp [Value.oneCell']) (by unfold maxLen; omega) (by omega) (Da1.base_le _) ?_; intro va2 Wa2 hown2 hgrow _)
  have Da2 := Da1.grown (Nat.le_refl _) hown1 hgrow
  obtain ⟨c1, c2, c3, c4, s1, s2⟩ := Da2.cells
  clear hgrow hown1 Da1
  go_wp2_with fail
  rw [rounds_succ]
  go_wp2_with (at_builtin; refine wpList_append_own _ rfl (.tmp 65) (.tmp 69) 156 rfl w.heap.size 2 i0 (.int .i64 0) 1 8 Tryd.underlying156 hi hz0 hz1 hz2 rfl (by decide) _ _ _ rfl (hown2.alloc _) ⟨World.heap Wa2 |>.size, 0, none⟩ 1 1 [.int .i64 (xh.tdiv yh)] rfl rfl (cell_one_new _ _ _) (by simp [Value.oneCell']) (by unfold maxLen; omega) (by omega) (Da2.base_le _) ?_; intro va3 Wa3 hown3 hgrow _)
  have Da3 := Da2.grown (Nat.le_refl _) hown2 hgrow
  obtain ⟨c1, c2, c3, c4, s1, s2⟩ := Da3.cells
  clear hgrow hown2 Da2
  go_wp2_with fail
  rw [rounds_succ]
  go_wp2_with fail
  rw [rounds_succ]
  go_wp2_with fail
  rw [rounds_succ]
  go_wp2_with fail
  obtain ⟨g, cap, hv, hg, hc⟩ := own_ints (l := [xl.tdiv pl, xl.tdiv yh, xh.tdiv pl, xh.tdiv yh]) rfl (by simpa using hown3) (by simp)
  rw [hv]
  obtain ⟨r1, r2, r3, r4, r5⟩ := Da3.result
  have kB := Da3.below
  clear hv hown3 Da3
  refine (Calls.ext (hull_any g cap [xl.tdiv pl, xl.tdiv yh, xh.tdiv pl, xh.tdiv yh] _ (by simp) (by simp) hg hc)).mono ?_
  rintro e _ ⟨rfl, y5, rfl⟩
  clear hc
  go_wp2
  all_goals
   refine bodyPost_ret (v := .agg #[.int .i32 (hullL [xl.tdiv pl, xl.tdiv yh, xh.tdiv pl, xh.tdiv yh]).1, .int .i32 (hullL [xl.tdiv pl, xl.tdiv yh, xh.tdiv pl, xh.tdiv yh]).2]) ?hr rfl ⟨rfl, ?bel⟩
   case hr =>
    simp [results, Tryd.results67, go_sem, r1, r2, r5]
   case bel =>
    (repeat (first | assumption | refine Below.setCell ?_ ?_ _ | refine Ext.below ?_ ?_ _ | refine Below.alloc ?_ ?_ _)) <;> (first | (simp; done) | (simp; omega) | omega)

set_option maxRecDepth 100000 in
set_option maxHeartbeats 8000000 in
theorem divide_np (xl xh yl yh : Int) (w : World) (hx1 : -2147483648 ≤ xl) (hx2 : xl ≤ 2147483647) (hx3 : -2147483648 ≤ xh) (hx4 : xh ≤ 2147483647) (hy1 : -2147483648 ≤ yl) (hy2 : yl ≤ 2147483647) (hy3 : -2147483648 ≤ yh) (hy4 : yh ≤ 2147483647) (nh pl : Int) (NH : Hid (min yh (-1) = nh)) (PL : Hid (max yl 1 = pl)) (HXY : Hid ((decide (xl ≤ -2147483648) && decide (-2147483648 ≤ xh)) = false) ∨ Hid ((decide (xl ≤ -2147483648) && decide (-2147483648 ≤ xh)) = true) ∧ Hid ((decide (yl ≤ -1) && decide (-1 ≤ yh)) = false)) (nz : (yl == 0 && yh == 0) = false) (n1 : -2147483648 ≤ nh) (n2 : nh ≤ 2147483647) (n3 : -2147483648 ≤ pl) (n4 : pl ≤ 2147483647) (q1 : yl ≤ nh) (q2 : nh ≤ -1) (q3 : 1 ≤ pl) (q4 : pl ≤ yh) (EP0 : Hid (decide (nh < yl) = false)) (EP1 : Hid (decide (yh < pl) = false)) :
  Calls Tryd.prog 67 #[.agg #[.int .i32 xl, .int .i32 xh], .agg #[.int .i32 yl, .int .i32 yh]] w fun e w' => e = .returned (.agg #[.int .i32 (hullL ([xl.tdiv yl, xl.tdiv nh, xh.tdiv yl, xh.tdiv nh, xl.tdiv pl, xl.tdiv yh, xh.tdiv pl, xh.tdiv yh])).1, .int .i32 (hullL ([xl.tdiv yl, xl.tdiv nh, xh.tdiv yl, xh.tdiv nh, xl.tdiv pl, xl.tdiv yh, xh.tdiv pl, xh.tdiv yh])).2]) ∧ Below w.heap.size w w' := by
 obtain ⟨i0, hi, hz0, hz1, hz2⟩ := info_parts info2
 have i0f := ix0
 have i1f := ix1
 have j0f := ixp0
 have j1f := ixp1
 have e2 := eq_iv
 have zyl : (yl == 0) = false := by simp; omega
 have bxlyl := tdiv_bd xl yl (by omega) (by omega)
 have bxhyl := tdiv_bd xh yl (by omega) (by omega)
 have znh : (nh == 0) = false := by simp; omega
 have bxlnh := tdiv_bd xl nh (by omega) (by omega)
 have bxhnh := tdiv_bd xh nh (by omega) (by omega)
 have zpl : (pl == 0) = false := by simp; omega
 have bxlpl := tdiv_bd xl pl (by omega) (by omega)
 have bxhpl := tdiv_bd xh pl (by omega) (by omega)
 have zyh : (yh == 0) = false := by simp; omega
 have bxlyh := tdiv_bd xl yh (by omega) (by omega)
 have bxhyh := tdiv_bd xh yh (by omega) (by omega)
 go_enter Tryd.func67, Tryd.ntmps67
 go_wp2_with fail
 refine wp_region_ext (by kernel_rfl) (by kernel_rfl) ?_
 repeat (go_big_quiet_step ((go_at_call 37; exact Calls.extq (of_any _ _))))
 refine wpQuiet_nil ?_
 rintro _ ⟨x1, rfl⟩
 rcases HXY with BX | ⟨BX, BY⟩
 all_goals
  go_wp2_with (first | (go_at_call 21; (first | (with_reducible refine (Calls.extq (lit_of (contains_any _ _ _ _) BX.out)).mono ?_) | (with_reducible refine (Calls.extq (lit_of (contains_any _ _ _ _) BY.out)).mono ?_)); rintro e _ ⟨rfl, y, rfl⟩))
  obtain ⟨W, hW, D⟩ := div_base xl xh yl yh yl (min yh (-1)) (max yl 1) yh w y
  rw [hW]
  clear hW
  have hown : W.ownsRow w.heap.size 2 1 (.slice none 0 0) 0 [] := ⟨rfl, .inl ⟨rfl, rfl⟩⟩
  rw [NH.out, PL.out]
  refine wp_loop_rounds 3 ?_
  rw [rounds_succ]
  go_wp2_with fail
  obtain ⟨Wp0, q0, hW, hq, Dp0, hop0⟩ := D.part hown (yl) (nh)
  rw [hW, hq]
  clear hW hq D hown
  obtain ⟨c1, c2, c3, c4, s1, s2⟩ := Dp0.cells
  refine (Calls.ext (lit_of (isEmpty_any _ _ _) EP0.out)).mono ?_
  rintro e _ ⟨rfl, y, rfl⟩
  obtain ⟨We0, hW, De0, hoe0⟩ := Dp0.ext hop0 y
  rw [hW]
  clear hW Dp0 hop0
  obtain ⟨c1, c2, c3, c4, s1, s2⟩ := De0.cells
  go_wp2_with fail
  refine wp_loop_rounds 3 ?_
  rw [rounds_succ]
  go_wp2_with fail
  refine wp_loop_rounds 3 ?_
  rw [rounds_succ]
  go_wp2_with (at_builtin; refine wpList_append_own _ rfl (.tmp 65) (.tmp 69) 156 rfl w.heap.size 2 i0 (.int .i64 0) 1 8 Tryd.underlying156 hi hz0 hz1 hz2 rfl (by decide) _ _ _ rfl (hoe0.alloc _) ⟨World.heap We0 |>.size, 0, none⟩ 1 1 [.int .i64 (xl.tdiv yl)] rfl rfl (cell_one_new _ _ _) (by simp [Value.oneCell']) (by unfold maxLen; omega) (by omega) (De0.base_le _) ?_; intro va0 Wa0 hown0 hgrow _)
  have Da0 := De0.grown (Nat.le_refl _) hoe0 hgrow
  obtain ⟨c1, c2, c3, c4, s1, s2⟩ := Da0.cells
  clear hgrow hoe0 De0
  go_wp2_with fail
  rw [rounds_succ]
  go_wp2_with (at_builtin; refine wpList_append_own _ rfl (.tmp 65) (.tmp 69) 156 rfl w.heap.size 2 i0 (.int .i64 0) 1 8 Tryd.underlying156 hi hz0 hz1 hz2 rfl (by decide) _ _ _ rfl (hown0.alloc _) ⟨World.heap Wa0 |>.size, 0, none⟩ 1 1 [.int .i64 (xl.tdiv nh)] rfl rfl (cell_one_new _ _ _) (by simp [Value.oneCell']) (by unfold maxLen; omega) (by omega) (Da0.base_le _) ?_; intro va1 Wa1 hown1 hgrow _)
  have Da1 := Da0.grown (Nat.le_refl _) hown0 hgrow
  obtain ⟨c1, c2, c3, c4, s1, s2⟩ := Da1.cells
  clear hgrow hown0 Da0
  go_wp2_with fail
  rw [rounds_succ]
  go_wp2_with fail
  rw [rounds_succ]
  go_wp2_with fail
  refine wp_loop_rounds 3 ?_
  rw [rounds_succ]
  go_wp2_with (at_builtin; refine wpList_append_own _ rfl (.tmp 65) (.tmp 69) 156 rfl w.heap.size 2 i0 (.int .i64 0) 1 8 Tryd.underlying156 hi hz0 hz1 hz2 rfl (by decide) _ _ _ rfl (hown1.alloc _) ⟨World.heap Wa1 |>.size, 0, none⟩ 1 1 [.int .i64 (xh.tdiv yl)] rfl rfl (cell_one_new _ _ _) (by simp [Value.oneCell']) (by unfold maxLen; omega) (by omega) (Da1.base_le _) ?_; intro va2 Wa2 hown2 hgrow _)
  have Da2 := Da1.grown (Nat.le_refl _) hown1 hgrow
  obtain ⟨c1, c2, c3, c4, s1, s2⟩ := Da2.cells
  clear hgrow hown1 Da1
  go_wp2_with fail
  rw [rounds_succ]
  go_wp2_with (at_builtin; refine wpList_append_own _ rfl (.tmp 65) (.tmp 69) 156 rfl w.heap.size 2 i0 (.int .i64 0) 1 8 Tryd.underlying156 hi hz0 hz1 hz2 rfl (by decide) _ _ _ rfl (hown2.alloc _) ⟨World.heap Wa2 |>.size, 0, none⟩ 1 1 [.int .i64 (xh.tdiv nh)] rfl rfl (cell_one_new _ _ _) (by simp [Value.oneCell']) (by unfold maxLen; omega) (by omega) (Da2.base_le _) ?_; intro va3 Wa3 hown3 hgrow _)
  have Da3 := Da2.grown (Nat.le_refl _) hown2 hgrow
  obtain ⟨c1, c2, c3, c4, s1, s2⟩ := Da3.cells
  clear hgrow hown2 Da2
  go_wp2_with fail
  rw [rounds_succ]
  go_wp2_with fail
  rw [rounds_succ]
  go_wp2_with fail
  rw [rounds_succ]
  go_wp2_with fail
  obtain ⟨Wp1, q1, hW, hq, Dp1, hop1⟩ := Da3.part hown3 (pl) (yh)
  rw [hW, hq]
  clear hW hq Da3 hown3
  obtain ⟨c1, c2, c3, c4, s1, s2⟩ := Dp1.cells
  refine (Calls.ext (lit_of (isEmpty_any _ _ _) EP1.out)).mono ?_
  rintro e _ ⟨rfl, y, rfl⟩
  obtain ⟨We1, hW, De1, hoe1⟩ := Dp1.ext hop1 y
  rw [hW]
  clear hW Dp1 hop1
  obtain ⟨c1, c2, c3, c4, s1, s2⟩ := De1.cells
  go_wp2_with fail
  refine wp_loop_rounds 3 ?_
  rw [rounds_succ]
  go_wp2_with fail
  refine wp_loop_rounds 3 ?_
  rw [rounds_succ]
  go_wp2_with (at_builtin; refine wpList_append_own _ rfl (.tmp 65) (.tmp 69) 156 rfl w.heap.size 2 i0 (.int .i64 0) 1 8 Tryd.underlying156 hi hz0 hz1 hz2 rfl (by decide) _ _ _ rfl (hoe1.alloc _) ⟨World.heap We1 |>.size, 0, none⟩ 1 1 [.int .i64 (xl.tdiv pl)] rfl rfl (cell_one_new _ _ _) (by simp [Value.oneCell']) (by unfold maxLen; omega) (by omega) (De1.base_le _) ?_; intro va4 Wa4 hown4 hgrow _)
  have Da4 := De1.grown (Nat.le_refl _) hoe1 hgrow
  obtain ⟨c1, c2, c3, c4, s1, s2⟩ := Da4.cells
  clear hgrow hoe1 De1
  go_wp2_with fail
  rw [rounds_succ]
  go_wp2_with (at_builtin; refine wpList_append_own _ rfl (.tmp 65) (.tmp 69) 156 rfl w.heap.size 2 i0 (.int .i64 0) 1 8 Tryd.underlying156 hi hz0 hz1 hz2 rfl (by decide) _ _ _ rfl (hown4.alloc _) ⟨World.heap Wa4 |>.size, 0, none⟩ 1 1 [.int .i64 (xl.tdiv yh)] rfl rfl (cell_one_new _ _ _) (by simp [Value.oneCell']) (by unfold maxLen; omega) (by omega) (Da4.base_le _) ?_; intro va5 Wa5 hown5 hgrow _)
  have Da5 := Da4.grown (Nat.le_refl _) hown4 hgrow
  obtain ⟨c1, c2, c3, c4, s1, s2⟩ := Da5.cells
  clear hgrow hown4 Da4
  go_wp2_with fail
  rw [rounds_succ]
  go_wp2_with fail
  rw [rounds_succ]
  go_wp2_with fail
  refine wp_loop_rounds 3 ?_
  rw [rounds_succ]
  go_wp2_with (at_builtin; refine wpList_append_own _ rfl (.tmp 65) (.tmp 69) 156 rfl w.heap.size 2 i0 (.int .i64 0) 1 8 Tryd.underlying156 hi hz0 hz1 hz2 rfl (by decide) _ _ _ rfl (hown5.alloc _) ⟨World.heap Wa5 |>.size, 0, none⟩ 1 1 [.int .i64 (xh.tdiv pl)] rfl rfl (cell_one_new _ _ _) (by simp [Value.oneCell']) (by unfold maxLen; omega) (by omega) (Da5.base_le _) ?_; intro va6 Wa6 hown6 hgrow _)
  have Da6 := Da5.grown (Nat.le_refl _) hown5 hgrow
  obtain ⟨c1, c2, c3, c4, s1, s2⟩ := Da6.cells
  clear hgrow hown5 Da5
  go_wp2_with fail
  rw [rounds_succ]
  go_wp2_with (at_builtin; refine wpList_append_own _ rfl (.tmp 65) (.tmp 69) 156 rfl w.heap.size 2 i0 (.int .i64 0) 1 8 Tryd.underlying156 hi hz0 hz1 hz2 rfl (by decide) _ _ _ rfl (hown6.alloc _) ⟨World.heap Wa6 |>.size, 0, none⟩ 1 1 [.int .i64 (xh.tdiv yh)] rfl rfl (cell_one_new _ _ _) (by simp [Value.oneCell']) (by unfold maxLen; omega) (by omega) (Da6.base_le _) ?_; intro va7 Wa7 hown7 hgrow _)
  have Da7 := Da6.grown (Nat.le_refl _) hown6 hgrow
  obtain ⟨c1, c2, c3, c4, s1, s2⟩ := Da7.cells
  clear hgrow hown6 Da6
  go_wp2_with fail
  rw [rounds_succ]
  go_wp2_with fail
  rw [rounds_succ]
  go_wp2_with fail
  rw [rounds_succ]
  go_wp2_with fail
  obtain ⟨g, cap, hv, hg, hc⟩ := own_ints (l := [xl.tdiv yl, xl.tdiv nh, xh.tdiv yl, xh.tdiv nh, xl.tdiv pl, xl.tdiv yh, xh.tdiv pl, xh.tdiv yh]) rfl (by simpa using hown7) (by simp)
  rw [hv]
  obtain ⟨r1, r2, r3, r4, r5⟩ := Da7.result
  have kB := Da7.below
  clear hv hown7 Da7
  refine (Calls.ext (hull_any g cap [xl.tdiv yl, xl.tdiv nh, xh.tdiv yl, xh.tdiv nh, xl.tdiv pl, xl.tdiv yh, xh.tdiv pl, xh.tdiv yh] _ (by simp) (by simp) hg hc)).mono ?_
  rintro e _ ⟨rfl, y5, rfl⟩
  clear hc
  go_wp2
  all_goals
   refine bodyPost_ret (v := .agg #[.int .i32 (hullL [xl.tdiv yl, xl.tdiv nh, xh.tdiv yl, xh.tdiv nh, xl.tdiv pl, xl.tdiv yh, xh.tdiv pl, xh.tdiv yh]).1, .int .i32 (hullL [xl.tdiv yl, xl.tdiv nh, xh.tdiv yl, xh.tdiv nh, xl.tdiv pl, xl.tdiv yh, xh.tdiv pl, xh.tdiv yh]).2]) ?hr rfl ⟨rfl, ?bel⟩
   case hr =>
    simp [results, Tryd.results67, go_sem, r1, r2, r5]
   case bel =>
    (repeat (first | assumption | refine Below.setCell ?_ ?_ _ | refine Ext.below ?_ ?_ _ | refine Below.alloc ?_ ?_ _)) <;> (first | (simp; done) | (simp; omega) | omega)

set_option maxRecDepth 100000 in
set_option maxHeartbeats 1000000 in
theorem divide_zero (xl xh yl yh : Int) (w : World) (nz : (yl == 0 && yh == 0) = true) (BX : True) (BY : True) :
  Calls Tryd.prog 67 #[.agg #[.int .i32 xl, .int .i32 xh], .agg #[.int .i32 yl, .int .i32 yh]] w fun e w' => e = .returned (.agg #[.int .i32 (1), .int .i32 (0)]) ∧ Below w.heap.size w w' := by
 have e2 := eq_iv
 go_enter Tryd.func67, Tryd.ntmps67
 go_wp2_with fail
 refine wp_region_ext (by kernel_rfl) (by kernel_rfl) ?_
 repeat (go_big_quiet_step ((go_at_call 37; exact Calls.extq (of_any _ _))))
 refine wpQuiet_nil ?_
 rintro _ ⟨x1, rfl⟩
 go_wp2_with (first | (go_at_call 50; ((first | (with_reducible refine (Calls.extq (empty_any _)).mono ?_) | (refine (Calls.ext (empty_any _)).mono ?_)); rintro e _ ⟨rfl, y, rfl⟩)) | (go_at_call 49; ((first | (with_reducible refine (Calls.extq (full_any _)).mono ?_) | (refine (Calls.ext (full_any _)).mono ?_)); rintro e _ ⟨rfl, y, rfl⟩)) | (go_at_call 21; (first | (with_reducible refine (Calls.extq (lit_of (contains_any _ _ _ _) BX.out)).mono ?_) | (with_reducible refine (Calls.extq (lit_of (contains_any _ _ _ _) BY.out)).mono ?_)); rintro e _ ⟨rfl, y, rfl⟩))
 all_goals
  refine bodyPost_ret (v := .agg #[.int .i32 (1), .int .i32 (0)]) ?hr rfl ⟨rfl, ?bel⟩
  case hr =>
   simp [results, Tryd.results67, go_sem]
  case bel =>
   (repeat (first | exact Below.refl _ _ | refine Below.setCell ?_ ?_ _ | refine Ext.below ?_ ?_ _ | refine Below.alloc ?_ ?_ _)) <;> (first | (simp; done) | (simp; omega) | omega | (simp only [World.size_setCell, World.size_alloc]; refine Nat.le_trans ?_ (Below.size (Ext.h _)); simp only [World.size_setCell, World.size_alloc]; omega))

set_option maxRecDepth 100000 in
set_option maxHeartbeats 1000000 in
theorem divide_over (xl xh yl yh : Int) (w : World) (nz : (yl == 0 && yh == 0) = false) (BX : Hid ((decide (xl ≤ -2147483648) && decide (-2147483648 ≤ xh)) = true)) (BY : Hid ((decide (yl ≤ -1) && decide (-1 ≤ yh)) = true)) :
  Calls Tryd.prog 67 #[.agg #[.int .i32 xl, .int .i32 xh], .agg #[.int .i32 yl, .int .i32 yh]] w fun e w' => e = .returned (.agg #[.int .i32 (-2147483648), .int .i32 (2147483647)]) ∧ Below w.heap.size w w' := by
 have e2 := eq_iv
 go_enter Tryd.func67, Tryd.ntmps67
 go_wp2_with fail
 refine wp_region_ext (by kernel_rfl) (by kernel_rfl) ?_
 repeat (go_big_quiet_step ((go_at_call 37; exact Calls.extq (of_any _ _))))
 refine wpQuiet_nil ?_
 rintro _ ⟨x1, rfl⟩
 go_wp2_with (first | (go_at_call 50; ((first | (with_reducible refine (Calls.extq (empty_any _)).mono ?_) | (refine (Calls.ext (empty_any _)).mono ?_)); rintro e _ ⟨rfl, y, rfl⟩)) | (go_at_call 49; ((first | (with_reducible refine (Calls.extq (full_any _)).mono ?_) | (refine (Calls.ext (full_any _)).mono ?_)); rintro e _ ⟨rfl, y, rfl⟩)) | (go_at_call 21; (first | (with_reducible refine (Calls.extq (lit_of (contains_any _ _ _ _) BX.out)).mono ?_) | (with_reducible refine (Calls.extq (lit_of (contains_any _ _ _ _) BY.out)).mono ?_)); rintro e _ ⟨rfl, y, rfl⟩))
 all_goals
  refine bodyPost_ret (v := .agg #[.int .i32 (-2147483648), .int .i32 (2147483647)]) ?hr rfl ⟨rfl, ?bel⟩
  case hr =>
   simp [results, Tryd.results67, go_sem]
  case bel =>
   (repeat (first | exact Below.refl _ _ | refine Below.setCell ?_ ?_ _ | refine Ext.below ?_ ?_ _ | refine Below.alloc ?_ ?_ _)) <;> (first | (simp; done) | (simp; omega) | omega | (simp only [World.size_setCell, World.size_alloc]; refine Nat.le_trans ?_ (Below.size (Ext.h _)); simp only [World.size_setCell, World.size_alloc]; omega))

theorem divide_any (xl xh yl yh : Int) (w : World) (hx1 : -2147483648 ≤ xl) (hx2 : xl ≤ 2147483647) (hx3 : -2147483648 ≤ xh) (hx4 : xh ≤ 2147483647) (hy1 : -2147483648 ≤ yl) (hy2 : yl ≤ 2147483647) (hy3 : -2147483648 ≤ yh) (hy4 : yh ≤ 2147483647) (he : xl ≤ xh) (he' : yl ≤ yh) :
  Calls Tryd.prog 67 #[.agg #[.int .i32 xl, .int .i32 xh], .agg #[.int .i32 yl, .int .i32 yh]] w fun e w' => e = .returned (.agg #[.int .i32 (divI (xl, xh) (yl, yh)).1, .int .i32 (divI (xl, xh) (yl, yh)).2]) ∧ Below w.heap.size w w' := by
 by_cases z : yl = 0 ∧ yh = 0
 ·refine (divide_zero xl xh yl yh w (by simpa using z) trivial trivial).mono fun e' w' ⟨q, hb⟩ => ⟨q.trans ?_, hb⟩
  rw [divI, if_pos z]
 ·have nz : (yl == 0 && yh == 0) = false := by simpa using z
  have nz' : yl < 0 ∨ 0 < yh := by omega
  by_cases b : (xl ≤ -2147483648 ∧ -2147483648 ≤ xh) ∧ (yl ≤ -1 ∧ -1 ≤ yh)
  ·refine (divide_over xl xh yl yh w nz (Lib.hid (by simpa using b.1)) (Lib.hid (by simpa using b.2))).mono fun e' w' ⟨q, hb⟩ => ⟨q.trans ?_, hb⟩
   rw [divI, if_neg z, if_pos b]
  ·have ev : divI (xl, xh) (yl, yh) = hullL (divL (xl, xh) (yl, yh)) := by rw [divI, if_neg z, if_neg b]
   rw [ev]
   have HXY : Hid ((decide (xl ≤ -2147483648) && decide (-2147483648 ≤ xh)) = false) ∨ Hid ((decide (xl ≤ -2147483648) && decide (-2147483648 ≤ xh)) = true) ∧ Hid ((decide (yl ≤ -1) && decide (-1 ≤ yh)) = false) := by
    by_cases bx : xl ≤ -2147483648 ∧ -2147483648 ≤ xh
    ·have by' : ¬ (yl ≤ -1 ∧ -1 ≤ yh) := fun h => b ⟨bx, h⟩
     exact .inr ⟨Lib.hid (by simpa using bx), Lib.hid (by simpa using by')⟩
    ·exact .inl (Lib.hid (by simpa using bx))
   by_cases c1 : yl < 0
   ·by_cases c2 : 0 < yh
    ·refine (divide_np xl xh yl yh w hx1 hx2 hx3 hx4 hy1 hy2 hy3 hy4 (min yh (-1)) (max yl 1) (Lib.hid rfl) (Lib.hid rfl) HXY nz (by omega) (by omega) (by omega) (by omega) (by omega) (by omega) (by omega) (by omega) (Lib.hid (by simp <;> omega)) (Lib.hid (by simp <;> omega))).mono fun e' w' ⟨q, hb⟩ => ⟨q.trans (ret_pair (congrArg hullL ?_)), hb⟩
     simp [divL, divC, c1, c2]
    ·refine (divide_n xl xh yl yh w hx1 hx2 hx3 hx4 hy1 hy2 hy3 hy4 (min yh (-1)) (max yl 1) (Lib.hid rfl) (Lib.hid rfl) HXY nz (by omega) (by omega) (by omega) (by omega) (by omega) (by omega) (by omega) (Lib.hid (by simp <;> omega)) (Lib.hid (by simp <;> omega))).mono fun e' w' ⟨q, hb⟩ => ⟨q.trans (ret_pair (congrArg hullL ?_)), hb⟩
     simp [divL, divC, c1, c2]
   ·have c2 : 0 < yh := by omega
    refine (divide_p xl xh yl yh w hx1 hx2 hx3 hx4 hy1 hy2 hy3 hy4 (min yh (-1)) (max yl 1) (Lib.hid rfl) (Lib.hid rfl) HXY nz (by omega) (by omega) (by omega) (by omega) (by omega) (by omega) (by omega) (Lib.hid (by simp <;> omega)) (Lib.hid (by simp <;> omega))).mono fun e' w' ⟨q, hb⟩ => ⟨q.trans (ret_pair (congrArg hullL ?_)), hb⟩
    simp [divL, divC, c1, c2]

end Go.Proofs.YtebklpnkcicpjaaDoor

namespace Go.Proofs.YtebklpnkcicpjaaDoor
open Go.RowKit
set_option linter.unusedVariables false
set_option linter.unusedSimpArgs false

def genI (op : Int) (x y : Int × Int) : Int × Int :=
 if op = 6 then hullL [x.1 + y.1, x.1 + y.2, x.2 + y.1, x.2 + y.2] else if op = 7 then hullL [x.1 - y.1, x.1 - y.2, x.2 - y.1, x.2 - y.2]
 else if op = 8 then hullL [x.1 * y.1, x.1 * y.2, x.2 * y.1, x.2 * y.2] else if op = 9 then divI x y else if op = 10 then modI x y
 else if op ≤ 13 then bitI op x y else if op ≤ 15 then shI op x y else if op ≤ 21 then cmpI op x y else logI op x y
set_option maxRecDepth 100000 in
set_option maxHeartbeats 8000000 in
theorem apply_mid (op xl xh yl yh : Int) (w : World) (hx1 : -2147483648 ≤ xl) (hx2 : xl ≤ 2147483647) (hx3 : -2147483648 ≤ xh) (hx4 : xh ≤ 2147483647) (hy1 : -2147483648 ≤ yl) (hy2 : yl ≤ 2147483647) (hy3 : -2147483648 ≤ yh) (hy4 : yh ≤ 2147483647) (hop : op = 9 ∨ (11 ≤ op ∧ op ≤ 23)) (hxe : xl ≤ xh) (hye : yl ≤ yh) (hs : ¬ (xl = xh ∧ yl = yh)) :
  Calls Tryd.prog 47 #[.int .u8 op, .agg #[.int .i32 xl, .int .i32 xh], .agg #[.int .i32 yl, .int .i32 yh]] w fun e w' => e = .returned (.agg #[.int .i32 (genI op (xl, xh) (yl, yh)).1, .int .i32 (genI op (xl, xh) (yl, yh)).2]) ∧ Below w.heap.size w w' := by
 obtain ⟨g1, hg1⟩ : ∃ g, (genI op (xl, xh) (yl, yh)).1 = g := ⟨_, rfl⟩
 obtain ⟨g2, hg2⟩ : ∃ g, (genI op (xl, xh) (yl, yh)).2 = g := ⟨_, rfl⟩
 have HD := Lib.hid (fun (h : op = 9) (W : World) => show Calls Tryd.prog 67 #[.agg #[.int .i32 xl, .int .i32 xh], .agg #[.int .i32 yl, .int .i32 yh]] W fun e w' => e = .returned (.agg #[.int .i32 g1, .int .i32 g2]) ∧ Below W.heap.size W w' by
  have hc := divide_any xl xh yl yh W hx1 hx2 hx3 hx4 hy1 hy2 hy3 hy4 hxe hye
  rw [show divI (xl, xh) (yl, yh) = genI op (xl, xh) (yl, yh) by unfold genI; rw [if_neg (by omega), if_neg (by omega), if_neg (by omega), if_pos h], hg1, hg2] at hc
  exact hc)
 have HB := Lib.hid (fun (h : 11 ≤ op ∧ op ≤ 13) (W : World) => show Calls Tryd.prog 69 #[.int .u8 op, .agg #[.int .i32 xl, .int .i32 xh], .agg #[.int .i32 yl, .int .i32 yh]] W fun e w' => e = .returned (.agg #[.int .i32 g1, .int .i32 g2]) ∧ Below W.heap.size W w' by
  have hc := bitwise_any op xl xh yl yh W hx3 hx4 hy3 hy4 h.1 h.2 hxe hye
  rw [show bitI op (xl, xh) (yl, yh) = genI op (xl, xh) (yl, yh) by unfold genI; rw [if_neg (by omega), if_neg (by omega), if_neg (by omega), if_neg (by omega), if_neg (by omega), if_pos (by omega)], hg1, hg2] at hc
  exact hc)
 have HS := Lib.hid (fun (h : 14 ≤ op ∧ op ≤ 15) (W : World) => show Calls Tryd.prog 70 #[.int .u8 op, .agg #[.int .i32 xl, .int .i32 xh], .agg #[.int .i32 yl, .int .i32 yh]] W fun e w' => e = .returned (.agg #[.int .i32 g1, .int .i32 g2]) ∧ Below W.heap.size W w' by
  have hc := shift_any op xl xh yl yh W hx1 hx2 hx3 hx4 hy1 hy2 h.1 h.2
  rw [show shI op (xl, xh) (yl, yh) = genI op (xl, xh) (yl, yh) by unfold genI; rw [if_neg (by omega), if_neg (by omega), if_neg (by omega), if_neg (by omega), if_neg (by omega), if_neg (by omega), if_pos (by omega)], hg1, hg2] at hc
  exact hc)
 have HC := Lib.hid (fun (h : 16 ≤ op ∧ op ≤ 21) (W : World) => show Calls Tryd.prog 72 #[.int .u8 op, .agg #[.int .i32 xl, .int .i32 xh], .agg #[.int .i32 yl, .int .i32 yh]] W fun e w' => e = .returned (.agg #[.int .i32 g1, .int .i32 g2]) ∧ Below W.heap.size W w' by
  have hc := compare_any op xl xh yl yh W h.1 h.2
  rw [show cmpI op (xl, xh) (yl, yh) = genI op (xl, xh) (yl, yh) by unfold genI; rw [if_neg (by omega), if_neg (by omega), if_neg (by omega), if_neg (by omega), if_neg (by omega), if_neg (by omega), if_neg (by omega), if_pos (by omega)], hg1, hg2] at hc
  exact hc)
 have HL := Lib.hid (fun (h : 22 ≤ op ∧ op ≤ 23) (W : World) => show Calls Tryd.prog 71 #[.int .u8 op, .agg #[.int .i32 xl, .int .i32 xh], .agg #[.int .i32 yl, .int .i32 yh]] W fun e w' => e = .returned (.agg #[.int .i32 g1, .int .i32 g2]) ∧ Below W.heap.size W w' by
  have hc := logic_any op xl xh yl yh W h.1 h.2
  rw [show logI op (xl, xh) (yl, yh) = genI op (xl, xh) (yl, yh) by unfold genI; rw [if_neg (by omega), if_neg (by omega), if_neg (by omega), if_neg (by omega), if_neg (by omega), if_neg (by omega), if_neg (by omega), if_neg (by omega)], hg1, hg2] at hc
  exact hc)
 have HG1 := Lib.hid hg1
 have HG2 := Lib.hid hg2
 have d1 : decide (xh < xl) = false := by simp; omega
 have d2 : decide (yh < yl) = false := by simp; omega
 have hq : (xl == xh) = false ∨ ((xl == xh) = true ∧ (yl == yh) = false) := by simp; omega
 have h13 : op = 9 ∨ op = 11 ∨ op = 12 ∨ op = 13 ∨ op = 14 ∨ op = 15 ∨ op = 16 ∨ op = 17 ∨ op = 18 ∨ op = 19 ∨ op = 20 ∨ op = 21 ∨ op = 22 ∨ op = 23 := by omega
 clear hg1 hg2 hxe hye hs hop
 rcases h13 with rfl | rfl | rfl | rfl | rfl | rfl | rfl | rfl | rfl | rfl | rfl | rfl | rfl | rfl <;> rcases hq with hq | ⟨hq, hq2⟩
 all_goals
  go_enter Tryd.func47, Tryd.ntmps47
  go_wp2_with (first | (go_at_call 39; ((first | (with_reducible refine (Calls.extq (isEmpty_any _ _ _)).mono ?_) | (refine (Calls.ext (isEmpty_any _ _ _)).mono ?_)); rintro e _ ⟨rfl, y, rfl⟩)) | (go_at_call 64; ((first | (with_reducible refine (Calls.extq (single_any _ _ _)).mono ?_) | (refine (Calls.ext (single_any _ _ _)).mono ?_)); rintro e _ ⟨rfl, y, rfl⟩)) | (go_at_call 67; ((first | (with_reducible refine (Calls.extq (HD.out (by decide) _)).mono ?_) | (refine (Calls.ext (HD.out (by decide) _)).mono ?_)); rintro e _ ⟨rfl, y, rfl⟩)) | (go_at_call 69; ((first | (with_reducible refine (Calls.extq (HB.out (by decide) _)).mono ?_) | (refine (Calls.ext (HB.out (by decide) _)).mono ?_)); rintro e _ ⟨rfl, y, rfl⟩)) | (go_at_call 70; ((first | (with_reducible refine (Calls.extq (HS.out (by decide) _)).mono ?_) | (refine (Calls.ext (HS.out (by decide) _)).mono ?_)); rintro e _ ⟨rfl, y, rfl⟩)) | (go_at_call 72; ((first | (with_reducible refine (Calls.extq (HC.out (by decide) _)).mono ?_) | (refine (Calls.ext (HC.out (by decide) _)).mono ?_)); rintro e _ ⟨rfl, y, rfl⟩)) | (go_at_call 71; ((first | (with_reducible refine (Calls.extq (HL.out (by decide) _)).mono ?_) | (refine (Calls.ext (HL.out (by decide) _)).mono ?_)); rintro e _ ⟨rfl, y, rfl⟩)))
  all_goals
   refine bodyPost_ret (v := .agg #[.int .i32 g1, .int .i32 g2]) ?hr rfl ⟨by rw [HG1.out, HG2.out], ?bel⟩
   case hr =>
    simp [results, Tryd.results47, go_sem]
   case bel =>
    (repeat (first | exact Below.refl _ _ | refine Below.setCell ?_ ?_ _ | refine Ext.below ?_ ?_ _ | refine Below.alloc ?_ ?_ _)) <;> (first | (simp; done) | (simp; omega) | omega | (simp only [World.size_setCell, World.size_alloc]; refine Nat.le_trans ?_ (Below.size (Ext.h _)); simp only [World.size_setCell, World.size_alloc]; omega))
set_option maxRecDepth 100000 in
set_option maxHeartbeats 1000000 in
theorem apply_out_lo (op xl xh yl yh : Int) (w : World) (h : op < 6) :
  Calls Tryd.prog 47 #[.int .u8 op, .agg #[.int .i32 xl, .int .i32 xh], .agg #[.int .i32 yl, .int .i32 yh]] w fun e w' => e = .returned (.agg #[.int .i32 (-2147483648), .int .i32 2147483647]) ∧ Below w.heap.size w w' := by
 have d1 : decide (op < 6) = true := by simpa using h
 go_enter Tryd.func47, Tryd.ntmps47
 go_wp2_with (first | (go_at_call 49; ((first | (with_reducible refine (Calls.extq (full_any _)).mono ?_) | (refine (Calls.ext (full_any _)).mono ?_)); rintro e _ ⟨rfl, y, rfl⟩)))
 all_goals
  refine bodyPost_ret (v := .agg #[.int .i32 (-2147483648), .int .i32 2147483647]) ?hr rfl ⟨rfl, ?bel⟩
  case hr =>
   simp [results, Tryd.results47, go_sem]
  case bel =>
   (repeat (first | exact Below.refl _ _ | refine Below.setCell ?_ ?_ _ | refine Ext.below ?_ ?_ _ | refine Below.alloc ?_ ?_ _)) <;> (first | (simp; done) | (simp; omega) | omega | (simp only [World.size_setCell, World.size_alloc]; refine Nat.le_trans ?_ (Below.size (Ext.h _)); simp only [World.size_setCell, World.size_alloc]; omega))

set_option maxRecDepth 100000 in
set_option maxHeartbeats 1000000 in
theorem apply_out_hi (op xl xh yl yh : Int) (w : World) (h : 23 < op) :
  Calls Tryd.prog 47 #[.int .u8 op, .agg #[.int .i32 xl, .int .i32 xh], .agg #[.int .i32 yl, .int .i32 yh]] w fun e w' => e = .returned (.agg #[.int .i32 (-2147483648), .int .i32 2147483647]) ∧ Below w.heap.size w w' := by
 have d1 : decide (op < 6) = false := by simp; omega
 have d2 : decide (23 < op) = true := by simpa using h
 go_enter Tryd.func47, Tryd.ntmps47
 go_wp2_with (first | (go_at_call 49; ((first | (with_reducible refine (Calls.extq (full_any _)).mono ?_) | (refine (Calls.ext (full_any _)).mono ?_)); rintro e _ ⟨rfl, y, rfl⟩)))
 all_goals
  refine bodyPost_ret (v := .agg #[.int .i32 (-2147483648), .int .i32 2147483647]) ?hr rfl ⟨rfl, ?bel⟩
  case hr =>
   simp [results, Tryd.results47, go_sem]
  case bel =>
   (repeat (first | exact Below.refl _ _ | refine Below.setCell ?_ ?_ _ | refine Ext.below ?_ ?_ _ | refine Below.alloc ?_ ?_ _)) <;> (first | (simp; done) | (simp; omega) | omega | (simp only [World.size_setCell, World.size_alloc]; refine Nat.le_trans ?_ (Below.size (Ext.h _)); simp only [World.size_setCell, World.size_alloc]; omega))

set_option maxRecDepth 100000 in
set_option maxHeartbeats 1000000 in
theorem apply_emp_x (op xl xh yl yh : Int) (w : World) (h1 : 6 ≤ op) (h2 : op ≤ 23) (h : xh < xl) :
  Calls Tryd.prog 47 #[.int .u8 op, .agg #[.int .i32 xl, .int .i32 xh], .agg #[.int .i32 yl, .int .i32 yh]] w fun e w' => e = .returned (.agg #[.int .i32 1, .int .i32 0]) ∧ Below w.heap.size w w' := by
 have d1 : decide (op < 6) = false := by simp; omega
 have d2 : decide (23 < op) = false := by simp; omega
 have d3 : decide (xh < xl) = true := by simpa using h
 go_enter Tryd.func47, Tryd.ntmps47
 go_wp2_with (first | (go_at_call 39; ((first | (with_reducible refine (Calls.extq (isEmpty_any _ _ _)).mono ?_) | (refine (Calls.ext (isEmpty_any _ _ _)).mono ?_)); rintro e _ ⟨rfl, y, rfl⟩)) | (go_at_call 50; ((first | (with_reducible refine (Calls.extq (empty_any _)).mono ?_) | (refine (Calls.ext (empty_any _)).mono ?_)); rintro e _ ⟨rfl, y, rfl⟩)))
 all_goals
  refine bodyPost_ret (v := .agg #[.int .i32 1, .int .i32 0]) ?hr rfl ⟨rfl, ?bel⟩
  case hr =>
   simp [results, Tryd.results47, go_sem]
  case bel =>
   (repeat (first | exact Below.refl _ _ | refine Below.setCell ?_ ?_ _ | refine Ext.below ?_ ?_ _ | refine Below.alloc ?_ ?_ _)) <;> (first | (simp; done) | (simp; omega) | omega | (simp only [World.size_setCell, World.size_alloc]; refine Nat.le_trans ?_ (Below.size (Ext.h _)); simp only [World.size_setCell, World.size_alloc]; omega))

set_option maxRecDepth 100000 in
set_option maxHeartbeats 1000000 in
theorem apply_emp_y (op xl xh yl yh : Int) (w : World) (h1 : 6 ≤ op) (h2 : op ≤ 23) (h : ¬ xh < xl) (h' : yh < yl) :
  Calls Tryd.prog 47 #[.int .u8 op, .agg #[.int .i32 xl, .int .i32 xh], .agg #[.int .i32 yl, .int .i32 yh]] w fun e w' => e = .returned (.agg #[.int .i32 1, .int .i32 0]) ∧ Below w.heap.size w w' := by
 have d1 : decide (op < 6) = false := by simp; omega
 have d2 : decide (23 < op) = false := by simp; omega
 have d3 : decide (xh < xl) = false := by simpa using h
 have d4 : decide (yh < yl) = true := by simpa using h'
 go_enter Tryd.func47, Tryd.ntmps47
 go_wp2_with (first | (go_at_call 39; ((first | (with_reducible refine (Calls.extq (isEmpty_any _ _ _)).mono ?_) | (refine (Calls.ext (isEmpty_any _ _ _)).mono ?_)); rintro e _ ⟨rfl, y, rfl⟩)) | (go_at_call 50; ((first | (with_reducible refine (Calls.extq (empty_any _)).mono ?_) | (refine (Calls.ext (empty_any _)).mono ?_)); rintro e _ ⟨rfl, y, rfl⟩)))
 all_goals
  refine bodyPost_ret (v := .agg #[.int .i32 1, .int .i32 0]) ?hr rfl ⟨rfl, ?bel⟩
  case hr =>
   simp [results, Tryd.results47, go_sem]
  case bel =>
   (repeat (first | exact Below.refl _ _ | refine Below.setCell ?_ ?_ _ | refine Ext.below ?_ ?_ _ | refine Below.alloc ?_ ?_ _)) <;> (first | (simp; done) | (simp; omega) | omega | (simp only [World.size_setCell, World.size_alloc]; refine Nat.le_trans ?_ (Below.size (Ext.h _)); simp only [World.size_setCell, World.size_alloc]; omega))

set_option maxRecDepth 100000 in
set_option maxHeartbeats 1000000 in
theorem apply_single_ok (op n m : Int) (w : World) (h1 : 6 ≤ op) (h2 : op ≤ 23) (hn : W32 n) (hm : W32 m) (we0 : (we op m != 0) = false) :
  Calls Tryd.prog 47 #[.int .u8 op, .agg #[.int .i32 n, .int .i32 n], .agg #[.int .i32 m, .int .i32 m]] w fun e w' => e = .returned (.agg #[.int .i32 (wv op n m), .int .i32 (wv op n m)]) ∧ Below w.heap.size w w' := by
 have d1 : decide (op < 6) = false := by simp; omega
 have d2 : decide (23 < op) = false := by simp; omega
 have d3 : decide (n < n) = false := by simp
 have d4 : decide (m < m) = false := by simp
 have d5 : (n == n) = true := by simp
 have d6 : (m == m) = true := by simp
 have we1 : (we op m == 0) = true := by simpa using we0
 go_enter Tryd.func47, Tryd.ntmps47
 go_wp2_with (first | (go_at_call 39; ((first | (with_reducible refine (Calls.extq (isEmpty_any _ _ _)).mono ?_) | (refine (Calls.ext (isEmpty_any _ _ _)).mono ?_)); rintro e _ ⟨rfl, y, rfl⟩)) | (go_at_call 64; ((first | (with_reducible refine (Calls.extq (single_any _ _ _)).mono ?_) | (refine (Calls.ext (single_any _ _ _)).mono ?_)); rintro e _ ⟨rfl, y, rfl⟩)) | (go_at_call 50; ((first | (with_reducible refine (Calls.extq (empty_any _)).mono ?_) | (refine (Calls.ext (empty_any _)).mono ?_)); rintro e _ ⟨rfl, y, rfl⟩)) | (go_at_call 37; ((first | (with_reducible refine (Calls.extq (of_any _ _)).mono ?_) | (refine (Calls.ext (of_any _ _)).mono ?_)); rintro e _ ⟨rfl, y, rfl⟩)) | (go_at_call 65; refine (Calls.extq_same (wapply_any _ _ _ _ hn hm)).mono ?_; rintro e _ ⟨rfl, y, rfl⟩))
 all_goals
  refine bodyPost_ret (v := .agg #[.int .i32 (wv op n m), .int .i32 (wv op n m)]) ?hr rfl ⟨rfl, ?bel⟩
  case hr =>
   simp [results, Tryd.results47, go_sem]
  case bel =>
   (repeat (first | exact Below.refl _ _ | refine Below.setCell ?_ ?_ _ | refine Ext.below ?_ ?_ _ | refine Below.alloc ?_ ?_ _)) <;> (first | (simp; done) | (simp; omega) | omega | (simp only [World.size_setCell, World.size_alloc]; refine Nat.le_trans ?_ (Below.size (Ext.h _)); simp only [World.size_setCell, World.size_alloc]; omega))

set_option maxRecDepth 100000 in
set_option maxHeartbeats 1000000 in
theorem apply_single_no (op n m : Int) (w : World) (h1 : 6 ≤ op) (h2 : op ≤ 23) (hn : W32 n) (hm : W32 m) (we0 : (we op m != 0) = true) :
  Calls Tryd.prog 47 #[.int .u8 op, .agg #[.int .i32 n, .int .i32 n], .agg #[.int .i32 m, .int .i32 m]] w fun e w' => e = .returned (.agg #[.int .i32 1, .int .i32 0]) ∧ Below w.heap.size w w' := by
 have d1 : decide (op < 6) = false := by simp; omega
 have d2 : decide (23 < op) = false := by simp; omega
 have d3 : decide (n < n) = false := by simp
 have d4 : decide (m < m) = false := by simp
 have d5 : (n == n) = true := by simp
 have d6 : (m == m) = true := by simp
 have we1 : (we op m == 0) = false := by simpa using we0
 go_enter Tryd.func47, Tryd.ntmps47
 go_wp2_with (first | (go_at_call 39; ((first | (with_reducible refine (Calls.extq (isEmpty_any _ _ _)).mono ?_) | (refine (Calls.ext (isEmpty_any _ _ _)).mono ?_)); rintro e _ ⟨rfl, y, rfl⟩)) | (go_at_call 64; ((first | (with_reducible refine (Calls.extq (single_any _ _ _)).mono ?_) | (refine (Calls.ext (single_any _ _ _)).mono ?_)); rintro e _ ⟨rfl, y, rfl⟩)) | (go_at_call 50; ((first | (with_reducible refine (Calls.extq (empty_any _)).mono ?_) | (refine (Calls.ext (empty_any _)).mono ?_)); rintro e _ ⟨rfl, y, rfl⟩)) | (go_at_call 37; ((first | (with_reducible refine (Calls.extq (of_any _ _)).mono ?_) | (refine (Calls.ext (of_any _ _)).mono ?_)); rintro e _ ⟨rfl, y, rfl⟩)) | (go_at_call 65; refine (Calls.extq_same (wapply_any _ _ _ _ hn hm)).mono ?_; rintro e _ ⟨rfl, y, rfl⟩))
 all_goals
  refine bodyPost_ret (v := .agg #[.int .i32 1, .int .i32 0]) ?hr rfl ⟨rfl, ?bel⟩
  case hr =>
   simp [results, Tryd.results47, go_sem]
  case bel =>
   (repeat (first | exact Below.refl _ _ | refine Below.setCell ?_ ?_ _ | refine Ext.below ?_ ?_ _ | refine Below.alloc ?_ ?_ _)) <;> (first | (simp; done) | (simp; omega) | omega | (simp only [World.size_setCell, World.size_alloc]; refine Nat.le_trans ?_ (Below.size (Ext.h _)); simp only [World.size_setCell, World.size_alloc]; omega))

def applyI (op : Int) (x y : Int × Int) : Int × Int :=
 if op < 6 ∨ 23 < op then (-2147483648, 2147483647) else if x.2 < x.1 ∨ y.2 < y.1 then (1, 0)
 else if x.1 = x.2 ∧ y.1 = y.2 then (if we op y.1 = 0 then (wv op x.1 y.1, wv op x.1 y.1) else (1, 0))
 else genI op x y

theorem apply_any (op xl xh yl yh : Int) (w : World) (hx1 : -2147483648 ≤ xl) (hx2 : xl ≤ 2147483647) (hx3 : -2147483648 ≤ xh) (hx4 : xh ≤ 2147483647) (hy1 : -2147483648 ≤ yl) (hy2 : yl ≤ 2147483647) (hy3 : -2147483648 ≤ yh) (hy4 : yh ≤ 2147483647) :
  Calls Tryd.prog 47 #[.int .u8 op, .agg #[.int .i32 xl, .int .i32 xh], .agg #[.int .i32 yl, .int .i32 yh]] w fun e w' => e = .returned (.agg #[.int .i32 (applyI op (xl, xh) (yl, yh)).1, .int .i32 (applyI op (xl, xh) (yl, yh)).2]) ∧ Below w.heap.size w w' := by
 by_cases o1 : op < 6
 ·refine (apply_out_lo op xl xh yl yh w o1).mono fun e w' ⟨q, hb⟩ => ⟨q.trans ?_, hb⟩
  rw [applyI, if_pos (.inl o1)]
 by_cases o2 : 23 < op
 ·refine (apply_out_hi op xl xh yl yh w o2).mono fun e w' ⟨q, hb⟩ => ⟨q.trans ?_, hb⟩
  rw [applyI, if_pos (.inr o2)]
 have no : ¬ (op < 6 ∨ 23 < op) := by omega
 by_cases e1 : xh < xl
 ·refine (apply_emp_x op xl xh yl yh w (by omega) (by omega) e1).mono fun e w' ⟨q, hb⟩ => ⟨q.trans ?_, hb⟩
  rw [applyI, if_neg no, if_pos (.inl e1)]
 by_cases e2 : yh < yl
 ·refine (apply_emp_y op xl xh yl yh w (by omega) (by omega) e1 e2).mono fun e w' ⟨q, hb⟩ => ⟨q.trans ?_, hb⟩
  rw [applyI, if_neg no, if_pos (.inr e2)]
 have ne : ¬ (xh < xl ∨ yh < yl) := by omega
 by_cases s : xl = xh ∧ yl = yh
 ·obtain ⟨rfl, rfl⟩ := s
  by_cases k : we op yl = 0
  ·refine (apply_single_ok op xl yl w (by omega) (by omega) ⟨hx1, hx2⟩ ⟨hy1, hy2⟩ (by simpa using k)).mono fun e w' ⟨q, hb⟩ => ⟨q.trans ?_, hb⟩
   rw [applyI, if_neg no, if_neg ne, if_pos ⟨rfl, rfl⟩, if_pos k]
  ·refine (apply_single_no op xl yl w (by omega) (by omega) ⟨hx1, hx2⟩ ⟨hy1, hy2⟩ (by simpa using k)).mono fun e w' ⟨q, hb⟩ => ⟨q.trans ?_, hb⟩
   rw [applyI, if_neg no, if_neg ne, if_pos ⟨rfl, rfl⟩, if_neg k]
 ·have ev : applyI op (xl, xh) (yl, yh) = genI op (xl, xh) (yl, yh) := by rw [applyI, if_neg no, if_neg ne, if_neg s]
  rw [ev]
  by_cases hm : op = 9 ∨ (11 ≤ op ∧ op ≤ 23)
  ·exact apply_mid op xl xh yl yh w hx1 hx2 hx3 hx4 hy1 hy2 hy3 hy4 hm (by omega) (by omega) s
  have h4 : op = 6 ∨ op = 7 ∨ op = 8 ∨ op = 10 := by omega
  rcases h4 with rfl | rfl | rfl | rfl
  ·exact apply_6 xl xh yl yh w hx1 hx2 hx3 hx4 hy1 hy2 hy3 hy4 (by omega) (by omega) s
  ·exact apply_7 xl xh yl yh w hx1 hx2 hx3 hx4 hy1 hy2 hy3 hy4 (by omega) (by omega) s
  ·exact apply_8 xl xh yl yh w hx1 hx2 hx3 hx4 hy1 hy2 hy3 hy4 (by omega) (by omega) s
  ·exact apply_10 xl xh yl yh w hx1 hx2 hx3 hx4 hy1 hy2 hy3 hy4 (by omega) (by omega) s

end Go.Proofs.YtebklpnkcicpjaaDoor


