/-
  What is proved here: parts bIc, bIp, bKa.
-/
import Derived.Test.YtebklpnkcicpjaaGreatDoorXa
import Derived.Test.YtebklpnkcicpjaaGreatDoorXg
import Derived.Test.YtebklpnkcicpjaaGreatDoorXb
import Derived.Test.YtebklpnkcicpjaaGreatDoorXf
namespace Go.Proofs.YtebklpnkcicpjaaGreatDoor
set_option linter.unusedVariables false
set_option linter.unusedSimpArgs false
set_option maxRecDepth 100000
set_option maxHeartbeats 8000000
section
open Go.RowKit
open Go.RowKit
def divC (x y : Int × Int) : List Int := [x.1.tdiv y.1, x.1.tdiv y.2, x.2.tdiv y.1, x.2.tdiv y.2]
def su (x y : Int × Int) : List Int := (if y.1 < 0 then divC x (y.1, min y.2 (-1)) else []) ++ (if 0 < y.2 then divC x (max y.1 1, y.2) else [])
def kF (x y : Int × Int) : Int × Int :=
 if y.1 = 0 ∧ y.2 = 0 then (1, 0) else if (x.1 ≤ -2147483648 ∧ -2147483648 ≤ x.2) ∧ (y.1 ≤ -1 ∧ -1 ≤ y.2) then (-2147483648, 2147483647) else aD (su x y)
structure Div (w W : World) (xl xh pl ph : Int) (p : Nat) : Prop where
 below : Below w.heap.size w W
 bx : W.heap[w.heap.size]? = some (.cells #[.int .i32 xl, .int .i32 xh] 54 (0, 0))
 br : W.heap[w.heap.size + 1 + 1]? = some (.cells #[.int .i32 0, .int .i32 0] 54 (0, 0))
 bp : W.heap[p]? = some (.cells #[.int .i32 pl, .int .i32 ph] 54 (0, 0))
theorem lt_of_block {W : World} {k : Nat} {ob : Obj} (h : W.heap[k]? = some ob) : k < W.heap.size := by
 rcases Nat.lt_or_ge k W.heap.size with h' | h'
 ·exact h'
 ·rw [Array.getElem?_eq_none h'] at h; cases h
theorem dx {W : World} (ob : Obj) {k : Nat} {ob' : Obj} (h : W.heap[k]? = some ob') : (W.alloc ob).heap[k]? = some ob' := by
 have hlt := lt_of_block h
 show (W.heap.push ob)[k]? = _
 rw [Array.getElem?_push, if_neg (Nat.ne_of_lt hlt)]; exact h
theorem pO (W : World) (ob : Obj) : (W.alloc ob).heap[W.heap.size]? = some ob := by
 show (W.heap.push ob)[W.heap.size]? = _
 rw [Array.getElem?_push, if_pos rfl]
theorem mX {W W' : World} {ob : Obj} {B n k : Nat} {v : Value} {xs : List Value} {c : Array Value} (hk : W.heap[k]? = some (.cells c 54 (0, 0))) (hown : W.ownsRow B 2 1 v n xs) (hg : (W.alloc ob).grownBy W' v.ownBlock) : W'.heap[k]? = some (.cells c 54 (0, 0)) := by
 have hlt := lt_of_block hk
 rw [hg.block k abD ?_]
 ·exact dx ob hk
 ·rcases hown.2 with ⟨rfl, _⟩ | ⟨g, cap, cur, rfl, _, hb, _⟩
  ·simp [Value.ownBlock]
  ·simp only [Value.ownBlock, ne_eq, Option.some.injEq]
   rintro rfl
   rw [hk] at hb
   simp at hb
theorem Div.grown {w W W' : World} {xl xh pl ph : Int} {p B n : Nat} {v : Value} {xs : List Value} {ob : Obj} (D : Div w W xl xh pl ph p) (hB : w.heap.size ≤ B) (hown : W.ownsRow B 2 1 v n xs) (hg : (W.alloc ob).grownBy W' v.ownBlock) : Div w W' xl xh pl ph p := by
 have hs := D.below.size
 refine ⟨(D.below.alloc hs ob).grown hg abD ?_, mX D.bx hown hg, mX D.br hown hg, mX D.bp hown hg⟩
 intro k hk
 rcases hown.2 with ⟨rfl, _⟩ | ⟨g, cap, cur, rfl, hb, _⟩
 ·cases hk
 ·cases hk; exact Nat.le_trans hB hb
theorem ie {W : World} (y : Ext W) {k : Nat} {ob : Obj} (h : W.heap[k]? = some ob) : y.w.heap[k]? = some ob := by
 rw [y.h.block k (lt_of_block h)]; exact h
theorem fl {W : World} (y : Ext W) {B n size : Nat} {e : TypeId} {v : Value} {xs : List Value} (h : W.ownsRow B e size v n xs) : y.w.ownsRow B e size v n xs := by
 refine ⟨h.1, ?_⟩
 rcases h.2 with h0 | ⟨g, cap, cur, hv, hb, hk, hr⟩
 ·exact .inl h0
 ·exact .inr ⟨g, cap, cur, hv, hb, ie y hk, hr⟩
theorem Div.ext {w W : World} {xl xh pl ph : Int} {p B n : Nat} {v : Value} {xs : List Value} (D : Div w W xl xh pl ph p) (hown : W.ownsRow B 2 1 v n xs) (y : Ext W) : ∃ W', y.w = W' ∧ Div w W' xl xh pl ph p ∧ W'.ownsRow B 2 1 v n xs :=
 ⟨_, rfl, ⟨Ext.below D.below D.below.size y, ie y D.bx, ie y D.br, ie y D.bp⟩, fl y hown⟩
theorem Div.part {w W : World} {xl xh pl ph : Int} {p B n : Nat} {v : Value} {xs : List Value} (D : Div w W xl xh pl ph p) (hown : W.ownsRow B 2 1 v n xs) (ql qh : Int) : ∃ (W' : World) (q : Nat), W.alloc (.cells #[.int .i32 ql, .int .i32 qh] 54) = W' ∧ W.heap.size = q ∧ Div w W' xl xh ql qh q ∧ W'.ownsRow B 2 1 v n xs :=
 ⟨_, _, rfl, rfl, ⟨D.below.alloc D.below.size _, dx _ D.bx, dx _ D.br, pO _ _⟩, hown.alloc _⟩
theorem Div.cells {w W : World} {xl xh pl ph : Int} {p : Nat} (D : Div w W xl xh pl ph p) :
  W.cell? ⟨w.heap.size, 0, none⟩ = some (.int .i32 xl) ∧ W.cell? ⟨w.heap.size, 1, none⟩ = some (.int .i32 xh) ∧ W.cell? ⟨p, 0, none⟩ = some (.int .i32 pl) ∧ W.cell? ⟨p, 1, none⟩ = some (.int .i32 ph) ∧ w.heap.size < W.heap.size ∧ p < W.heap.size := by
 refine ⟨?_, ?_, ?_, ?_, lt_of_block D.bx, lt_of_block D.bp⟩ <;> simp [World.cell?, D.bx, D.bp]
theorem Div.result {w W : World} {xl xh pl ph : Int} {p : Nat} (D : Div w W xl xh pl ph p) :
  W.cell? ⟨w.heap.size + 1 + 1, 0, none⟩ = some (.int .i32 0) ∧ W.cell? ⟨w.heap.size + 1 + 1, 1, none⟩ = some (.int .i32 0) ∧ W.frozen? ⟨w.heap.size + 1 + 1, 0, none⟩ = false ∧ W.frozen? ⟨w.heap.size + 1 + 1, 1, none⟩ = false ∧ w.heap.size + 1 + 1 < W.heap.size := by
 refine ⟨?_, ?_, ?_, ?_, lt_of_block D.br⟩ <;> simp [World.cell?, World.frozen?, D.br]
theorem Div.bS {w W : World} {xl xh pl ph : Int} {p : Nat} (D : Div w W xl xh pl ph p) (ob : Obj) : w.heap.size ≤ (W.alloc ob).heap.size := by
 have := D.below.size; rw [World.size_alloc]; omega
theorem sr (xl xh yl yh a b c d : Int) (w : World) (y : Ext (((w.alloc (Obj.cells #[Value.int IntKind.i32 xl, Value.int IntKind.i32 xh] 54)).alloc (Obj.cells #[Value.int IntKind.i32 yl, Value.int IntKind.i32 yh] 54)).alloc (Obj.cells #[Value.int IntKind.i32 0, Value.int IntKind.i32 0] 54))) :
  ∃ W : World, (y.w.alloc (Obj.cells #[Value.int IntKind.i32 a, Value.int IntKind.i32 b] 54)).alloc (Obj.cells #[Value.int IntKind.i32 c, Value.int IntKind.i32 d] 54) = W ∧ Div w W xl xh xl xh w.heap.size := by
 have hs : w.heap.size + 1 + 1 + 1 ≤ y.w.heap.size := GL y.h
 have e1 : y.w.heap[w.heap.size]? = some (.cells #[.int .i32 xl, .int .i32 xh] 54 (0, 0)) := ie y (dx _ (dx _ (pO _ _)))
 have e2 : y.w.heap[w.heap.size + 1 + 1]? = some (.cells #[.int .i32 0, .int .i32 0] 54 (0, 0)) := ie y (by have := pO ((w.alloc (Obj.cells #[Value.int IntKind.i32 xl, Value.int IntKind.i32 xh] 54)).alloc (Obj.cells #[Value.int IntKind.i32 yl, Value.int IntKind.i32 yh] 54)) (Obj.cells #[Value.int IntKind.i32 0, Value.int IntKind.i32 0] 54); rw [World.size_alloc, World.size_alloc] at this; exact this)
 refine ⟨_, rfl, ?_, dx _ (dx _ e1), dx _ (dx _ e2), dx _ (dx _ e1)⟩
 exact acB
theorem dy (x y : Int) (h1 : -2147483648 ≤ x) (h2 : x ≤ 2147483647) : -2147483648 ≤ x.tdiv y ∧ x.tdiv y ≤ 2147483648 := by
 have h : (x.tdiv y).natAbs ≤ x.natAbs := by rw [Int.natAbs_tdiv]; exact Nat.div_le_self _ _
 omega
theorem MH (a b c d : Int) (w : World) : (Instr.index 171 (.agg #[.int .i32 a, .int .i32 b, .int .i32 c, .int .i32 d]) (.int .i64 0)).run Tryz.prog w = .ok (.agg #[.int .i32 a, .int .i32 b]) w := by kernel_rfl
theorem MG (a b c d : Int) (w : World) : (Instr.index 171 (.agg #[.int .i32 a, .int .i32 b, .int .i32 c, .int .i32 d]) (.int .i64 1)).run Tryz.prog w = .ok (.agg #[.int .i32 c, .int .i32 d]) w := by kernel_rfl
theorem H6 (xl xh yl yh : Int) (w : World) (hx1 : -2147483648 ≤ xl) (hx2 : xl ≤ 2147483647) (hx3 : -2147483648 ≤ xh) (hx4 : xh ≤ 2147483647) (hy1 : -2147483648 ≤ yl) (hy2 : yl ≤ 2147483647) (hy3 : -2147483648 ≤ yh) (hy4 : yh ≤ 2147483647) (nh pl : Int) (NH : Hid (min yh (-1) = nh)) (PL : Hid (max yl 1 = pl)) (E0 : Hid ((decide (xl ≤ -2147483648) && decide (-2147483648 ≤ xh)) = false) ∨ Hid ((decide (xl ≤ -2147483648) && decide (-2147483648 ≤ xh)) = true) ∧ Hid ((decide (yl ≤ -1) && decide (-1 ≤ yh)) = false)) (nz : (yl == 0 && yh == 0) = false) (n1 : -2147483648 ≤ nh) (n2 : nh ≤ 2147483647) (n3 : -2147483648 ≤ pl) (n4 : pl ≤ 2147483647) (q1 : yl ≤ nh) (q2 : nh ≤ -1) (q3 : yh < pl) (Ri : Hid (decide (nh < yl) = false)) (Rh : Hid (decide (yh < pl) = true)) :
  Calls Tryz.prog 76 #[.agg #[.int .i32 xl, .int .i32 xh], .agg #[.int .i32 yl, .int .i32 yh]] w fun e w' => e = .returned (.agg #[.int .i32 (aD ([xl.tdiv yl, xl.tdiv nh, xh.tdiv yl, xh.tdiv nh])).1, .int .i32 (aD ([xl.tdiv yl, xl.tdiv nh, xh.tdiv yl, xh.tdiv nh])).2]) ∧ Below w.heap.size w w' := by
 obtain ⟨i0, hi, hz0, hz1, hz2⟩ := info_parts mJ
 have Pc := ix0
 have Pb := ix1
 have VM := MH
 have VK := MG
 have e2 := iO
 have Yd : (yl == 0) = false := by simp; omega
 have Qb := dy xl yl abo abo
 have Qf := dy xh yl abo abo
 have Yg : (nh == 0) = false := by simp; omega
 have Qe := dy xl nh abo abo
 have Qi := dy xh nh abo abo
 go_enter Tryz.func76, Tryz.ntmps76
 go_wp2_with fail
 refine az abp abp ?_
 repeat (go_big_quiet_step ((go_at_call 34; exact Calls.ay (cN _ _))))
 refine wpQuiet_nil ?_
 rintro _ ⟨x1, rfl⟩
 rcases E0 with BX | ⟨BX, BY⟩
 all_goals
  go_wp2_with (first | (go_at_call 104; (first | (with_reducible refine (Calls.ay (cK (cG _ _ _ _) BX.out)).mono ?_) | (with_reducible refine (Calls.ay (cK (cG _ _ _ _) BY.out)).mono ?_)); rintro e _ ⟨rfl, y, rfl⟩))
  obtain ⟨W, hW, D⟩ := sr xl xh yl yh yl (min yh (-1)) (max yl 1) yh w y
  rw [hW]
  clear hW
  have hown : W.ownsRow w.heap.size 2 1 (.slice none 0 0) 0 [] := ⟨rfl, .inl ⟨rfl, rfl⟩⟩
  rw [NH.out, PL.out]
  refine wp_loop_rounds 3 ?_
  rw [rounds_succ]
  go_wp2_with fail
  obtain ⟨WW, q0, hW, hq, I5, xM⟩ := D.part hown (yl) (nh)
  rw [hW, hq]
  clear hW hq D hown
  obtain ⟨c1, c2, c3, c4, s1, s2⟩ := I5.cells
  refine (Calls.ext (cK (af _ _ _) Ri.out)).mono ?_
  rintro e _ ⟨rfl, y, rfl⟩
  obtain ⟨Sd, hW, ET, tR⟩ := I5.ext xM y
  rw [hW]
  clear hW I5 xM
  obtain ⟨c1, c2, c3, c4, s1, s2⟩ := ET.cells
  go_wp2_with fail
  refine wp_loop_rounds 3 ?_
  rw [rounds_succ]
  go_wp2_with fail
  refine wp_loop_rounds 3 ?_
  rw [rounds_succ]
  go_wp2_with (at_builtin; refine wpList_append_own _ rfl (.tmp 65) (.tmp 69) 153 rfl w.heap.size 2 i0 (.int .i64 0) 1 8 Tryz.underlying153 hi hz0 hz1 hz2 rfl abr _ _ _ rfl (tR.alloc _) ⟨World.heap Sd |>.size, 0, none⟩ 1 1 [.int .i64 (xl.tdiv yl)] rfl rfl (cell_one_new _ _ _) abt abv abo (ET.bS _) ?_; intro va0 Qp dw hgrow _)
  have B8 := ET.grown (Nat.le_refl _) tR hgrow
  obtain ⟨c1, c2, c3, c4, s1, s2⟩ := B8.cells
  clear hgrow tR ET
  go_wp2_with fail
  rw [rounds_succ]
  go_wp2_with (at_builtin; refine wpList_append_own _ rfl (.tmp 65) (.tmp 69) 153 rfl w.heap.size 2 i0 (.int .i64 0) 1 8 Tryz.underlying153 hi hz0 hz1 hz2 rfl abr _ _ _ rfl (dw.alloc _) ⟨World.heap Qp |>.size, 0, none⟩ 1 1 [.int .i64 (xl.tdiv nh)] rfl rfl (cell_one_new _ _ _) abt abv abo (B8.bS _) ?_; intro va1 Qo hown1 hgrow _)
  have B6 := B8.grown (Nat.le_refl _) dw hgrow
  obtain ⟨c1, c2, c3, c4, s1, s2⟩ := B6.cells
  clear hgrow dw B8
  go_wp2_with fail
  rw [rounds_succ]
  go_wp2_with fail
  rw [rounds_succ]
  go_wp2_with fail
  refine wp_loop_rounds 3 ?_
  rw [rounds_succ]
  go_wp2_with (at_builtin; refine wpList_append_own _ rfl (.tmp 65) (.tmp 69) 153 rfl w.heap.size 2 i0 (.int .i64 0) 1 8 Tryz.underlying153 hi hz0 hz1 hz2 rfl abr _ _ _ rfl (hown1.alloc _) ⟨World.heap Qo |>.size, 0, none⟩ 1 1 [.int .i64 (xh.tdiv yl)] rfl rfl (cell_one_new _ _ _) abt abv abo (B6.bS _) ?_; intro va2 Qn hown2 hgrow _)
  have B5 := B6.grown (Nat.le_refl _) hown1 hgrow
  obtain ⟨c1, c2, c3, c4, s1, s2⟩ := B5.cells
  clear hgrow hown1 B6
  go_wp2_with fail
  rw [rounds_succ]
  go_wp2_with (at_builtin; refine wpList_append_own _ rfl (.tmp 65) (.tmp 69) 153 rfl w.heap.size 2 i0 (.int .i64 0) 1 8 Tryz.underlying153 hi hz0 hz1 hz2 rfl abr _ _ _ rfl (hown2.alloc _) ⟨World.heap Qn |>.size, 0, none⟩ 1 1 [.int .i64 (xh.tdiv nh)] rfl rfl (cell_one_new _ _ _) abt abv abo (B5.bS _) ?_; intro va3 WX eY hgrow _)
  have Fb := B5.grown (Nat.le_refl _) hown2 hgrow
  obtain ⟨c1, c2, c3, c4, s1, s2⟩ := Fb.cells
  clear hgrow hown2 B5
  go_wp2_with fail
  rw [rounds_succ]
  go_wp2_with fail
  rw [rounds_succ]
  go_wp2_with fail
  rw [rounds_succ]
  go_wp2_with fail
  obtain ⟨WV, q1, hW, hq, I3, xL⟩ := Fb.part eY (pl) (yh)
  rw [hW, hq]
  clear hW hq Fb eY
  obtain ⟨c1, c2, c3, c4, s1, s2⟩ := I3.cells
  refine (Calls.ext (cK (af _ _ _) Rh.out)).mono ?_
  rintro e _ ⟨rfl, y, rfl⟩
  obtain ⟨Sc, hW, BS, tQ⟩ := I3.ext xL y
  rw [hW]
  clear hW I3 xL
  obtain ⟨c1, c2, c3, c4, s1, s2⟩ := BS.cells
  go_wp2_with fail
  rw [rounds_succ]
  go_wp2_with fail
  obtain ⟨g, cap, hv, hg, hc⟩ := fE (l := [xl.tdiv yl, xl.tdiv nh, xh.tdiv yl, xh.tdiv nh]) rfl (by simpa using tQ) aby
  rw [hv]
  obtain ⟨r1, r2, r3, r4, r5⟩ := BS.result
  have kB := BS.below
  clear hv tQ BS
  refine (Calls.ext (iJ g cap [xl.tdiv yl, xl.tdiv nh, xh.tdiv yl, xh.tdiv nh] _ aby aby hg hc)).mono ?_
  rintro e _ ⟨rfl, y5, rfl⟩
  clear hc
  go_wp2
  all_goals
   refine bodyPost_ret (v := .agg #[.int .i32 (aD [xl.tdiv yl, xl.tdiv nh, xh.tdiv yl, xh.tdiv nh]).1, .int .i32 (aD [xl.tdiv yl, xl.tdiv nh, xh.tdiv yl, xh.tdiv nh]).2]) ?hr rfl ⟨rfl, ?aF⟩
   case hr =>
    simp [results, Tryz.results76, go_sem, r1, r2, r5]
   case aF =>
    exact acC
theorem Hz (xl xh yl yh : Int) (w : World) (hx1 : -2147483648 ≤ xl) (hx2 : xl ≤ 2147483647) (hx3 : -2147483648 ≤ xh) (hx4 : xh ≤ 2147483647) (hy1 : -2147483648 ≤ yl) (hy2 : yl ≤ 2147483647) (hy3 : -2147483648 ≤ yh) (hy4 : yh ≤ 2147483647) (nh pl : Int) (NH : Hid (min yh (-1) = nh)) (PL : Hid (max yl 1 = pl)) (E0 : Hid ((decide (xl ≤ -2147483648) && decide (-2147483648 ≤ xh)) = false) ∨ Hid ((decide (xl ≤ -2147483648) && decide (-2147483648 ≤ xh)) = true) ∧ Hid ((decide (yl ≤ -1) && decide (-1 ≤ yh)) = false)) (nz : (yl == 0 && yh == 0) = false) (n1 : -2147483648 ≤ nh) (n2 : nh ≤ 2147483647) (n3 : -2147483648 ≤ pl) (n4 : pl ≤ 2147483647) (q1 : nh < yl) (q2 : 1 ≤ pl) (q3 : pl ≤ yh) (Ri : Hid (decide (nh < yl) = true)) (Rh : Hid (decide (yh < pl) = false)) :
  Calls Tryz.prog 76 #[.agg #[.int .i32 xl, .int .i32 xh], .agg #[.int .i32 yl, .int .i32 yh]] w fun e w' => e = .returned (.agg #[.int .i32 (aD ([xl.tdiv pl, xl.tdiv yh, xh.tdiv pl, xh.tdiv yh])).1, .int .i32 (aD ([xl.tdiv pl, xl.tdiv yh, xh.tdiv pl, xh.tdiv yh])).2]) ∧ Below w.heap.size w w' := by
 obtain ⟨i0, hi, hz0, hz1, hz2⟩ := info_parts mJ
 have Pc := ix0
 have Pb := ix1
 have VM := MH
 have VK := MG
 have e2 := iO
 have Yf : (pl == 0) = false := by simp; omega
 have Qd := dy xl pl abo abo
 have Qh := dy xh pl abo abo
 have Ye : (yh == 0) = false := by simp; omega
 have Qc := dy xl yh abo abo
 have Qg := dy xh yh abo abo
 go_enter Tryz.func76, Tryz.ntmps76
 go_wp2_with fail
 refine az abp abp ?_
 repeat (go_big_quiet_step ((go_at_call 34; exact Calls.ay (cN _ _))))
 refine wpQuiet_nil ?_
 rintro _ ⟨x1, rfl⟩
 rcases E0 with BX | ⟨BX, BY⟩
 all_goals
  go_wp2_with (first | (go_at_call 104; (first | (with_reducible refine (Calls.ay (cK (cG _ _ _ _) BX.out)).mono ?_) | (with_reducible refine (Calls.ay (cK (cG _ _ _ _) BY.out)).mono ?_)); rintro e _ ⟨rfl, y, rfl⟩))
  obtain ⟨W, hW, D⟩ := sr xl xh yl yh yl (min yh (-1)) (max yl 1) yh w y
  rw [hW]
  clear hW
  have hown : W.ownsRow w.heap.size 2 1 (.slice none 0 0) 0 [] := ⟨rfl, .inl ⟨rfl, rfl⟩⟩
  rw [NH.out, PL.out]
  refine wp_loop_rounds 3 ?_
  rw [rounds_succ]
  go_wp2_with fail
  obtain ⟨WW, q0, hW, hq, I5, xM⟩ := D.part hown (yl) (nh)
  rw [hW, hq]
  clear hW hq D hown
  obtain ⟨c1, c2, c3, c4, s1, s2⟩ := I5.cells
  refine (Calls.ext (cK (af _ _ _) Ri.out)).mono ?_
  rintro e _ ⟨rfl, y, rfl⟩
  obtain ⟨Sd, hW, ET, tR⟩ := I5.ext xM y
  rw [hW]
  clear hW I5 xM
  obtain ⟨c1, c2, c3, c4, s1, s2⟩ := ET.cells
  go_wp2_with fail
  rw [rounds_succ]
  go_wp2_with fail
  obtain ⟨WV, q1, hW, hq, I3, xL⟩ := ET.part tR (pl) (yh)
  rw [hW, hq]
  clear hW hq ET tR
  obtain ⟨c1, c2, c3, c4, s1, s2⟩ := I3.cells
  refine (Calls.ext (cK (af _ _ _) Rh.out)).mono ?_
  rintro e _ ⟨rfl, y, rfl⟩
  obtain ⟨Sc, hW, BS, tQ⟩ := I3.ext xL y
  rw [hW]
  clear hW I3 xL
  obtain ⟨c1, c2, c3, c4, s1, s2⟩ := BS.cells
  go_wp2_with fail
  refine wp_loop_rounds 3 ?_
  rw [rounds_succ]
  go_wp2_with fail
  refine wp_loop_rounds 3 ?_
  rw [rounds_succ]
  go_wp2_with (at_builtin; refine wpList_append_own _ rfl (.tmp 65) (.tmp 69) 153 rfl w.heap.size 2 i0 (.int .i64 0) 1 8 Tryz.underlying153 hi hz0 hz1 hz2 rfl abr _ _ _ rfl (tQ.alloc _) ⟨World.heap Sc |>.size, 0, none⟩ 1 1 [.int .i64 (xl.tdiv pl)] rfl rfl (cell_one_new _ _ _) abt abv abo (BS.bS _) ?_; intro va0 Qp dw hgrow _)
  have B8 := BS.grown (Nat.le_refl _) tQ hgrow
  obtain ⟨c1, c2, c3, c4, s1, s2⟩ := B8.cells
  clear hgrow tQ BS
  go_wp2_with fail
  rw [rounds_succ]
  go_wp2_with (at_builtin; refine wpList_append_own _ rfl (.tmp 65) (.tmp 69) 153 rfl w.heap.size 2 i0 (.int .i64 0) 1 8 Tryz.underlying153 hi hz0 hz1 hz2 rfl abr _ _ _ rfl (dw.alloc _) ⟨World.heap Qp |>.size, 0, none⟩ 1 1 [.int .i64 (xl.tdiv yh)] rfl rfl (cell_one_new _ _ _) abt abv abo (B8.bS _) ?_; intro va1 Qo hown1 hgrow _)
  have B6 := B8.grown (Nat.le_refl _) dw hgrow
  obtain ⟨c1, c2, c3, c4, s1, s2⟩ := B6.cells
  clear hgrow dw B8
  go_wp2_with fail
  rw [rounds_succ]
  go_wp2_with fail
  rw [rounds_succ]
  go_wp2_with fail
  refine wp_loop_rounds 3 ?_
  rw [rounds_succ]
  go_wp2_with (at_builtin; refine wpList_append_own _ rfl (.tmp 65) (.tmp 69) 153 rfl w.heap.size 2 i0 (.int .i64 0) 1 8 Tryz.underlying153 hi hz0 hz1 hz2 rfl abr _ _ _ rfl (hown1.alloc _) ⟨World.heap Qo |>.size, 0, none⟩ 1 1 [.int .i64 (xh.tdiv pl)] rfl rfl (cell_one_new _ _ _) abt abv abo (B6.bS _) ?_; intro va2 Qn hown2 hgrow _)
  have B5 := B6.grown (Nat.le_refl _) hown1 hgrow
  obtain ⟨c1, c2, c3, c4, s1, s2⟩ := B5.cells
  clear hgrow hown1 B6
  go_wp2_with fail
  rw [rounds_succ]
  go_wp2_with (at_builtin; refine wpList_append_own _ rfl (.tmp 65) (.tmp 69) 153 rfl w.heap.size 2 i0 (.int .i64 0) 1 8 Tryz.underlying153 hi hz0 hz1 hz2 rfl abr _ _ _ rfl (hown2.alloc _) ⟨World.heap Qn |>.size, 0, none⟩ 1 1 [.int .i64 (xh.tdiv yh)] rfl rfl (cell_one_new _ _ _) abt abv abo (B5.bS _) ?_; intro va3 WX eY hgrow _)
  have Fb := B5.grown (Nat.le_refl _) hown2 hgrow
  obtain ⟨c1, c2, c3, c4, s1, s2⟩ := Fb.cells
  clear hgrow hown2 B5
  go_wp2_with fail
  rw [rounds_succ]
  go_wp2_with fail
  rw [rounds_succ]
  go_wp2_with fail
  rw [rounds_succ]
  go_wp2_with fail
  obtain ⟨g, cap, hv, hg, hc⟩ := fE (l := [xl.tdiv pl, xl.tdiv yh, xh.tdiv pl, xh.tdiv yh]) rfl (by simpa using eY) aby
  rw [hv]
  obtain ⟨r1, r2, r3, r4, r5⟩ := Fb.result
  have kB := Fb.below
  clear hv eY Fb
  refine (Calls.ext (iJ g cap [xl.tdiv pl, xl.tdiv yh, xh.tdiv pl, xh.tdiv yh] _ aby aby hg hc)).mono ?_
  rintro e _ ⟨rfl, y5, rfl⟩
  clear hc
  go_wp2
  all_goals
   refine bodyPost_ret (v := .agg #[.int .i32 (aD [xl.tdiv pl, xl.tdiv yh, xh.tdiv pl, xh.tdiv yh]).1, .int .i32 (aD [xl.tdiv pl, xl.tdiv yh, xh.tdiv pl, xh.tdiv yh]).2]) ?hr rfl ⟨rfl, ?aF⟩
   case hr =>
    simp [results, Tryz.results76, go_sem, r1, r2, r5]
   case aF =>
    exact acC
theorem Eh (xl xh yl yh : Int) (w : World) (hx1 : -2147483648 ≤ xl) (hx2 : xl ≤ 2147483647) (hx3 : -2147483648 ≤ xh) (hx4 : xh ≤ 2147483647) (hy1 : -2147483648 ≤ yl) (hy2 : yl ≤ 2147483647) (hy3 : -2147483648 ≤ yh) (hy4 : yh ≤ 2147483647) (nh pl : Int) (NH : Hid (min yh (-1) = nh)) (PL : Hid (max yl 1 = pl)) (E0 : Hid ((decide (xl ≤ -2147483648) && decide (-2147483648 ≤ xh)) = false) ∨ Hid ((decide (xl ≤ -2147483648) && decide (-2147483648 ≤ xh)) = true) ∧ Hid ((decide (yl ≤ -1) && decide (-1 ≤ yh)) = false)) (nz : (yl == 0 && yh == 0) = false) (n1 : -2147483648 ≤ nh) (n2 : nh ≤ 2147483647) (n3 : -2147483648 ≤ pl) (n4 : pl ≤ 2147483647) (q1 : yl ≤ nh) (q2 : nh ≤ -1) (q3 : 1 ≤ pl) (q4 : pl ≤ yh) (Ri : Hid (decide (nh < yl) = false)) (Rh : Hid (decide (yh < pl) = false)) :
  Calls Tryz.prog 76 #[.agg #[.int .i32 xl, .int .i32 xh], .agg #[.int .i32 yl, .int .i32 yh]] w fun e w' => e = .returned (.agg #[.int .i32 (aD ([xl.tdiv yl, xl.tdiv nh, xh.tdiv yl, xh.tdiv nh, xl.tdiv pl, xl.tdiv yh, xh.tdiv pl, xh.tdiv yh])).1, .int .i32 (aD ([xl.tdiv yl, xl.tdiv nh, xh.tdiv yl, xh.tdiv nh, xl.tdiv pl, xl.tdiv yh, xh.tdiv pl, xh.tdiv yh])).2]) ∧ Below w.heap.size w w' := by
 obtain ⟨i0, hi, hz0, hz1, hz2⟩ := info_parts mJ
 have Pc := ix0
 have Pb := ix1
 have VM := MH
 have VK := MG
 have e2 := iO
 have Yd : (yl == 0) = false := by simp; omega
 have Qb := dy xl yl abo abo
 have Qf := dy xh yl abo abo
 have Yg : (nh == 0) = false := by simp; omega
 have Qe := dy xl nh abo abo
 have Qi := dy xh nh abo abo
 have Yf : (pl == 0) = false := by simp; omega
 have Qd := dy xl pl abo abo
 have Qh := dy xh pl abo abo
 have Ye : (yh == 0) = false := by simp; omega
 have Qc := dy xl yh abo abo
 have Qg := dy xh yh abo abo
 go_enter Tryz.func76, Tryz.ntmps76
 go_wp2_with fail
 refine az abp abp ?_
 repeat (go_big_quiet_step ((go_at_call 34; exact Calls.ay (cN _ _))))
 refine wpQuiet_nil ?_
 rintro _ ⟨x1, rfl⟩
 rcases E0 with BX | ⟨BX, BY⟩
 all_goals
  go_wp2_with (first | (go_at_call 104; (first | (with_reducible refine (Calls.ay (cK (cG _ _ _ _) BX.out)).mono ?_) | (with_reducible refine (Calls.ay (cK (cG _ _ _ _) BY.out)).mono ?_)); rintro e _ ⟨rfl, y, rfl⟩))
  obtain ⟨W, hW, D⟩ := sr xl xh yl yh yl (min yh (-1)) (max yl 1) yh w y
  rw [hW]
  clear hW
  have hown : W.ownsRow w.heap.size 2 1 (.slice none 0 0) 0 [] := ⟨rfl, .inl ⟨rfl, rfl⟩⟩
  rw [NH.out, PL.out]
  refine wp_loop_rounds 3 ?_
  rw [rounds_succ]
  go_wp2_with fail
  obtain ⟨WW, q0, hW, hq, I5, xM⟩ := D.part hown (yl) (nh)
  rw [hW, hq]
  clear hW hq D hown
  obtain ⟨c1, c2, c3, c4, s1, s2⟩ := I5.cells
  refine (Calls.ext (cK (af _ _ _) Ri.out)).mono ?_
  rintro e _ ⟨rfl, y, rfl⟩
  obtain ⟨Sd, hW, ET, tR⟩ := I5.ext xM y
  rw [hW]
  clear hW I5 xM
  obtain ⟨c1, c2, c3, c4, s1, s2⟩ := ET.cells
  go_wp2_with fail
  refine wp_loop_rounds 3 ?_
  rw [rounds_succ]
  go_wp2_with fail
  refine wp_loop_rounds 3 ?_
  rw [rounds_succ]
  go_wp2_with (at_builtin; refine wpList_append_own _ rfl (.tmp 65) (.tmp 69) 153 rfl w.heap.size 2 i0 (.int .i64 0) 1 8 Tryz.underlying153 hi hz0 hz1 hz2 rfl abr _ _ _ rfl (tR.alloc _) ⟨World.heap Sd |>.size, 0, none⟩ 1 1 [.int .i64 (xl.tdiv yl)] rfl rfl (cell_one_new _ _ _) abt abv abo (ET.bS _) ?_; intro va0 Qp dw hgrow _)
  have B8 := ET.grown (Nat.le_refl _) tR hgrow
  obtain ⟨c1, c2, c3, c4, s1, s2⟩ := B8.cells
  clear hgrow tR ET
  go_wp2_with fail
  rw [rounds_succ]
  go_wp2_with (at_builtin; refine wpList_append_own _ rfl (.tmp 65) (.tmp 69) 153 rfl w.heap.size 2 i0 (.int .i64 0) 1 8 Tryz.underlying153 hi hz0 hz1 hz2 rfl abr _ _ _ rfl (dw.alloc _) ⟨World.heap Qp |>.size, 0, none⟩ 1 1 [.int .i64 (xl.tdiv nh)] rfl rfl (cell_one_new _ _ _) abt abv abo (B8.bS _) ?_; intro va1 Qo hown1 hgrow _)
  have B6 := B8.grown (Nat.le_refl _) dw hgrow
  obtain ⟨c1, c2, c3, c4, s1, s2⟩ := B6.cells
  clear hgrow dw B8
  go_wp2_with fail
  rw [rounds_succ]
  go_wp2_with fail
  rw [rounds_succ]
  go_wp2_with fail
  refine wp_loop_rounds 3 ?_
  rw [rounds_succ]
  go_wp2_with (at_builtin; refine wpList_append_own _ rfl (.tmp 65) (.tmp 69) 153 rfl w.heap.size 2 i0 (.int .i64 0) 1 8 Tryz.underlying153 hi hz0 hz1 hz2 rfl abr _ _ _ rfl (hown1.alloc _) ⟨World.heap Qo |>.size, 0, none⟩ 1 1 [.int .i64 (xh.tdiv yl)] rfl rfl (cell_one_new _ _ _) abt abv abo (B6.bS _) ?_; intro va2 Qn hown2 hgrow _)
  have B5 := B6.grown (Nat.le_refl _) hown1 hgrow
  obtain ⟨c1, c2, c3, c4, s1, s2⟩ := B5.cells
  clear hgrow hown1 B6
  go_wp2_with fail
  rw [rounds_succ]
  go_wp2_with (at_builtin; refine wpList_append_own _ rfl (.tmp 65) (.tmp 69) 153 rfl w.heap.size 2 i0 (.int .i64 0) 1 8 Tryz.underlying153 hi hz0 hz1 hz2 rfl abr _ _ _ rfl (hown2.alloc _) ⟨World.heap Qn |>.size, 0, none⟩ 1 1 [.int .i64 (xh.tdiv nh)] rfl rfl (cell_one_new _ _ _) abt abv abo (B5.bS _) ?_; intro va3 WX eY hgrow _)
  have Fb := B5.grown (Nat.le_refl _) hown2 hgrow
  obtain ⟨c1, c2, c3, c4, s1, s2⟩ := Fb.cells
  clear hgrow hown2 B5
  go_wp2_with fail
  rw [rounds_succ]
  go_wp2_with fail
  rw [rounds_succ]
  go_wp2_with fail
  rw [rounds_succ]
  go_wp2_with fail
  obtain ⟨WV, q1, hW, hq, I3, xL⟩ := Fb.part eY (pl) (yh)
  rw [hW, hq]
  clear hW hq Fb eY
  obtain ⟨c1, c2, c3, c4, s1, s2⟩ := I3.cells
  refine (Calls.ext (cK (af _ _ _) Rh.out)).mono ?_
  rintro e _ ⟨rfl, y, rfl⟩
  obtain ⟨Sc, hW, BS, tQ⟩ := I3.ext xL y
  rw [hW]
  clear hW I3 xL
  obtain ⟨c1, c2, c3, c4, s1, s2⟩ := BS.cells
  go_wp2_with fail
  refine wp_loop_rounds 3 ?_
  rw [rounds_succ]
  go_wp2_with fail
  refine wp_loop_rounds 3 ?_
  rw [rounds_succ]
  go_wp2_with (at_builtin; refine wpList_append_own _ rfl (.tmp 65) (.tmp 69) 153 rfl w.heap.size 2 i0 (.int .i64 0) 1 8 Tryz.underlying153 hi hz0 hz1 hz2 rfl abr _ _ _ rfl (tQ.alloc _) ⟨World.heap Sc |>.size, 0, none⟩ 1 1 [.int .i64 (xl.tdiv pl)] rfl rfl (cell_one_new _ _ _) abt abv abo (BS.bS _) ?_; intro va4 ZE ja hgrow _)
  have S3 := BS.grown (Nat.le_refl _) tQ hgrow
  obtain ⟨c1, c2, c3, c4, s1, s2⟩ := S3.cells
  clear hgrow tQ BS
  go_wp2_with fail
  rw [rounds_succ]
  go_wp2_with (at_builtin; refine wpList_append_own _ rfl (.tmp 65) (.tmp 69) 153 rfl w.heap.size 2 i0 (.int .i64 0) 1 8 Tryz.underlying153 hi hz0 hz1 hz2 rfl abr _ _ _ rfl (ja.alloc _) ⟨World.heap ZE |>.size, 0, none⟩ 1 1 [.int .i64 (xl.tdiv yh)] rfl rfl (cell_one_new _ _ _) abt abv abo (S3.bS _) ?_; intro va5 ZC G7 hgrow _)
  have S2 := S3.grown (Nat.le_refl _) ja hgrow
  obtain ⟨c1, c2, c3, c4, s1, s2⟩ := S2.cells
  clear hgrow ja S3
  go_wp2_with fail
  rw [rounds_succ]
  go_wp2_with fail
  rw [rounds_succ]
  go_wp2_with fail
  refine wp_loop_rounds 3 ?_
  rw [rounds_succ]
  go_wp2_with (at_builtin; refine wpList_append_own _ rfl (.tmp 65) (.tmp 69) 153 rfl w.heap.size 2 i0 (.int .i64 0) 1 8 Tryz.underlying153 hi hz0 hz1 hz2 rfl abr _ _ _ rfl (G7.alloc _) ⟨World.heap ZC |>.size, 0, none⟩ 1 1 [.int .i64 (xh.tdiv pl)] rfl rfl (cell_one_new _ _ _) abt abv abo (S2.bS _) ?_; intro va6 ZB G6 hgrow _)
  have S1 := S2.grown (Nat.le_refl _) G7 hgrow
  obtain ⟨c1, c2, c3, c4, s1, s2⟩ := S1.cells
  clear hgrow G7 S2
  go_wp2_with fail
  rw [rounds_succ]
  go_wp2_with (at_builtin; refine wpList_append_own _ rfl (.tmp 65) (.tmp 69) 153 rfl w.heap.size 2 i0 (.int .i64 0) 1 8 Tryz.underlying153 hi hz0 hz1 hz2 rfl abr _ _ _ rfl (G6.alloc _) ⟨World.heap ZB |>.size, 0, none⟩ 1 1 [.int .i64 (xh.tdiv yh)] rfl rfl (cell_one_new _ _ _) abt abv abo (S1.bS _) ?_; intro va7 Wa7 LC hgrow _)
  have SZ := S1.grown (Nat.le_refl _) G6 hgrow
  obtain ⟨c1, c2, c3, c4, s1, s2⟩ := SZ.cells
  clear hgrow G6 S1
  go_wp2_with fail
  rw [rounds_succ]
  go_wp2_with fail
  rw [rounds_succ]
  go_wp2_with fail
  rw [rounds_succ]
  go_wp2_with fail
  obtain ⟨g, cap, hv, hg, hc⟩ := fE (l := [xl.tdiv yl, xl.tdiv nh, xh.tdiv yl, xh.tdiv nh, xl.tdiv pl, xl.tdiv yh, xh.tdiv pl, xh.tdiv yh]) rfl (by simpa using LC) aby
  rw [hv]
  obtain ⟨r1, r2, r3, r4, r5⟩ := SZ.result
  have kB := SZ.below
  clear hv LC SZ
  refine (Calls.ext (iJ g cap [xl.tdiv yl, xl.tdiv nh, xh.tdiv yl, xh.tdiv nh, xl.tdiv pl, xl.tdiv yh, xh.tdiv pl, xh.tdiv yh] _ aby aby hg hc)).mono ?_
  rintro e _ ⟨rfl, y5, rfl⟩
  clear hc
  go_wp2
  all_goals
   refine bodyPost_ret (v := .agg #[.int .i32 (aD [xl.tdiv yl, xl.tdiv nh, xh.tdiv yl, xh.tdiv nh, xl.tdiv pl, xl.tdiv yh, xh.tdiv pl, xh.tdiv yh]).1, .int .i32 (aD [xl.tdiv yl, xl.tdiv nh, xh.tdiv yl, xh.tdiv nh, xl.tdiv pl, xl.tdiv yh, xh.tdiv pl, xh.tdiv yh]).2]) ?hr rfl ⟨rfl, ?aF⟩
   case hr =>
    simp [results, Tryz.results76, go_sem, r1, r2, r5]
   case aF =>
    exact acC
theorem x8 (xl xh yl yh : Int) (w : World) (nz : (yl == 0 && yh == 0) = true) (BX : True) (BY : True) :
  Calls Tryz.prog 76 #[.agg #[.int .i32 xl, .int .i32 xh], .agg #[.int .i32 yl, .int .i32 yh]] w fun e w' => e = .returned (.agg #[.int .i32 (1), .int .i32 (0)]) ∧ Below w.heap.size w w' := by
 have e2 := iO
 go_enter Tryz.func76, Tryz.ntmps76
 go_wp2_with fail
 refine az abp abp ?_
 repeat (go_big_quiet_step ((go_at_call 34; exact Calls.ay (cN _ _))))
 refine wpQuiet_nil ?_
 rintro _ ⟨x1, rfl⟩
 go_wp2_with (first | (go_at_call 49; ((first | (with_reducible refine (Calls.ay (aB _)).mono ?_) | (refine (Calls.ext (aB _)).mono ?_)); rintro e _ ⟨rfl, y, rfl⟩)) | (go_at_call 37; ((first | (with_reducible refine (Calls.ay (bK _)).mono ?_) | (refine (Calls.ext (bK _)).mono ?_)); rintro e _ ⟨rfl, y, rfl⟩)) | (go_at_call 104; (first | (with_reducible refine (Calls.ay (cK (cG _ _ _ _) BX.out)).mono ?_) | (with_reducible refine (Calls.ay (cK (cG _ _ _ _) BY.out)).mono ?_)); rintro e _ ⟨rfl, y, rfl⟩))
 all_goals
  refine bodyPost_ret (v := .agg #[.int .i32 (1), .int .i32 (0)]) ?hr rfl ⟨rfl, ?aF⟩
  case hr =>
   simp [results, Tryz.results76, go_sem]
  case aF =>
   exact acB
theorem x9 (xl xh yl yh : Int) (w : World) (nz : (yl == 0 && yh == 0) = false) (BX : Hid ((decide (xl ≤ -2147483648) && decide (-2147483648 ≤ xh)) = true)) (BY : Hid ((decide (yl ≤ -1) && decide (-1 ≤ yh)) = true)) :
  Calls Tryz.prog 76 #[.agg #[.int .i32 xl, .int .i32 xh], .agg #[.int .i32 yl, .int .i32 yh]] w fun e w' => e = .returned (.agg #[.int .i32 (-2147483648), .int .i32 (2147483647)]) ∧ Below w.heap.size w w' := by
 have e2 := iO
 go_enter Tryz.func76, Tryz.ntmps76
 go_wp2_with fail
 refine az abp abp ?_
 repeat (go_big_quiet_step ((go_at_call 34; exact Calls.ay (cN _ _))))
 refine wpQuiet_nil ?_
 rintro _ ⟨x1, rfl⟩
 go_wp2_with (first | (go_at_call 49; ((first | (with_reducible refine (Calls.ay (aB _)).mono ?_) | (refine (Calls.ext (aB _)).mono ?_)); rintro e _ ⟨rfl, y, rfl⟩)) | (go_at_call 37; ((first | (with_reducible refine (Calls.ay (bK _)).mono ?_) | (refine (Calls.ext (bK _)).mono ?_)); rintro e _ ⟨rfl, y, rfl⟩)) | (go_at_call 104; (first | (with_reducible refine (Calls.ay (cK (cG _ _ _ _) BX.out)).mono ?_) | (with_reducible refine (Calls.ay (cK (cG _ _ _ _) BY.out)).mono ?_)); rintro e _ ⟨rfl, y, rfl⟩))
 all_goals
  refine bodyPost_ret (v := .agg #[.int .i32 (-2147483648), .int .i32 (2147483647)]) ?hr rfl ⟨rfl, ?aF⟩
  case hr =>
   simp [results, Tryz.results76, go_sem]
  case aF =>
   exact acB
theorem Ao (xl xh yl yh : Int) (w : World) (hx1 : -2147483648 ≤ xl) (hx2 : xl ≤ 2147483647) (hx3 : -2147483648 ≤ xh) (hx4 : xh ≤ 2147483647) (hy1 : -2147483648 ≤ yl) (hy2 : yl ≤ 2147483647) (hy3 : -2147483648 ≤ yh) (hy4 : yh ≤ 2147483647) (he : xl ≤ xh) (he' : yl ≤ yh) :
  Calls Tryz.prog 76 #[.agg #[.int .i32 xl, .int .i32 xh], .agg #[.int .i32 yl, .int .i32 yh]] w fun e w' => e = .returned (.agg #[.int .i32 (kF (xl, xh) (yl, yh)).1, .int .i32 (kF (xl, xh) (yl, yh)).2]) ∧ Below w.heap.size w w' := by
 by_cases z : yl = 0 ∧ yh = 0
 ·refine (x8 xl xh yl yh w (by simpa using z) trivial trivial).mono fun e' w' ⟨q, hb⟩ => ⟨q.trans ?_, hb⟩
  rw [kF, if_pos z]
 ·have nz : (yl == 0 && yh == 0) = false := by simpa using z
  have Yu : yl < 0 ∨ 0 < yh := by omega
  by_cases b : (xl ≤ -2147483648 ∧ -2147483648 ≤ xh) ∧ (yl ≤ -1 ∧ -1 ≤ yh)
  ·refine (x9 xl xh yl yh w nz (acD (by simpa using b.1)) (acD (by simpa using b.2))).mono fun e' w' ⟨q, hb⟩ => ⟨q.trans ?_, hb⟩
   rw [kF, if_neg z, if_pos b]
  ·have ev : kF (xl, xh) (yl, yh) = aD (su (xl, xh) (yl, yh)) := by rw [kF, if_neg z, if_neg b]
   rw [ev]
   have E0 : Hid ((decide (xl ≤ -2147483648) && decide (-2147483648 ≤ xh)) = false) ∨ Hid ((decide (xl ≤ -2147483648) && decide (-2147483648 ≤ xh)) = true) ∧ Hid ((decide (yl ≤ -1) && decide (-1 ≤ yh)) = false) := by
    by_cases bx : xl ≤ -2147483648 ∧ -2147483648 ≤ xh
    ·have Zy : ¬ (yl ≤ -1 ∧ -1 ≤ yh) := fun h => b ⟨bx, h⟩
     exact .inr ⟨acD (by simpa using bx), acD (by simpa using Zy)⟩
    ·exact .inl (acD (by simpa using bx))
   by_cases c1 : yl < 0
   ·by_cases c2 : 0 < yh
    ·refine (Eh xl xh yl yh w hx1 hx2 hx3 hx4 hy1 hy2 hy3 hy4 (min yh (-1)) (max yl 1) (acD rfl) (acD rfl) E0 nz abo abo abo abo abo abo abo abo (acD abH) (acD abH)).mono fun e' w' ⟨q, hb⟩ => ⟨q.trans (jw (congrArg aD ?_)), hb⟩
     simp [su, divC, c1, c2]
    ·refine (H6 xl xh yl yh w hx1 hx2 hx3 hx4 hy1 hy2 hy3 hy4 (min yh (-1)) (max yl 1) (acD rfl) (acD rfl) E0 nz abo abo abo abo abo abo abo (acD abH) (acD abH)).mono fun e' w' ⟨q, hb⟩ => ⟨q.trans (jw (congrArg aD ?_)), hb⟩
     simp [su, divC, c1, c2]
   ·have c2 : 0 < yh := by omega
    refine (Hz xl xh yl yh w hx1 hx2 hx3 hx4 hy1 hy2 hy3 hy4 (min yh (-1)) (max yl 1) (acD rfl) (acD rfl) E0 nz abo abo abo abo abo abo abo (acD abH) (acD abH)).mono fun e' w' ⟨q, hb⟩ => ⟨q.trans (jw (congrArg aD ?_)), hb⟩
    simp [su, divC, c1, c2]
def fq (op : Int) (x y : Int × Int) : Int × Int :=
 if op = 6 then aD [x.1 + y.1, x.1 + y.2, x.2 + y.1, x.2 + y.2] else if op = 7 then aD [x.1 - y.1, x.1 - y.2, x.2 - y.1, x.2 - y.2]
 else if op = 8 then aD [x.1 * y.1, x.1 * y.2, x.2 * y.1, x.2 * y.2] else if op = 9 then kF x y else if op = 10 then eV x y
 else if op ≤ 13 then kG op x y else if op ≤ 15 then tE op x y else if op ≤ 21 then sF op x y else vP op x y
theorem Ey (op xl xh yl yh : Int) (w : World) (hx1 : -2147483648 ≤ xl) (hx2 : xl ≤ 2147483647) (hx3 : -2147483648 ≤ xh) (hx4 : xh ≤ 2147483647) (hy1 : -2147483648 ≤ yl) (hy2 : yl ≤ 2147483647) (hy3 : -2147483648 ≤ yh) (hy4 : yh ≤ 2147483647) (hop : op = 9 ∨ (11 ≤ op ∧ op ≤ 23)) (gY : xl ≤ xh) (gL : yl ≤ yh) (hs : ¬ (xl = xh ∧ yl = yh)) :
  Calls Tryz.prog 35 #[.int .u8 op, .agg #[.int .i32 xl, .int .i32 xh], .agg #[.int .i32 yl, .int .i32 yh]] w fun e w' => e = .returned (.agg #[.int .i32 (fq op (xl, xh) (yl, yh)).1, .int .i32 (fq op (xl, xh) (yl, yh)).2]) ∧ Below w.heap.size w w' := by
 obtain ⟨g1, hg1⟩ : ∃ g, (fq op (xl, xh) (yl, yh)).1 = g := ⟨_, rfl⟩
 obtain ⟨g2, hg2⟩ : ∃ g, (fq op (xl, xh) (yl, yh)).2 = g := ⟨_, rfl⟩
 have HD := acD (fun (h : op = 9) (W : World) => show Calls Tryz.prog 76 #[.agg #[.int .i32 xl, .int .i32 xh], .agg #[.int .i32 yl, .int .i32 yh]] W fun e w' => e = .returned (.agg #[.int .i32 g1, .int .i32 g2]) ∧ Below W.heap.size W w' by
  have hc := Ao xl xh yl yh W hx1 hx2 hx3 hx4 hy1 hy2 hy3 hy4 gY gL
  rw [show kF (xl, xh) (yl, yh) = fq op (xl, xh) (yl, yh) by unfold fq; rw [if_neg abo, if_neg abo, if_neg abo, if_pos h], hg1, hg2] at hc
  exact hc)
 have HB := acD (fun (h : 11 ≤ op ∧ op ≤ 13) (W : World) => show Calls Tryz.prog 78 #[.int .u8 op, .agg #[.int .i32 xl, .int .i32 xh], .agg #[.int .i32 yl, .int .i32 yh]] W fun e w' => e = .returned (.agg #[.int .i32 g1, .int .i32 g2]) ∧ Below W.heap.size W w' by
  have hc := yq op xl xh yl yh W hx3 hx4 hy3 hy4 h.1 h.2 gY gL
  rw [show kG op (xl, xh) (yl, yh) = fq op (xl, xh) (yl, yh) by unfold fq; rw [if_neg abo, if_neg abo, if_neg abo, if_neg abo, if_neg abo, if_pos abo], hg1, hg2] at hc
  exact hc)
 have HS := acD (fun (h : 14 ≤ op ∧ op ≤ 15) (W : World) => show Calls Tryz.prog 79 #[.int .u8 op, .agg #[.int .i32 xl, .int .i32 xh], .agg #[.int .i32 yl, .int .i32 yh]] W fun e w' => e = .returned (.agg #[.int .i32 g1, .int .i32 g2]) ∧ Below W.heap.size W w' by
  have hc := Cy op xl xh yl yh W hx1 hx2 hx3 hx4 hy1 hy2 h.1 h.2
  rw [show tE op (xl, xh) (yl, yh) = fq op (xl, xh) (yl, yh) by unfold fq; rw [if_neg abo, if_neg abo, if_neg abo, if_neg abo, if_neg abo, if_neg abo, if_pos abo], hg1, hg2] at hc
  exact hc)
 have HC := acD (fun (h : 16 ≤ op ∧ op ≤ 21) (W : World) => show Calls Tryz.prog 81 #[.int .u8 op, .agg #[.int .i32 xl, .int .i32 xh], .agg #[.int .i32 yl, .int .i32 yh]] W fun e w' => e = .returned (.agg #[.int .i32 g1, .int .i32 g2]) ∧ Below W.heap.size W w' by
  have hc := yg op xl xh yl yh W h.1 h.2
  rw [show sF op (xl, xh) (yl, yh) = fq op (xl, xh) (yl, yh) by unfold fq; rw [if_neg abo, if_neg abo, if_neg abo, if_neg abo, if_neg abo, if_neg abo, if_neg abo, if_pos abo], hg1, hg2] at hc
  exact hc)
 have HL := acD (fun (h : 22 ≤ op ∧ op ≤ 23) (W : World) => show Calls Tryz.prog 80 #[.int .u8 op, .agg #[.int .i32 xl, .int .i32 xh], .agg #[.int .i32 yl, .int .i32 yh]] W fun e w' => e = .returned (.agg #[.int .i32 g1, .int .i32 g2]) ∧ Below W.heap.size W w' by
  have hc := Dv op xl xh yl yh W h.1 h.2
  rw [show vP op (xl, xh) (yl, yh) = fq op (xl, xh) (yl, yh) by unfold fq; rw [if_neg abo, if_neg abo, if_neg abo, if_neg abo, if_neg abo, if_neg abo, if_neg abo, if_neg abo], hg1, hg2] at hc
  exact hc)
 have HG1 := acD hg1
 have IV := acD hg2
 have d1 : decide (xh < xl) = false := by simp; omega
 have d2 : decide (yh < yl) = false := by simp; omega
 have hq : (xl == xh) = false ∨ ((xl == xh) = true ∧ (yl == yh) = false) := by simp; omega
 have h13 : op = 9 ∨ op = 11 ∨ op = 12 ∨ op = 13 ∨ op = 14 ∨ op = 15 ∨ op = 16 ∨ op = 17 ∨ op = 18 ∨ op = 19 ∨ op = 20 ∨ op = 21 ∨ op = 22 ∨ op = 23 := by omega
 clear hg1 hg2 gY gL hs hop
 rcases h13 with rfl | rfl | rfl | rfl | rfl | rfl | rfl | rfl | rfl | rfl | rfl | rfl | rfl | rfl <;> rcases hq with hq | ⟨hq, hq2⟩
 all_goals
  go_enter Tryz.func35, Tryz.ntmps35
  go_wp2_with (first | (go_at_call 39; ((first | (with_reducible refine (Calls.ay (af _ _ _)).mono ?_) | (refine (Calls.ext (af _ _ _)).mono ?_)); rintro e _ ⟨rfl, y, rfl⟩)) | (go_at_call 73; ((first | (with_reducible refine (Calls.ay (aK _ _ _)).mono ?_) | (refine (Calls.ext (aK _ _ _)).mono ?_)); rintro e _ ⟨rfl, y, rfl⟩)) | (go_at_call 76; ((first | (with_reducible refine (Calls.ay (HD.out abr _)).mono ?_) | (refine (Calls.ext (HD.out abr _)).mono ?_)); rintro e _ ⟨rfl, y, rfl⟩)) | (go_at_call 78; ((first | (with_reducible refine (Calls.ay (HB.out abr _)).mono ?_) | (refine (Calls.ext (HB.out abr _)).mono ?_)); rintro e _ ⟨rfl, y, rfl⟩)) | (go_at_call 79; ((first | (with_reducible refine (Calls.ay (HS.out abr _)).mono ?_) | (refine (Calls.ext (HS.out abr _)).mono ?_)); rintro e _ ⟨rfl, y, rfl⟩)) | (go_at_call 81; ((first | (with_reducible refine (Calls.ay (HC.out abr _)).mono ?_) | (refine (Calls.ext (HC.out abr _)).mono ?_)); rintro e _ ⟨rfl, y, rfl⟩)) | (go_at_call 80; ((first | (with_reducible refine (Calls.ay (HL.out abr _)).mono ?_) | (refine (Calls.ext (HL.out abr _)).mono ?_)); rintro e _ ⟨rfl, y, rfl⟩)))
  all_goals
   refine bodyPost_ret (v := .agg #[.int .i32 g1, .int .i32 g2]) ?hr rfl ⟨by rw [HG1.out, IV.out], ?aF⟩
   case hr =>
    simp [results, Tryz.results35, go_sem]
   case aF =>
    exact acB
theorem vY (op xl xh yl yh : Int) (w : World) (h : op < 6) :
  Calls Tryz.prog 35 #[.int .u8 op, .agg #[.int .i32 xl, .int .i32 xh], .agg #[.int .i32 yl, .int .i32 yh]] w fun e w' => e = .returned (.agg #[.int .i32 (-2147483648), .int .i32 2147483647]) ∧ Below w.heap.size w w' := by
 have d1 : decide (op < 6) = true := by simpa using h
 go_enter Tryz.func35, Tryz.ntmps35
 go_wp2_with (first | (go_at_call 37; ((first | (with_reducible refine (Calls.ay (bK _)).mono ?_) | (refine (Calls.ext (bK _)).mono ?_)); rintro e _ ⟨rfl, y, rfl⟩)))
 all_goals
  refine bodyPost_ret (v := .agg #[.int .i32 (-2147483648), .int .i32 2147483647]) ?hr rfl ⟨rfl, ?aF⟩
  case hr =>
   simp [results, Tryz.results35, go_sem]
  case aF =>
   exact acB
theorem vZ (op xl xh yl yh : Int) (w : World) (h : 23 < op) :
  Calls Tryz.prog 35 #[.int .u8 op, .agg #[.int .i32 xl, .int .i32 xh], .agg #[.int .i32 yl, .int .i32 yh]] w fun e w' => e = .returned (.agg #[.int .i32 (-2147483648), .int .i32 2147483647]) ∧ Below w.heap.size w w' := by
 have d1 : decide (op < 6) = false := by simp; omega
 have d2 : decide (23 < op) = true := by simpa using h
 go_enter Tryz.func35, Tryz.ntmps35
 go_wp2_with (first | (go_at_call 37; ((first | (with_reducible refine (Calls.ay (bK _)).mono ?_) | (refine (Calls.ext (bK _)).mono ?_)); rintro e _ ⟨rfl, y, rfl⟩)))
 all_goals
  refine bodyPost_ret (v := .agg #[.int .i32 (-2147483648), .int .i32 2147483647]) ?hr rfl ⟨rfl, ?aF⟩
  case hr =>
   simp [results, Tryz.results35, go_sem]
  case aF =>
   exact acB
theorem yw (op xl xh yl yh : Int) (w : World) (h1 : 6 ≤ op) (h2 : op ≤ 23) (h : xh < xl) :
  Calls Tryz.prog 35 #[.int .u8 op, .agg #[.int .i32 xl, .int .i32 xh], .agg #[.int .i32 yl, .int .i32 yh]] w fun e w' => e = .returned (.agg #[.int .i32 1, .int .i32 0]) ∧ Below w.heap.size w w' := by
 have d1 : decide (op < 6) = false := by simp; omega
 have d2 : decide (23 < op) = false := by simp; omega
 have d3 : decide (xh < xl) = true := by simpa using h
 go_enter Tryz.func35, Tryz.ntmps35
 go_wp2_with (first | (go_at_call 39; ((first | (with_reducible refine (Calls.ay (af _ _ _)).mono ?_) | (refine (Calls.ext (af _ _ _)).mono ?_)); rintro e _ ⟨rfl, y, rfl⟩)) | (go_at_call 49; ((first | (with_reducible refine (Calls.ay (aB _)).mono ?_) | (refine (Calls.ext (aB _)).mono ?_)); rintro e _ ⟨rfl, y, rfl⟩)))
 all_goals
  refine bodyPost_ret (v := .agg #[.int .i32 1, .int .i32 0]) ?hr rfl ⟨rfl, ?aF⟩
  case hr =>
   simp [results, Tryz.results35, go_sem]
  case aF =>
   exact acB
theorem yu (op xl xh yl yh : Int) (w : World) (h1 : 6 ≤ op) (h2 : op ≤ 23) (h : ¬ xh < xl) (h' : yh < yl) :
  Calls Tryz.prog 35 #[.int .u8 op, .agg #[.int .i32 xl, .int .i32 xh], .agg #[.int .i32 yl, .int .i32 yh]] w fun e w' => e = .returned (.agg #[.int .i32 1, .int .i32 0]) ∧ Below w.heap.size w w' := by
 have d1 : decide (op < 6) = false := by simp; omega
 have d2 : decide (23 < op) = false := by simp; omega
 have d3 : decide (xh < xl) = false := by simpa using h
 have d4 : decide (yh < yl) = true := by simpa using h'
 go_enter Tryz.func35, Tryz.ntmps35
 go_wp2_with (first | (go_at_call 39; ((first | (with_reducible refine (Calls.ay (af _ _ _)).mono ?_) | (refine (Calls.ext (af _ _ _)).mono ?_)); rintro e _ ⟨rfl, y, rfl⟩)) | (go_at_call 49; ((first | (with_reducible refine (Calls.ay (aB _)).mono ?_) | (refine (Calls.ext (aB _)).mono ?_)); rintro e _ ⟨rfl, y, rfl⟩)))
 all_goals
  refine bodyPost_ret (v := .agg #[.int .i32 1, .int .i32 0]) ?hr rfl ⟨rfl, ?aF⟩
  case hr =>
   simp [results, Tryz.results35, go_sem]
  case aF =>
   exact acB
theorem qj (op n m : Int) (w : World) (h1 : 6 ≤ op) (h2 : op ≤ 23) (hn : aP n) (hm : aP m) (we0 : (we op m != 0) = false) :
  Calls Tryz.prog 35 #[.int .u8 op, .agg #[.int .i32 n, .int .i32 n], .agg #[.int .i32 m, .int .i32 m]] w fun e w' => e = .returned (.agg #[.int .i32 (wv op n m), .int .i32 (wv op n m)]) ∧ Below w.heap.size w w' := by
 have d1 : decide (op < 6) = false := by simp; omega
 have d2 : decide (23 < op) = false := by simp; omega
 have d3 : decide (n < n) = false := by simp
 have d4 : decide (m < m) = false := by simp
 have d5 : (n == n) = true := by simp
 have d6 : (m == m) = true := by simp
 have we1 : (we op m == 0) = true := by simpa using we0
 go_enter Tryz.func35, Tryz.ntmps35
 go_wp2_with (first | (go_at_call 39; ((first | (with_reducible refine (Calls.ay (af _ _ _)).mono ?_) | (refine (Calls.ext (af _ _ _)).mono ?_)); rintro e _ ⟨rfl, y, rfl⟩)) | (go_at_call 73; ((first | (with_reducible refine (Calls.ay (aK _ _ _)).mono ?_) | (refine (Calls.ext (aK _ _ _)).mono ?_)); rintro e _ ⟨rfl, y, rfl⟩)) | (go_at_call 49; ((first | (with_reducible refine (Calls.ay (aB _)).mono ?_) | (refine (Calls.ext (aB _)).mono ?_)); rintro e _ ⟨rfl, y, rfl⟩)) | (go_at_call 34; ((first | (with_reducible refine (Calls.ay (cN _ _)).mono ?_) | (refine (Calls.ext (cN _ _)).mono ?_)); rintro e _ ⟨rfl, y, rfl⟩)) | (go_at_call 74; refine (Calls.cV (qG _ _ _ _ hn hm)).mono ?_; rintro e _ ⟨rfl, y, rfl⟩))
 all_goals
  refine bodyPost_ret (v := .agg #[.int .i32 (wv op n m), .int .i32 (wv op n m)]) ?hr rfl ⟨rfl, ?aF⟩
  case hr =>
   simp [results, Tryz.results35, go_sem]
  case aF =>
   exact acB
theorem qm (op n m : Int) (w : World) (h1 : 6 ≤ op) (h2 : op ≤ 23) (hn : aP n) (hm : aP m) (we0 : (we op m != 0) = true) :
  Calls Tryz.prog 35 #[.int .u8 op, .agg #[.int .i32 n, .int .i32 n], .agg #[.int .i32 m, .int .i32 m]] w fun e w' => e = .returned (.agg #[.int .i32 1, .int .i32 0]) ∧ Below w.heap.size w w' := by
 have d1 : decide (op < 6) = false := by simp; omega
 have d2 : decide (23 < op) = false := by simp; omega
 have d3 : decide (n < n) = false := by simp
 have d4 : decide (m < m) = false := by simp
 have d5 : (n == n) = true := by simp
 have d6 : (m == m) = true := by simp
 have we1 : (we op m == 0) = false := by simpa using we0
 go_enter Tryz.func35, Tryz.ntmps35
 go_wp2_with (first | (go_at_call 39; ((first | (with_reducible refine (Calls.ay (af _ _ _)).mono ?_) | (refine (Calls.ext (af _ _ _)).mono ?_)); rintro e _ ⟨rfl, y, rfl⟩)) | (go_at_call 73; ((first | (with_reducible refine (Calls.ay (aK _ _ _)).mono ?_) | (refine (Calls.ext (aK _ _ _)).mono ?_)); rintro e _ ⟨rfl, y, rfl⟩)) | (go_at_call 49; ((first | (with_reducible refine (Calls.ay (aB _)).mono ?_) | (refine (Calls.ext (aB _)).mono ?_)); rintro e _ ⟨rfl, y, rfl⟩)) | (go_at_call 34; ((first | (with_reducible refine (Calls.ay (cN _ _)).mono ?_) | (refine (Calls.ext (cN _ _)).mono ?_)); rintro e _ ⟨rfl, y, rfl⟩)) | (go_at_call 74; refine (Calls.cV (qG _ _ _ _ hn hm)).mono ?_; rintro e _ ⟨rfl, y, rfl⟩))
 all_goals
  refine bodyPost_ret (v := .agg #[.int .i32 1, .int .i32 0]) ?hr rfl ⟨rfl, ?aF⟩
  case hr =>
   simp [results, Tryz.results35, go_sem]
  case aF =>
   exact acB
def aN (op : Int) (x y : Int × Int) : Int × Int :=
 if op < 6 ∨ 23 < op then (-2147483648, 2147483647) else if x.2 < x.1 ∨ y.2 < y.1 then (1, 0)
 else if x.1 = x.2 ∧ y.1 = y.2 then (if we op y.1 = 0 then (wv op x.1 y.1, wv op x.1 y.1) else (1, 0))
 else fq op x y
theorem pN (op xl xh yl yh : Int) (w : World) (hx1 : -2147483648 ≤ xl) (hx2 : xl ≤ 2147483647) (hx3 : -2147483648 ≤ xh) (hx4 : xh ≤ 2147483647) (hy1 : -2147483648 ≤ yl) (hy2 : yl ≤ 2147483647) (hy3 : -2147483648 ≤ yh) (hy4 : yh ≤ 2147483647) :
  Calls Tryz.prog 35 #[.int .u8 op, .agg #[.int .i32 xl, .int .i32 xh], .agg #[.int .i32 yl, .int .i32 yh]] w fun e w' => e = .returned (.agg #[.int .i32 (aN op (xl, xh) (yl, yh)).1, .int .i32 (aN op (xl, xh) (yl, yh)).2]) ∧ Below w.heap.size w w' := by
 by_cases o1 : op < 6
 ·refine (vY op xl xh yl yh w o1).mono fun e w' ⟨q, hb⟩ => ⟨q.trans ?_, hb⟩
  rw [aN, if_pos (.inl o1)]
 by_cases o2 : 23 < op
 ·refine (vZ op xl xh yl yh w o2).mono fun e w' ⟨q, hb⟩ => ⟨q.trans ?_, hb⟩
  rw [aN, if_pos (.inr o2)]
 have no : ¬ (op < 6 ∨ 23 < op) := by omega
 by_cases e1 : xh < xl
 ·refine (yw op xl xh yl yh w abo abo e1).mono fun e w' ⟨q, hb⟩ => ⟨q.trans ?_, hb⟩
  rw [aN, if_neg no, if_pos (.inl e1)]
 by_cases e2 : yh < yl
 ·refine (yu op xl xh yl yh w abo abo e1 e2).mono fun e w' ⟨q, hb⟩ => ⟨q.trans ?_, hb⟩
  rw [aN, if_neg no, if_pos (.inr e2)]
 have ne : ¬ (xh < xl ∨ yh < yl) := by omega
 by_cases s : xl = xh ∧ yl = yh
 ·obtain ⟨rfl, rfl⟩ := s
  by_cases k : we op yl = 0
  ·refine (qj op xl yl w abo abo ⟨hx1, hx2⟩ ⟨hy1, hy2⟩ (by simpa using k)).mono fun e w' ⟨q, hb⟩ => ⟨q.trans ?_, hb⟩
   rw [aN, if_neg no, if_neg ne, if_pos ⟨rfl, rfl⟩, if_pos k]
  ·refine (qm op xl yl w abo abo ⟨hx1, hx2⟩ ⟨hy1, hy2⟩ (by simpa using k)).mono fun e w' ⟨q, hb⟩ => ⟨q.trans ?_, hb⟩
   rw [aN, if_neg no, if_neg ne, if_pos ⟨rfl, rfl⟩, if_neg k]
 ·have ev : aN op (xl, xh) (yl, yh) = fq op (xl, xh) (yl, yh) := by rw [aN, if_neg no, if_neg ne, if_neg s]
  rw [ev]
  by_cases hm : op = 9 ∨ (11 ≤ op ∧ op ≤ 23)
  ·exact Ey op xl xh yl yh w hx1 hx2 hx3 hx4 hy1 hy2 hy3 hy4 hm abo abo s
  have h4 : op = 6 ∨ op = 7 ∨ op = 8 ∨ op = 10 := by omega
  rcases h4 with rfl | rfl | rfl | rfl
  ·exact KA xl xh yl yh w hx1 hx2 hx3 hx4 hy1 hy2 hy3 hy4 abo abo s
  ·exact Kz xl xh yl yh w hx1 hx2 hx3 hx4 hy1 hy2 hy3 hy4 abo abo s
  ·exact Ky xl xh yl yh w hx1 hx2 hx3 hx4 hy1 hy2 hy3 hy4 abo abo s
  ·exact Iu xl xh yl yh w hx1 hx2 hx3 hx4 hy1 hy2 hy3 hy4 abo abo s
end
section
open Go.RowKit
open Go.RowKit
open Go.RowKit
theorem rP (x y : Int × Int) : (x.2 < x.1 ∧ y.2 < y.1 ∧ bR x y = (1, 0)) ∨ (x.2 < x.1 ∧ ¬ y.2 < y.1 ∧ bR x y = y) ∨ (¬ x.2 < x.1 ∧ y.2 < y.1 ∧ bR x y = x) ∨ (¬ x.2 < x.1 ∧ ¬ y.2 < y.1 ∧ bR x y = (min x.1 y.1, max x.2 y.2)) := by
 by_cases h1 : x.2 < x.1 <;> by_cases h2 : y.2 < y.1 <;> simp [bR, emp, h1, h2]
theorem mS (x y : Int × Int) : ((x.2 < x.1 ∨ y.2 < y.1 ∨ min x.2 y.2 < max x.1 y.1) ∧ aJ x y = (1, 0)) ∨ (¬ x.2 < x.1 ∧ ¬ y.2 < y.1 ∧ ¬ min x.2 y.2 < max x.1 y.1 ∧ aJ x y = (max x.1 y.1, min x.2 y.2)) := by
 by_cases h1 : x.2 < x.1
 ·left; exact ⟨.inl h1, by simp [aJ, emp, h1]⟩
 ·by_cases h2 : y.2 < y.1
  ·left; exact ⟨.inr (.inl h2), by simp [aJ, emp, h2]⟩
  ·by_cases h3 : min x.2 y.2 < max x.1 y.1
   ·left; exact ⟨.inr (.inr h3), by simp only [aJ, emp, h1, h2, h3]; simp⟩
   ·right; exact ⟨h1, h2, h3, by simp only [aJ, emp, h1, h2, h3]; simp⟩
theorem within_iff (x y : Int × Int) : vh x y = true ↔ (x.2 < x.1 ∨ (y.1 ≤ x.1 ∧ x.2 ≤ y.2)) := by
 simp [vh, emp]
theorem Dy (x y : Int × Int) : vh x (bR x y) = true := by
 rw [within_iff]
 rcases rP x y with ⟨h1, h2, h⟩ | ⟨h1, h2, h⟩ | ⟨h1, h2, h⟩ | ⟨h1, h2, h⟩ <;> rw [h] <;> (try dsimp only) <;> omega
def pJ (op : Int) (x y : Int × Int) : Int × Int :=
 if op = 16 then eD (decide (x.1 = x.2 ∧ y.1 = y.2 ∧ x.1 = y.1)) (decide (x.2 < y.1 ∨ y.2 < x.1)) else if op = 17 then eD (decide (x.2 < y.1 ∨ y.2 < x.1)) (decide (x.1 = x.2 ∧ y.1 = y.2 ∧ x.1 = y.1))
 else if op = 18 then eD (decide (x.2 < y.1)) (decide (y.2 ≤ x.1)) else if op = 19 then eD (decide (x.2 ≤ y.1)) (decide (y.2 < x.1))
 else if op = 20 then eD (decide (y.2 < x.1)) (decide (x.2 ≤ y.1)) else eD (decide (y.2 ≤ x.1)) (decide (x.2 < y.1))
theorem EB (op : Int) (x y : Int × Int) (h1 : 16 ≤ op) (h2 : op ≤ 21) (hx : x.1 ≤ x.2) (hy : y.1 ≤ y.2) : aN op x y = pJ op x y := by
 have no : ¬ (op < 6 ∨ 23 < op) := by omega
 have ne : ¬ (x.2 < x.1 ∨ y.2 < y.1) := by omega
 have hm : emp (aJ x y) = decide (x.2 < y.1 ∨ y.2 < x.1) := by
  rcases mS x y with ⟨c, e⟩ | ⟨c1, c2, c3, e⟩
  ·rw [e, Bool.eq_iff_iff]; simp [emp]; omega
  ·rw [e, Bool.eq_iff_iff]; simp only [emp, decide_eq_true_eq]; omega
 have h : op = 16 ∨ op = 17 ∨ op = 18 ∨ op = 19 ∨ op = 20 ∨ op = 21 := by omega
 rw [aN, if_neg no, if_neg ne]
 by_cases s : x.1 = x.2 ∧ y.1 = y.2
 ·obtain ⟨xl, xh⟩ := x
  obtain ⟨yl, yh⟩ := y
  dsimp only at *
  obtain ⟨rfl, rfl⟩ := s
  rw [if_pos ⟨rfl, rfl⟩]
  have hw : we op yl = 0 := by unfold we; rw [if_pos ⟨by omega, by omega⟩, if_neg abo]
  rw [if_pos hw]
  rcases h with rfl | rfl | rfl | rfl | rfl | rfl
  ·by_cases c : xl = yl
   ·simp [wv, pJ, eD, jq, c]
   ·have : xl < yl ∨ yl < xl := by omega
    simp [wv, pJ, eD, jq, c, this]
  ·by_cases c : xl = yl
   ·simp [wv, pJ, eD, jq, c]
   ·have : xl < yl ∨ yl < xl := by omega
    simp [wv, pJ, eD, jq, c, this]
  all_goals
   simp only [wv, pJ, eD, jq]
   simp
   (repeat' split) <;> first | rfl | omega
 ·rw [if_neg s]
  have s' : ¬ (x.1 = x.2 ∧ y.1 = y.2 ∧ x.1 = y.1) := fun h => s ⟨h.1, h.2.1⟩
  rcases h with rfl | rfl | rfl | rfl | rfl | rfl
  ·simp only [fq, sF, pJ, hm, s']; simp
  ·simp only [fq, sF, pJ, hm, s']; simp
  ·simp only [fq, sF, pJ]; simp
  ·simp only [fq, sF, pJ]; simp
  ·simp only [fq, sF, pJ]; simp
  ·simp only [fq, sF, pJ]; simp
def Mem (v : Int) (z : Int × Int) : Prop := z.1 ≤ v ∧ v ≤ z.2
def WI (z : Int × Int) : Prop := aP z.1 ∧ aP z.2
def EU (v : Int) (l : List Int) : Prop := ∃ p q, p ∈ l ∧ q ∈ l ∧ p ≤ v ∧ v ≤ q
theorem eR (v : Int) : aP (wrap32 v) := by unfold aP wrap32; omega
theorem fH {v : Int} (h : aP v) : wrap32 v = v := by unfold aP at h; unfold wrap32; omega
theorem vW (l : List Int) : ∀ a : Int, l.foldl min a ≤ a ∧ ∀ x ∈ l, l.foldl min a ≤ x := by
 induction l with
 | nil => intro a; exact ⟨Int.le_refl _, fun x h => by cases h⟩
 | cons y l ih =>
  intro a
  have h := ih (min a y)
  simp only [List.foldl_cons]
  refine ⟨by omega, fun x hx => ?_⟩
  rcases List.mem_cons.1 hx with rfl | hx
  ·omega
  ·exact h.2 x hx
theorem vQ (l : List Int) : ∀ a : Int, a ≤ l.foldl max a ∧ ∀ x ∈ l, x ≤ l.foldl max a := by
 induction l with
 | nil => intro a; exact ⟨Int.le_refl _, fun x h => by cases h⟩
 | cons y l ih =>
  intro a
  have h := ih (max a y)
  simp only [List.foldl_cons]
  refine ⟨by omega, fun x hx => ?_⟩
  rcases List.mem_cons.1 hx with rfl | hx
  ·omega
  ·exact h.2 x hx
theorem nW {l : List Int} (h : l ≠ []) : nth l 0 ∈ l := by
 cases l with
 | nil => exact absurd rfl h
 | cons a l => simp [nth]
theorem Gz {l : List Int} {x : Int} (h : x ∈ l) : zL l ≤ x := (vW l _).2 x h
theorem GG {l : List Int} {x : Int} (h : x ∈ l) : x ≤ zS l := (vQ l _).2 x h
theorem rU (l : List Int) : aD l = (-2147483648, 2147483647) ∨ (aD l = (zL l, zS l) ∧ -2147483648 ≤ zL l ∧ zS l ≤ 2147483647) := by
 unfold aD
 split
 ·exact .inl rfl
 ·exact .inr ⟨rfl, by omega, by omega⟩
theorem kU {l : List Int} {v : Int} (h : EU v l) : Mem (wrap32 v) (aD l) := by
 obtain ⟨p, q, hp, hq, h1, h2⟩ := h
 have a1 := Gz hp
 have a2 := GG hq
 rcases rU l with e | ⟨e, e1, e2⟩ <;> rw [e]
 ·exact eR v
 ·rw [fH ⟨by omega, by omega⟩]
  exact ⟨by simp only; omega, by simp only; omega⟩
theorem vN (c b lo hi : Int) (h1 : lo ≤ b) (h2 : b ≤ hi) : (c * lo ≤ c * b ∧ c * b ≤ c * hi) ∨ (c * hi ≤ c * b ∧ c * b ≤ c * lo) := by
 by_cases hc : 0 ≤ c
 ·exact .inl ⟨Int.mul_le_mul_of_nonneg_left h1 hc, Int.mul_le_mul_of_nonneg_left h2 hc⟩
 ·exact .inr ⟨Int.mul_le_mul_of_nonpos_left abo h2, Int.mul_le_mul_of_nonpos_left abo h1⟩
theorem xz {x y : Int × Int} {a b : Int} (ha : Mem a x) (hb : Mem b y) : EU (a * b) [x.1 * y.1, x.1 * y.2, x.2 * y.1, x.2 * y.2] := by
 have h1 := vN b a x.1 x.2 ha.1 ha.2
 have h2 := vN x.1 b y.1 y.2 hb.1 hb.2
 have h3 := vN x.2 b y.1 y.2 hb.1 hb.2
 rw [Int.mul_comm b x.1, Int.mul_comm b a, Int.mul_comm b x.2] at h1
 have key : (∃ p ∈ [x.1 * y.1, x.1 * y.2, x.2 * y.1, x.2 * y.2], p ≤ a * b) ∧ (∃ q ∈ [x.1 * y.1, x.1 * y.2, x.2 * y.1, x.2 * y.2], a * b ≤ q) := by
  simp only [List.mem_cons, List.not_mem_nil, or_false, exists_eq_or_imp, exists_eq_left]
  omega
 obtain ⟨⟨p, hp, h4⟩, ⟨q, hq, h5⟩⟩ := key
 exact ⟨p, q, hp, hq, h4, h5⟩
theorem yx {x y : Int × Int} {a b : Int} (ha : Mem a x) (hb : Mem b y) : EU (a + b) [x.1 + y.1, x.1 + y.2, x.2 + y.1, x.2 + y.2] := by
 unfold Mem at *
 exact ⟨x.1 + y.1, x.2 + y.2, by simp, by simp, by omega, by omega⟩
theorem wO {x y : Int × Int} {a b : Int} (ha : Mem a x) (hb : Mem b y) : EU (a - b) [x.1 - y.1, x.1 - y.2, x.2 - y.1, x.2 - y.2] := by
 unfold Mem at *
 exact ⟨x.1 - y.2, x.2 - y.1, by simp, by simp, by omega, by omega⟩
theorem gi {a a' b : Int} (hb : 0 < b) (h : a ≤ a') : a.tdiv b ≤ a'.tdiv b := Int.tdiv_le_tdiv hb h
theorem yZ (b a lo hi : Int) (hb : b ≠ 0) (h1 : lo ≤ a) (h2 : a ≤ hi) : (lo.tdiv b ≤ a.tdiv b ∧ a.tdiv b ≤ hi.tdiv b) ∨ (hi.tdiv b ≤ a.tdiv b ∧ a.tdiv b ≤ lo.tdiv b) := by
 by_cases c : 0 < b
 ·exact .inl ⟨gi c h1, gi c h2⟩
 ·right
  have e : ∀ z : Int, z.tdiv b = -(z.tdiv (-b)) := fun z => by rw [Int.tdiv_neg, Int.neg_neg]
  have p1 := gi (b := -b) abo h1
  have p2 := gi (b := -b) abo h2
  rw [e a, e lo, e hi]
  omega
theorem fk {c b b' : Int} (hc : 0 ≤ c) (hb : 0 < b) (h : b ≤ b') : c.tdiv b' ≤ c.tdiv b := by
 rw [Int.tdiv_eq_ediv_of_nonneg hc, Int.tdiv_eq_ediv_of_nonneg hc]
 rw [Int.le_ediv_iff_mul_le hb]
 have h1 := Int.ediv_mul_le c (show b' ≠ 0 by omega)
 have h2 := Int.mul_le_mul_of_nonneg_left h (Int.ediv_nonneg hc (show 0 ≤ b' by omega))
 omega
theorem kM (c b lo hi : Int) (h0 : 0 < lo) (h1 : lo ≤ b) (h2 : b ≤ hi) : (c.tdiv lo ≤ c.tdiv b ∧ c.tdiv b ≤ c.tdiv hi) ∨ (c.tdiv hi ≤ c.tdiv b ∧ c.tdiv b ≤ c.tdiv lo) := by
 by_cases hc : 0 ≤ c
 ·exact .inr ⟨fk hc abo h2, fk hc h0 h1⟩
 ·left
  have e : ∀ z : Int, c.tdiv z = -((-c).tdiv z) := fun z => by rw [Int.neg_tdiv, Int.neg_neg]
  have p1 := fk (c := -c) abo (by omega : 0 < b) h2
  have p2 := fk (c := -c) abo h0 h1
  rw [e b, e lo, e hi]
  omega
theorem qK (c b lo hi : Int) (h0 : 0 < lo ∨ hi < 0) (h1 : lo ≤ b) (h2 : b ≤ hi) : (c.tdiv lo ≤ c.tdiv b ∧ c.tdiv b ≤ c.tdiv hi) ∨ (c.tdiv hi ≤ c.tdiv b ∧ c.tdiv b ≤ c.tdiv lo) := by
 rcases h0 with h0 | h0
 ·exact kM c b lo hi h0 h1 h2
 ·have e : ∀ z : Int, c.tdiv z = -(c.tdiv (-z)) := fun z => by rw [Int.tdiv_neg, Int.neg_neg]
  have := kM c (-b) (-hi) (-lo) abo abo abo
  rw [e b, e lo, e hi]
  omega
theorem ya {x p : Int × Int} {a b : Int} (ha : Mem a x) (hb : Mem b p) (h0 : 0 < p.1 ∨ p.2 < 0) : EU (a.tdiv b) (divC x p) := by
 unfold Mem at ha hb
 have h1 := yZ b a x.1 x.2 abo ha.1 ha.2
 have h2 := qK x.1 b p.1 p.2 h0 hb.1 hb.2
 have h3 := qK x.2 b p.1 p.2 h0 hb.1 hb.2
 have key : (∃ q ∈ divC x p, q ≤ a.tdiv b) ∧ (∃ q ∈ divC x p, a.tdiv b ≤ q) := by
  simp only [divC, List.mem_cons, List.not_mem_nil, or_false, exists_eq_or_imp, exists_eq_left]
  omega
 obtain ⟨⟨p', hp, h4⟩, ⟨q, hq, h5⟩⟩ := key
 exact ⟨p', q, hp, hq, h4, h5⟩
theorem EU.left {v : Int} {l m : List Int} (h : EU v l) : EU v (l ++ m) := by
 obtain ⟨p, q, hp, hq, h⟩ := h
 exact ⟨p, q, List.mem_append_left _ hp, List.mem_append_left _ hq, h⟩
theorem EU.right {v : Int} {l m : List Int} (h : EU v m) : EU v (l ++ m) := by
 obtain ⟨p, q, hp, hq, h⟩ := h
 exact ⟨p, q, List.mem_append_right _ hp, List.mem_append_right _ hq, h⟩
theorem yb {x y : Int × Int} {a b : Int} (ha : Mem a x) (hb : Mem b y) (h0 : b ≠ 0) : EU (a.tdiv b) (su x y) := by
 unfold Mem at hb
 unfold su
 by_cases c : b < 0
 ·rw [if_pos abo]
  exact (ya (p := (y.1, min y.2 (-1))) ha ⟨by simp only; omega, by simp only; omega⟩ (.inr abQ)).left
 ·rw [if_pos (show 0 < y.2 by omega)]
  exact (ya (p := (max y.1 1, y.2)) ha ⟨by simp only; omega, by simp only; omega⟩ (.inl abQ)).right
theorem Gu (a b : Int) (hb : b ≠ 0) : (0 ≤ a → 0 ≤ a.tmod b ∧ a.tmod b ≤ a ∧ a.tmod b < b.natAbs) ∧ (a ≤ 0 → a.tmod b ≤ 0 ∧ a ≤ a.tmod b ∧ -(b.natAbs : Int) < a.tmod b) := by
 have key : ∀ a : Int, 0 ≤ a → 0 ≤ a.tmod b ∧ a.tmod b ≤ a ∧ a.tmod b < b.natAbs := by
  intro a ha
  have h1 := Int.natAbs_tmod a b
  have h2 := Int.tmod_nonneg b ha
  have h3 : a.natAbs % b.natAbs < b.natAbs := Nat.mod_lt _ abo
  have h4 := Nat.mod_le a.natAbs b.natAbs
  omega
 refine ⟨key a, fun ha => ?_⟩
 have := key (-a) abo
 rw [Int.neg_tmod] at this
 omega
theorem JS {x y : Int × Int} {a b : Int} (ha : Mem a x) (hb : Mem b y) (h0 : b ≠ 0) : Mem (a.tmod b) (eV x y) := by
 unfold Mem at ha hb
 have hm := Gu a b h0
 have n0 : ¬ (y.1 = 0 ∧ y.2 = 0) := by omega
 have hM : (b.natAbs : Int) ≤ o7 y + 1 := by unfold o7; omega
 rw [eV, if_neg n0]
 generalize o7 y = m at *
 unfold Mem
 simp only
 constructor
 ·split <;> omega
 ·split <;> omega
theorem nQ (n : Nat) : (0 : Int) < 2 ^ n := by have := (jl n n (Nat.le_refl _)).1; omega
theorem wQ {x : Int × Int} {a : Int} (n : Nat) (ha : Mem a x) : EU (a * 2 ^ n) [x.1 * 2 ^ n, x.2 * 2 ^ n] := by
 have hp := nQ n
 refine ⟨x.1 * 2 ^ n, x.2 * 2 ^ n, by simp, by simp, ?_, ?_⟩
 ·exact Int.mul_le_mul_of_nonneg_right ha.1 abo
 ·exact Int.mul_le_mul_of_nonneg_right ha.2 abo
theorem vu (a : Int) (n : Nat) : (0 ≤ a → 0 ≤ a / 2 ^ n ∧ a / 2 ^ n ≤ a) ∧ (a < 0 → a ≤ a / 2 ^ n ∧ a / 2 ^ n < 0) := by
 have hp := nQ n
 constructor
 ·intro h
  exact ⟨Int.ediv_nonneg h abo, Int.ediv_le_self _ h⟩
 ·intro h
  refine ⟨?_, Int.ediv_neg_of_neg_of_pos h hp⟩
  rw [Int.le_ediv_iff_mul_le hp]
  have := Int.mul_le_mul_of_nonpos_left (a := a) (b := 2 ^ n) (c := 1) abo abo
  rw [Int.mul_one] at this
  exact this
theorem fQ (op : BinOp) (a b : Int) : bits op .i32 a b = wrap32 ((match op with
  | .and => BitVec.ofInt 32 a &&& BitVec.ofInt 32 b
  | .or => BitVec.ofInt 32 a ||| BitVec.ofInt 32 b
  | .xor => BitVec.ofInt 32 a ^^^ BitVec.ofInt 32 b
  | _ => BitVec.ofInt 32 a &&& ~~~(BitVec.ofInt 32 b)).toNat : Nat) := by
 have w : ∀ n : Int, IntKind.i32.wrap n = wrap32 n := fun n => by rw [IntKind.wrap_i32, wrap32]
 rw [← w]
 cases op <;> rfl
theorem jG (a : Int) (h : aP a) : ((BitVec.ofInt 32 a).toNat : Int) = if 0 ≤ a then a else a + 4294967296 := by
 unfold aP at h
 rw [BitVec.toNat_ofInt]
 simp only [Nat.reducePow]
 split <;> omega
theorem oC {a b : Int} (ha : aP a) (h0 : 0 ≤ a) : 0 ≤ bits .and .i32 a b ∧ bits .and .i32 a b ≤ a := by
 rw [fQ]
 simp only [BitVec.toNat_and]
 have h1 := jG a ha
 rw [if_pos h0] at h1
 have h2 := @Nat.and_le_left (BitVec.ofInt 32 a).toNat (BitVec.ofInt 32 b).toNat
 unfold aP at ha
 rw [fH ⟨by omega, by omega⟩]
 omega
theorem mM {a b : Int} (hb : aP b) (h0 : 0 ≤ b) : 0 ≤ bits .and .i32 a b ∧ bits .and .i32 a b ≤ b := by
 rw [fQ]
 simp only [BitVec.toNat_and]
 have h1 := jG b hb
 rw [if_pos h0] at h1
 have h2 := @Nat.and_le_right (BitVec.ofInt 32 a).toNat (BitVec.ofInt 32 b).toNat
 unfold aP at hb
 rw [fH ⟨by omega, by omega⟩]
 omega
theorem eW : ∀ (f x : Nat), x < 2 ^ f → x < 2 ^ Lib.bitLenAux f x := by
 intro f
 induction f with
 | zero => intro x h; simpa [Lib.bitLenAux] using h
 | succ f ih =>
  intro x h
  unfold Lib.bitLenAux
  split
  ·rename_i e; subst e; exact Nat.one_pos
  ·have := ih (x / 2) (by rw [Nat.pow_succ] at h; omega)
   rw [Nat.add_comm, Nat.pow_succ]
   omega
theorem sM : ∀ (f x y : Nat), x ≤ y → Lib.bitLenAux f x ≤ Lib.bitLenAux f y := by
 intro f
 induction f with
 | zero => intro x y _; exact Nat.le_refl _
 | succ f ih =>
  intro x y h
  unfold Lib.bitLenAux
  by_cases hx : x = 0
  ·rw [if_pos hx]; exact Nat.zero_le _
  ·rw [if_neg hx, if_neg abo]
   have := ih (x / 2) (y / 2) (Nat.div_le_div_right h)
   omega
theorem GF {n : Int} (h0 : 0 ≤ n) (h1 : n ≤ 2147483647) : n ≤ eK n := by
 have := eW 64 n.toNat abo
 unfold eK Lib.bitLen
 have e : ((2 ^ Lib.bitLenAux 64 n.toNat : Nat) : Int) = 2 ^ Lib.bitLenAux 64 n.toNat := by simp
 omega
theorem zH {n m : Int} (h : n ≤ m) : eK n ≤ eK m := by
 have := (jl _ _ (sM 64 n.toNat m.toNat abo)).2
 unfold eK Lib.bitLen
 omega
theorem uE {a b n : Int} (h0 : 0 ≤ a) (h1 : 0 ≤ b) (ha : a ≤ n) (hb : b ≤ n) (hn : n ≤ 2147483647) : (0 ≤ bits .xor .i32 a b ∧ bits .xor .i32 a b ≤ eK n) ∧ (a ≤ bits .or .i32 a b ∧ b ≤ bits .or .i32 a b ∧ bits .or .i32 a b ≤ eK n) := by
 have ea := jG a ⟨by omega, by omega⟩
 have eb := jG b ⟨by omega, by omega⟩
 rw [if_pos h0] at ea
 rw [if_pos h1] at eb
 have hp := eW 64 n.toNat abo
 have ho := Gl (show 0 ≤ n by omega) hn
 have e : ((2 ^ Lib.bitLenAux 64 n.toNat : Nat) : Int) = 2 ^ Lib.bitLenAux 64 n.toNat := by simp
 have hx := @Nat.xor_lt_two_pow (BitVec.ofInt 32 a).toNat (BitVec.ofInt 32 b).toNat _ (Nat.lt_of_le_of_lt abo hp) (Nat.lt_of_le_of_lt abo hp)
 have hy := @Nat.or_lt_two_pow (BitVec.ofInt 32 a).toNat (BitVec.ofInt 32 b).toNat _ (Nat.lt_of_le_of_lt abo hp) (Nat.lt_of_le_of_lt abo hp)
 have hl := @Nat.left_le_or (BitVec.ofInt 32 a).toNat (BitVec.ofInt 32 b).toNat
 have hr := @Nat.right_le_or (BitVec.ofInt 32 a).toNat (BitVec.ofInt 32 b).toNat
 rw [fQ, fQ]
 simp only [BitVec.toNat_xor, BitVec.toNat_or]
 have eo : eK n = 2 ^ Lib.bitLenAux 64 n.toNat - 1 := rfl
 rw [fH ⟨by omega, by omega⟩, fH ⟨by omega, by omega⟩]
 omega
theorem My {a b : Int} (ha : aP a) (hb : aP b) (h0 : a < 0) (h1 : b < 0) : a ≤ bits .or .i32 a b ∧ b ≤ bits .or .i32 a b ∧ bits .or .i32 a b ≤ -1 := by
 have ea := jG a ha
 have eb := jG b hb
 rw [if_neg abo] at ea
 rw [if_neg abo] at eb
 unfold aP at ha hb
 have hl := @Nat.left_le_or (BitVec.ofInt 32 a).toNat (BitVec.ofInt 32 b).toNat
 have hr := @Nat.right_le_or (BitVec.ofInt 32 a).toNat (BitVec.ofInt 32 b).toNat
 have hy := @Nat.or_lt_two_pow (BitVec.ofInt 32 a).toNat (BitVec.ofInt 32 b).toNat 32 (BitVec.ofInt 32 a).isLt (BitVec.ofInt 32 b).isLt
 rw [fQ]
 simp only [BitVec.toNat_or]
 unfold wrap32
 omega
theorem mq (op : BinOp) (a b : Int) : aP (bits op .i32 a b) := by rw [fQ]; exact eR _
theorem Km {x y : Int × Int} {a b : Int} (ha : Mem a x) (hb : Mem b y) (h0 : b ≠ 0) : Mem (wrap32 (a.tdiv b)) (kF x y) := by
 have n0 : ¬ (y.1 = 0 ∧ y.2 = 0) := by unfold Mem at hb; omega
 rw [kF, if_neg n0]
 split
 ·exact eR _
 ·exact kU (yb ha hb h0)
theorem Ks {op : Int} {x y : Int × Int} {a b : Int} (hop : op = 11 ∨ op = 12 ∨ op = 13) (hx : WI x) (hy : WI y) (ha : Mem a x) (hb : Mem b y) : Mem (wv op a b) (kG op x y) := by
 have wa : aP a := ⟨Int.le_trans hx.1.1 ha.1, Int.le_trans ha.2 hx.2.2⟩
 have wb : aP b := ⟨Int.le_trans hy.1.1 hb.1, Int.le_trans hb.2 hy.2.2⟩
 unfold WI aP at hx hy
 unfold Mem at ha hb
 rcases hop with rfl | rfl | rfl
 ·rw [show wv 11 a b = bits .and .i32 a b from rfl]
  unfold kG
  by_cases h1 : 0 ≤ x.1 <;> by_cases h2 : 0 ≤ y.1
  ·have p := oC (b := b) wa abo
   have q := mM (a := a) wb abo
   rw [if_pos ⟨rfl, h1, h2⟩]
   exact ⟨p.1, by simp only; omega⟩
  ·have p := oC (b := b) wa abo
   rw [if_neg (fun h => h2 h.2.2), if_pos ⟨rfl, h1⟩]
   exact ⟨p.1, by simp only; omega⟩
  ·have q := mM (a := a) wb abo
   rw [if_neg (fun h => h1 h.2.1), if_neg (fun h => h1 h.2), if_pos ⟨rfl, h2⟩]
   exact ⟨q.1, by simp only; omega⟩
  ·rw [if_neg (fun h => h1 h.2.1), if_neg (fun h => h1 h.2), if_neg (fun h => h2 h.2)]
   simp only [show ¬ ((11 : Int) = 12) by decide, show ¬ ((11 : Int) = 13) by decide, false_and, if_false]
   exact mq _ _ _
 ·rw [show wv 12 a b = bits .or .i32 a b from rfl]
  unfold kG
  simp only [show ¬ ((12 : Int) = 11) by decide, show ¬ ((12 : Int) = 13) by decide, false_and, if_false, true_and]
  by_cases h1 : 0 ≤ x.1 ∧ 0 ≤ y.1
  ·have p := uE (a := a) (b := b) (n := max x.2 y.2) abo abo abo abo abo
   rw [if_pos h1]
   exact ⟨by simp only; omega, p.2.2.2⟩
  ·rw [if_neg h1]
   by_cases h2 : x.2 < 0 ∧ y.2 < 0
   ·have p := My wa wb abo abo
    rw [if_pos h2]
    exact ⟨by simp only; omega, p.2.2⟩
   ·rw [if_neg h2]
    exact mq _ _ _
 ·rw [show wv 13 a b = bits .xor .i32 a b from rfl]
  unfold kG
  simp only [show ¬ ((13 : Int) = 11) by decide, show ¬ ((13 : Int) = 12) by decide, false_and, if_false, true_and]
  by_cases h1 : 0 ≤ x.1 ∧ 0 ≤ y.1
  ·have p := uE (a := a) (b := b) (n := max x.2 y.2) abo abo abo abo abo
   rw [if_pos h1]
   exact p.1
  ·rw [if_neg h1]
   exact mq _ _ _
theorem Mp {op : Int} {x y : Int × Int} {a b : Int} (hop : op = 14 ∨ op = 15) (hx : WI x) (ha : Mem a x) (hb : Mem b y) : Mem (wv op a b) (tE op x y) := by
 have wa : aP a := ⟨Int.le_trans hx.1.1 ha.1, Int.le_trans ha.2 hx.2.2⟩
 unfold tE
 rcases hop with rfl | rfl
 ·rw [if_pos rfl, show wv 14 a b = wrap32 (a * 2 ^ (b % 32).toNat) from rfl]
  split
  ·rename_i e
   obtain rfl : b = y.1 := by unfold Mem at hb; omega
   exact kU (wQ _ ha)
  ·exact eR _
 ·rw [if_neg abr, show wv 15 a b = a / 2 ^ (b % 32).toNat from rfl]
  split
  ·rename_i e
   obtain rfl : b = y.1 := by unfold Mem at hb; omega
   have hp := nQ (y.1 % 32).toNat
   exact ⟨Int.ediv_le_ediv hp ha.1, Int.ediv_le_ediv hp ha.2⟩
  ·have p := vu a (b % 32).toNat
   generalize a / 2 ^ (b % 32).toNat = r at *
   unfold Mem at *
   simp only
   constructor
   ·split <;> omega
   ·split <;> omega
theorem JT {op : Int} {x y : Int × Int} {a b : Int} (hop : op = 22 ∨ op = 23) (ha : Mem a x) (hb : Mem b y) : Mem (wv op a b) (vP op x y) := by
 have h1 : qc x = false → a ≠ 0 := by intro h; simp [qc] at h; unfold Mem at ha; omega
 have h2 : qc y = false → b ≠ 0 := by intro h; simp [qc] at h; unfold Mem at hb; omega
 have h3 : is0 x = true → a = 0 := by intro h; simp [is0] at h; unfold Mem at ha; omega
 have h4 : is0 y = true → b = 0 := by intro h; simp [is0] at h; unfold Mem at hb; omega
 rcases hop with rfl | rfl
 ·rw [show wv 22 a b = jq (a != 0 && b != 0) from rfl]
  unfold vP
  rw [if_pos rfl]
  by_cases za : a = 0 <;> by_cases zb : b = 0 <;> cases c1 : qc x <;> cases c2 : qc y <;> cases c3 : is0 x <;> cases c4 : is0 y <;> simp_all [Mem, jq, eD]
 ·rw [show wv 23 a b = jq (a != 0 || b != 0) from rfl]
  unfold vP
  rw [if_neg abr]
  by_cases za : a = 0 <;> by_cases zb : b = 0 <;> cases c1 : qc x <;> cases c2 : qc y <;> cases c3 : is0 x <;> cases c4 : is0 y <;> simp_all [Mem, jq, eD]
theorem Ko {op : Int} {x y : Int × Int} {a b : Int} (h1 : 16 ≤ op) (h2 : op ≤ 21) (ha : Mem a x) (hb : Mem b y) : Mem (wv op a b) (pJ op x y) := by
 have h : op = 16 ∨ op = 17 ∨ op = 18 ∨ op = 19 ∨ op = 20 ∨ op = 21 := by omega
 unfold Mem at ha hb
 have key : ∀ (p s n : Bool), (s = true → p = true) → (n = true → p = false) → Mem (jq p) (eD s n) := by
  intro p s n
  cases p <;> cases s <;> cases n <;> simp [Mem, jq, eD]
 rcases h with rfl | rfl | rfl | rfl | rfl | rfl
 ·exact key (a == b) _ _ abA abA
 ·exact key (a != b) _ _ abA abA
 ·exact key (decide (a < b)) _ _ abA abA
 ·exact key (decide (a ≤ b)) _ _ abA abA
 ·exact key (decide (b < a)) _ _ abA abA
 ·exact key (decide (b ≤ a)) _ _ abA abA
theorem Ez {op : Int} {x y : Int × Int} {a b : Int} (hx : WI x) (hy : WI y) (ha : Mem a x) (hb : Mem b y) (he : we op b = 0) : Mem (wv op a b) (aN op x y) := by
 have hop : 6 ≤ op ∧ op ≤ 23 := by
  unfold we at he
  by_cases h : 6 ≤ op ∧ op ≤ 23
  ·exact h
  ·rw [if_neg h] at he; cases he
 have hz : op = 9 ∨ op = 10 → b ≠ 0 := by
  intro h0 hb0
  unfold we at he
  rw [if_pos hop, if_pos ⟨h0, hb0⟩] at he
  cases he
 have no : ¬ (op < 6 ∨ 23 < op) := by omega
 have ne : ¬ (x.2 < x.1 ∨ y.2 < y.1) := by unfold Mem at ha hb; omega
 by_cases hc : 16 ≤ op ∧ op ≤ 21
 ·rw [EB op x y hc.1 hc.2 abo abo]
  exact Ko hc.1 hc.2 ha hb
 rw [aN, if_neg no, if_neg ne]
 split
 ·rename_i s
  unfold Mem at ha hb
  obtain rfl : a = x.1 := by omega
  obtain rfl : b = y.1 := by omega
  rw [if_pos he]
  exact ⟨Int.le_refl _, Int.le_refl _⟩
 ·have h : op = 6 ∨ op = 7 ∨ op = 8 ∨ op = 9 ∨ op = 10 ∨ (op = 11 ∨ op = 12 ∨ op = 13) ∨ (op = 14 ∨ op = 15) ∨ (op = 22 ∨ op = 23) := by omega
  rcases h with rfl | rfl | rfl | rfl | rfl | h | h | h
  ·exact kU (yx ha hb)
  ·exact kU (wO ha hb)
  ·exact kU (xz ha hb)
  ·have h0 := hz (.inl rfl)
   rw [show wv 9 a b = wrap32 (a.tdiv b) by simp [wv, h0]]
   exact Km ha hb h0
  ·have h0 := hz (.inr rfl)
   rw [show wv 10 a b = a.tmod b by simp [wv, h0]]
   exact JS ha hb h0
  ·have e : fq op x y = kG op x y := by
    unfold fq
    rw [if_neg abo, if_neg abo, if_neg abo, if_neg abo, if_neg abo, if_pos abo]
   rw [e]
   exact Ks h hx hy ha hb
  ·have e : fq op x y = tE op x y := by
    unfold fq
    rw [if_neg abo, if_neg abo, if_neg abo, if_neg abo, if_neg abo, if_neg abo, if_pos abo]
   rw [e]
   exact Mp h hx ha hb
  ·have e : fq op x y = vP op x y := by
    unfold fq
    rw [if_neg abo, if_neg abo, if_neg abo, if_neg abo, if_neg abo, if_neg abo, if_neg abo, if_neg abo]
   rw [e]
   exact JT h ha hb
def Sub (x y : Int × Int) : Prop := x.2 < x.1 ∨ (y.1 ≤ x.1 ∧ x.2 ≤ y.2)
section
variable {x y x' y' : Int × Int} (hx : x.1 ≤ x.2) (hy : y.1 ≤ y.2) (sx : x'.1 ≤ x.1 ∧ x.2 ≤ x'.2) (sy : y'.1 ≤ y.1 ∧ y.2 ≤ y'.2)
include hx hy sx sy
end
end
section
open Go.RowKit
theorem ag {w : World} {b : Nat} {o : Obj} (h : w.heap[b]? = some o) : b < w.heap.size := (Array.getElem?_eq_some_iff.1 h).1
structure Fr (S : Nat → Prop) (w w' : World) : Prop where
 os : w'.os = w.os
 tape : w'.tape = w.tape
 output : w'.output = w.output
 size : w.heap.size ≤ w'.heap.size
 block : ∀ k, k < w.heap.size → ¬ S k → w'.heap[k]? = w.heap[k]?
theorem Fr.refl (S : Nat → Prop) (w : World) : Fr S w w := ⟨rfl, rfl, rfl, Nat.le_refl _, fun _ _ _ => rfl⟩
theorem Fr.trans {S : Nat → Prop} {a b c : World} (h : Fr S a b) (k : Fr S b c) : Fr S a c :=
 ⟨k.os.trans h.os, k.tape.trans h.tape, k.output.trans h.output, Nat.le_trans h.size k.size, fun i h1 h2 => (k.block i (Nat.lt_of_lt_of_le h1 h.size) h2).trans (h.block i h1 h2)⟩
theorem Fr.of {S : Nat → Prop} {w w' : World} (h : Below w.heap.size w w') : Fr S w w' := ⟨h.os, h.tape, h.output, h.size, fun k h1 _ => h.block k h1⟩
theorem Fr.mono {S S' : Nat → Prop} {w w' : World} (h : Fr S w w') (i : ∀ k, k < w.heap.size → S k → S' k) : Fr S' w w' := ⟨h.os, h.tape, h.output, h.size, fun k h1 h2 => h.block k h1 (fun h3 => h2 (i k h1 h3))⟩
theorem Fr.below {S : Nat → Prop} {w w' : World} {B : Nat} (h : Fr S w w') (hB : B ≤ w.heap.size) (hS : ∀ k, S k → B ≤ k) : Below B w w' :=
 ⟨h.os, h.tape, h.output, h.size, fun k hk => h.block k (Nat.lt_of_lt_of_le hk hB) (fun h3 => by have := hS k h3; omega)⟩
theorem Fr.since {S S' : Nat → Prop} {w0 w w' : World} (h0 : Fr S w0 w) (h : Fr S' w w') (i : ∀ k, S' k → S k ∨ w0.heap.size ≤ k) : Fr S w0 w' :=
 ⟨h.os.trans h0.os, h.tape.trans h0.tape, h.output.trans h0.output, Nat.le_trans h0.size h.size, fun k h1 h2 => (h.block k (Nat.lt_of_lt_of_le h1 h0.size) (fun h3 => by rcases i k h3 with h4 | h4; exact h2 h4; omega)).trans (h0.block k h1 h2)⟩
theorem Fr.cell {S : Nat → Prop} {w w' : World} (h : Fr S w w') {b : Nat} (o : Nat) (hb : b < w.heap.size) (hn : ¬ S b) : w'.cell? ⟨b, o, none⟩ = w.cell? ⟨b, o, none⟩ := World.cell?_of_block (h.block b hb hn)
theorem Fr.set {S : Nat → Prop} {w w' : World} {b o : Nat} (h : Fr S w w') (v : Value) (hp : S b ∨ w.heap.size ≤ b) : Fr S w (w'.setCell ⟨b, o, none⟩ v) :=
 ⟨h.os, h.tape, h.output, by simpa using h.size, fun k h1 h2 => by
  rw [Below.heap_setCell _ _ _ _ (by show k ≠ b; rintro rfl; rcases hp with hp | hp; exact h2 hp; omega)]
  exact h.block k h1 h2⟩
theorem Fr.alloc {S : Nat → Prop} {w w' : World} (h : Fr S w w') (o : Obj) : Fr S w (w'.alloc o) :=
 h.trans (Fr.of ((Below.refl _ _).alloc (Nat.le_refl _) _))
theorem Fr.drew {S : Nat → Prop} {w w' : World} (h : Fr S w w') : Fr S w w'.drew := h.trans (Fr.of (Below.drew (Below.refl _ _)))
theorem Fr.own {S : Nat → Prop} {w w' : World} (h : Fr S w w') {B n size : Nat} {e : TypeId} {v : Value} {xs : List Value} (ho : w.ownsRow B e size v n xs) (hn : ∀ q, v.ownBlock = some q → ¬ S q) : w'.ownsRow B e size v n xs := by
 refine ⟨ho.1, ?_⟩
 rcases ho.2 with h0 | ⟨g, cap, cur, rfl, hb, hk, hr⟩
 ·exact .inl h0
 ·exact .inr ⟨g, cap, cur, rfl, hb, (h.block g (ag hk) (hn g rfl)).trans hk, hr⟩
structure St where
 pc : Int
 r : List Int
 d : Value
 hal : Bool
 held : Int
def St.cells (s : St) : Array Value := (Value.int .i64 s.pc :: (s.r.map (Value.int .i32) ++ [s.d, .bool s.hal, .int .i64 s.held])).toArray
section
variable {w : World} {sb : Nat} {s : St}
end
def Mr (r : List Int) (a v : Int) : List Int := if a = 0 then r else r.set a.toNat v
end
end Go.Proofs.YtebklpnkcicpjaaGreatDoor
