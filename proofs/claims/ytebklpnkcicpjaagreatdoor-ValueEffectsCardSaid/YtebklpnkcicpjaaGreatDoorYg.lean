/-
  What is proved here: parts bIc, bIp, bKa.
-/
import Derived.Test.YtebklpnkcicpjaaGreatDoorYa
import Derived.Test.YtebklpnkcicpjaaGreatDoorYf
import Derived.Test.YtebklpnkcicpjaaGreatDoorYb
import Derived.Test.YtebklpnkcicpjaaGreatDoorYe
namespace Go.Proofs.YtebklpnkcicpjaaGreatDoor
set_option linter.unusedVariables false
set_option linter.unusedSimpArgs false
set_option maxRecDepth 100000
set_option maxHeartbeats 8000000
section
open Go.RowKit
open Go.RowKit
def divC (x y : Int × Int) : List Int := [x.1.tdiv y.1, x.1.tdiv y.2, x.2.tdiv y.1, x.2.tdiv y.2]
def sO (x y : Int × Int) : List Int := (if y.1 < 0 then divC x (y.1, min y.2 (-1)) else []) ++ (if 0 < y.2 then divC x (max y.1 1, y.2) else [])
def j5 (x y : Int × Int) : Int × Int :=
 if y.1 = 0 ∧ y.2 = 0 then (1, 0) else if (x.1 ≤ -2147483648 ∧ -2147483648 ≤ x.2) ∧ (y.1 ≤ -1 ∧ -1 ≤ y.2) then (-2147483648, 2147483647) else aA (sO x y)
structure Div (w W : World) (xl xh pl ph : Int) (p : Nat) : Prop where
 below : Below w.heap.size w W
 bx : W.heap[w.heap.size]? = some (.cells #[.int .i32 xl, .int .i32 xh] 54 (0, 0))
 br : W.heap[w.heap.size + 1 + 1]? = some (.cells #[.int .i32 0, .int .i32 0] 54 (0, 0))
 bp : W.heap[p]? = some (.cells #[.int .i32 pl, .int .i32 ph] 54 (0, 0))
theorem lt_of_block {W : World} {k : Nat} {ob : Obj} (h : W.heap[k]? = some ob) : k < W.heap.size := by
 rcases Nat.lt_or_ge k W.heap.size with h' | h'
 ·exact h'
 ·rw [Array.getElem?_eq_none h'] at h; cases h
theorem cM {W : World} (ob : Obj) {k : Nat} {ob' : Obj} (h : W.heap[k]? = some ob') : (W.alloc ob).heap[k]? = some ob' := by
 have hlt := lt_of_block h
 show (W.heap.push ob)[k]? = _
 rw [Array.getElem?_push, if_neg (Nat.ne_of_lt hlt)]; exact h
theorem nt (W : World) (ob : Obj) : (W.alloc ob).heap[W.heap.size]? = some ob := by
 show (W.heap.push ob)[W.heap.size]? = _
 rw [Array.getElem?_push, if_pos rfl]
theorem kP {W W' : World} {ob : Obj} {B n k : Nat} {v : Value} {xs : List Value} {c : Array Value} (hk : W.heap[k]? = some (.cells c 54 (0, 0))) (hown : W.ownsRow B 2 1 v n xs) (hg : (W.alloc ob).grownBy W' v.ownBlock) : W'.heap[k]? = some (.cells c 54 (0, 0)) := by
 have hlt := lt_of_block hk
 rw [hg.block k Uc ?_]
 ·exact cM ob hk
 ·rcases hown.2 with ⟨rfl, _⟩ | ⟨g, cap, cur, rfl, _, hb, _⟩
  ·simp [Value.ownBlock]
  ·simp only [Value.ownBlock, ne_eq, Option.some.injEq]
   rintro rfl
   rw [hk] at hb
   simp at hb
theorem Div.grown {w W W' : World} {xl xh pl ph : Int} {p B n : Nat} {v : Value} {xs : List Value} {ob : Obj} (D : Div w W xl xh pl ph p) (hB : w.heap.size ≤ B) (hown : W.ownsRow B 2 1 v n xs) (hg : (W.alloc ob).grownBy W' v.ownBlock) : Div w W' xl xh pl ph p := by
 have hs := D.below.size
 refine ⟨(D.below.alloc hs ob).grown hg Uc ?_, kP D.bx hown hg, kP D.br hown hg, kP D.bp hown hg⟩
 intro k hk
 rcases hown.2 with ⟨rfl, _⟩ | ⟨g, cap, cur, rfl, hb, _⟩
 ·cases hk
 ·cases hk; exact Nat.le_trans hB hb
theorem fT {W : World} (y : Ext W) {k : Nat} {ob : Obj} (h : W.heap[k]? = some ob) : y.w.heap[k]? = some ob := by
 rw [y.h.block k (lt_of_block h)]; exact h
theorem ey {W : World} (y : Ext W) {B n size : Nat} {e : TypeId} {v : Value} {xs : List Value} (h : W.ownsRow B e size v n xs) : y.w.ownsRow B e size v n xs := by
 refine ⟨h.1, ?_⟩
 rcases h.2 with h0 | ⟨g, cap, cur, hv, hb, hk, hr⟩
 ·exact .inl h0
 ·exact .inr ⟨g, cap, cur, hv, hb, fT y hk, hr⟩
theorem Div.ext {w W : World} {xl xh pl ph : Int} {p B n : Nat} {v : Value} {xs : List Value} (D : Div w W xl xh pl ph p) (hown : W.ownsRow B 2 1 v n xs) (y : Ext W) : ∃ W', y.w = W' ∧ Div w W' xl xh pl ph p ∧ W'.ownsRow B 2 1 v n xs :=
 ⟨_, rfl, ⟨Ext.below D.below D.below.size y, fT y D.bx, fT y D.br, fT y D.bp⟩, ey y hown⟩
theorem Div.part {w W : World} {xl xh pl ph : Int} {p B n : Nat} {v : Value} {xs : List Value} (D : Div w W xl xh pl ph p) (hown : W.ownsRow B 2 1 v n xs) (ql qh : Int) : ∃ (W' : World) (q : Nat), W.alloc (.cells #[.int .i32 ql, .int .i32 qh] 54) = W' ∧ W.heap.size = q ∧ Div w W' xl xh ql qh q ∧ W'.ownsRow B 2 1 v n xs :=
 ⟨_, _, rfl, rfl, ⟨D.below.alloc D.below.size _, cM _ D.bx, cM _ D.br, nt _ _⟩, hown.alloc _⟩
theorem Div.cells {w W : World} {xl xh pl ph : Int} {p : Nat} (D : Div w W xl xh pl ph p) :
  W.cell? ⟨w.heap.size, 0, none⟩ = some (.int .i32 xl) ∧ W.cell? ⟨w.heap.size, 1, none⟩ = some (.int .i32 xh) ∧ W.cell? ⟨p, 0, none⟩ = some (.int .i32 pl) ∧ W.cell? ⟨p, 1, none⟩ = some (.int .i32 ph) ∧ w.heap.size < W.heap.size ∧ p < W.heap.size := by
 refine ⟨?_, ?_, ?_, ?_, lt_of_block D.bx, lt_of_block D.bp⟩ <;> simp [World.cell?, D.bx, D.bp]
theorem Div.result {w W : World} {xl xh pl ph : Int} {p : Nat} (D : Div w W xl xh pl ph p) :
  W.cell? ⟨w.heap.size + 1 + 1, 0, none⟩ = some (.int .i32 0) ∧ W.cell? ⟨w.heap.size + 1 + 1, 1, none⟩ = some (.int .i32 0) ∧ W.frozen? ⟨w.heap.size + 1 + 1, 0, none⟩ = false ∧ W.frozen? ⟨w.heap.size + 1 + 1, 1, none⟩ = false ∧ w.heap.size + 1 + 1 < W.heap.size := by
 refine ⟨?_, ?_, ?_, ?_, lt_of_block D.br⟩ <;> simp [World.cell?, World.frozen?, D.br]
theorem Div.bL {w W : World} {xl xh pl ph : Int} {p : Nat} (D : Div w W xl xh pl ph p) (ob : Obj) : w.heap.size ≤ (W.alloc ob).heap.size := by
 have := D.below.size; rw [World.size_alloc]; omega
theorem pM (xl xh yl yh a b c d : Int) (w : World) (y : Ext (((w.alloc (Obj.cells #[Value.int IntKind.i32 xl, Value.int IntKind.i32 xh] 54)).alloc (Obj.cells #[Value.int IntKind.i32 yl, Value.int IntKind.i32 yh] 54)).alloc (Obj.cells #[Value.int IntKind.i32 0, Value.int IntKind.i32 0] 54))) :
  ∃ W : World, (y.w.alloc (Obj.cells #[Value.int IntKind.i32 a, Value.int IntKind.i32 b] 54)).alloc (Obj.cells #[Value.int IntKind.i32 c, Value.int IntKind.i32 d] 54) = W ∧ Div w W xl xh xl xh w.heap.size := by
 have hs : w.heap.size + 1 + 1 + 1 ≤ y.w.heap.size := CL y.h
 have e1 : y.w.heap[w.heap.size]? = some (.cells #[.int .i32 xl, .int .i32 xh] 54 (0, 0)) := fT y (cM _ (cM _ (nt _ _)))
 have e2 : y.w.heap[w.heap.size + 1 + 1]? = some (.cells #[.int .i32 0, .int .i32 0] 54 (0, 0)) := fT y (by have := nt ((w.alloc (Obj.cells #[Value.int IntKind.i32 xl, Value.int IntKind.i32 xh] 54)).alloc (Obj.cells #[Value.int IntKind.i32 yl, Value.int IntKind.i32 yh] 54)) (Obj.cells #[Value.int IntKind.i32 0, Value.int IntKind.i32 0] 54); rw [World.size_alloc, World.size_alloc] at this; exact this)
 refine ⟨_, rfl, ?_, cM _ (cM _ e1), cM _ (cM _ e2), cM _ (cM _ e1)⟩
 exact UX
theorem cO (x y : Int) (h1 : -2147483648 ≤ x) (h2 : x ≤ 2147483647) : -2147483648 ≤ x.tdiv y ∧ x.tdiv y ≤ 2147483648 := by
 have h : (x.tdiv y).natAbs ≤ x.natAbs := by rw [Int.natAbs_tdiv]; exact Nat.div_le_self _ _
 omega
theorem Hj (a b c d : Int) (w : World) : (Instr.index 171 (.agg #[.int .i32 a, .int .i32 b, .int .i32 c, .int .i32 d]) (.int .i64 0)).run Tryz.prog w = .ok (.agg #[.int .i32 a, .int .i32 b]) w := by kernel_rfl
theorem Hi (a b c d : Int) (w : World) : (Instr.index 171 (.agg #[.int .i32 a, .int .i32 b, .int .i32 c, .int .i32 d]) (.int .i64 1)).run Tryz.prog w = .ok (.agg #[.int .i32 c, .int .i32 d]) w := by kernel_rfl
theorem Dj (xl xh yl yh : Int) (w : World) (hx1 : -2147483648 ≤ xl) (hx2 : xl ≤ 2147483647) (hx3 : -2147483648 ≤ xh) (hx4 : xh ≤ 2147483647) (hy1 : -2147483648 ≤ yl) (hy2 : yl ≤ 2147483647) (hy3 : -2147483648 ≤ yh) (hy4 : yh ≤ 2147483647) (nh pl : Int) (NH : Hid (min yh (-1) = nh)) (PL : Hid (max yl 1 = pl)) (Bf : Hid ((decide (xl ≤ -2147483648) && decide (-2147483648 ≤ xh)) = false) ∨ Hid ((decide (xl ≤ -2147483648) && decide (-2147483648 ≤ xh)) = true) ∧ Hid ((decide (yl ≤ -1) && decide (-1 ≤ yh)) = false)) (nz : (yl == 0 && yh == 0) = false) (n1 : -2147483648 ≤ nh) (n2 : nh ≤ 2147483647) (n3 : -2147483648 ≤ pl) (n4 : pl ≤ 2147483647) (q1 : yl ≤ nh) (q2 : nh ≤ -1) (q3 : yh < pl) (LK : Hid (decide (nh < yl) = false)) (LJ : Hid (decide (yh < pl) = true)) :
  Calls Tryz.prog 76 #[.agg #[.int .i32 xl, .int .i32 xh], .agg #[.int .i32 yl, .int .i32 yh]] w fun e w' => e = .returned (.agg #[.int .i32 (aA ([xl.tdiv yl, xl.tdiv nh, xh.tdiv yl, xh.tdiv nh])).1, .int .i32 (aA ([xl.tdiv yl, xl.tdiv nh, xh.tdiv yl, xh.tdiv nh])).2]) ∧ Below w.heap.size w w' := by
 obtain ⟨i0, hi, hz0, hz1, hz2⟩ := info_parts kf
 have J0 := ix0
 have JZ := ix1
 have OT := Hj
 have OS := Hi
 have e2 := fO
 have Q2 : (yl == 0) = false := by simp; omega
 have Kt := cO xl yl TX TX
 have Ky := cO xh yl TX TX
 have Q5 : (nh == 0) = false := by simp; omega
 have Kw := cO xl nh TX TX
 have KH := cO xh nh TX TX
 go_enter Tryz.func76, Tryz.ntmps76
 go_wp2_with fail
 refine ay TY TY ?_
 repeat (go_big_quiet_step ((go_at_call 34; exact Calls.au (cy _ _))))
 refine wpQuiet_nil ?_
 rintro _ ⟨x1, rfl⟩
 rcases Bf with BX | ⟨BX, BY⟩
 all_goals
  go_wp2_with (first | (go_at_call 104; (first | (with_reducible refine (Calls.au (ct (cm _ _ _ _) BX.out)).mono ?_) | (with_reducible refine (Calls.au (ct (cm _ _ _ _) BY.out)).mono ?_)); rintro e _ ⟨rfl, y, rfl⟩))
  obtain ⟨W, hW, D⟩ := pM xl xh yl yh yl (min yh (-1)) (max yl 1) yh w y
  rw [hW]
  clear hW
  have hown : W.ownsRow w.heap.size 2 1 (.slice none 0 0) 0 [] := ⟨rfl, .inl ⟨rfl, rfl⟩⟩
  rw [NH.out, PL.out]
  refine wp_loop_rounds 3 ?_
  rw [rounds_succ]
  go_wp2_with fail
  obtain ⟨P7, q0, hW, hq, Ea, qx⟩ := D.part hown (yl) (nh)
  rw [hW, hq]
  clear hW hq D hown
  obtain ⟨c1, c2, c3, c4, s1, s2⟩ := Ea.cells
  refine (Calls.ext (ct (af _ _ _) LK.out)).mono ?_
  rintro e _ ⟨rfl, y, rfl⟩
  obtain ⟨Me, hW, A3, qz⟩ := Ea.ext qx y
  rw [hW]
  clear hW Ea qx
  obtain ⟨c1, c2, c3, c4, s1, s2⟩ := A3.cells
  go_wp2_with fail
  refine wp_loop_rounds 3 ?_
  rw [rounds_succ]
  go_wp2_with fail
  refine wp_loop_rounds 3 ?_
  rw [rounds_succ]
  go_wp2_with (at_builtin; refine wpList_append_own _ rfl (.tmp 65) (.tmp 69) 153 rfl w.heap.size 2 i0 (.int .i64 0) 1 8 Tryz.underlying153 hi hz0 hz1 hz2 rfl T1 _ _ _ rfl (qz.alloc _) ⟨World.heap Me |>.size, 0, none⟩ 1 1 [.int .i64 (xl.tdiv yl)] rfl rfl (cell_one_new _ _ _) T2 T3 TX (A3.bL _) ?_; intro va0 KQ cL hgrow _)
  have yy := A3.grown (Nat.le_refl _) qz hgrow
  obtain ⟨c1, c2, c3, c4, s1, s2⟩ := yy.cells
  clear hgrow qz A3
  go_wp2_with fail
  rw [rounds_succ]
  go_wp2_with (at_builtin; refine wpList_append_own _ rfl (.tmp 65) (.tmp 69) 153 rfl w.heap.size 2 i0 (.int .i64 0) 1 8 Tryz.underlying153 hi hz0 hz1 hz2 rfl T1 _ _ _ rfl (cL.alloc _) ⟨World.heap KQ |>.size, 0, none⟩ 1 1 [.int .i64 (xl.tdiv nh)] rfl rfl (cell_one_new _ _ _) T2 T3 TX (yy.bL _) ?_; intro va1 KP hown1 hgrow _)
  have yx := yy.grown (Nat.le_refl _) cL hgrow
  obtain ⟨c1, c2, c3, c4, s1, s2⟩ := yx.cells
  clear hgrow cL yy
  go_wp2_with fail
  rw [rounds_succ]
  go_wp2_with fail
  rw [rounds_succ]
  go_wp2_with fail
  refine wp_loop_rounds 3 ?_
  rw [rounds_succ]
  go_wp2_with (at_builtin; refine wpList_append_own _ rfl (.tmp 65) (.tmp 69) 153 rfl w.heap.size 2 i0 (.int .i64 0) 1 8 Tryz.underlying153 hi hz0 hz1 hz2 rfl T1 _ _ _ rfl (hown1.alloc _) ⟨World.heap KP |>.size, 0, none⟩ 1 1 [.int .i64 (xh.tdiv yl)] rfl rfl (cell_one_new _ _ _) T2 T3 TX (yx.bL _) ?_; intro va2 KN hown2 hgrow _)
  have yw := yx.grown (Nat.le_refl _) hown1 hgrow
  obtain ⟨c1, c2, c3, c4, s1, s2⟩ := yw.cells
  clear hgrow hown1 yx
  go_wp2_with fail
  rw [rounds_succ]
  go_wp2_with (at_builtin; refine wpList_append_own _ rfl (.tmp 65) (.tmp 69) 153 rfl w.heap.size 2 i0 (.int .i64 0) 1 8 Tryz.underlying153 hi hz0 hz1 hz2 rfl T1 _ _ _ rfl (hown2.alloc _) ⟨World.heap KN |>.size, 0, none⟩ 1 1 [.int .i64 (xh.tdiv nh)] rfl rfl (cell_one_new _ _ _) T2 T3 TX (yw.bL _) ?_; intro va3 P8 eo hgrow _)
  have Bk := yw.grown (Nat.le_refl _) hown2 hgrow
  obtain ⟨c1, c2, c3, c4, s1, s2⟩ := Bk.cells
  clear hgrow hown2 yw
  go_wp2_with fail
  rw [rounds_succ]
  go_wp2_with fail
  rw [rounds_succ]
  go_wp2_with fail
  rw [rounds_succ]
  go_wp2_with fail
  obtain ⟨P6, q1, hW, hq, D9, sK⟩ := Bk.part eo (pl) (yh)
  rw [hW, hq]
  clear hW hq Bk eo
  obtain ⟨c1, c2, c3, c4, s1, s2⟩ := D9.cells
  refine (Calls.ext (ct (af _ _ _) LJ.out)).mono ?_
  rintro e _ ⟨rfl, y, rfl⟩
  obtain ⟨Md, hW, yu, qy⟩ := D9.ext sK y
  rw [hW]
  clear hW D9 sK
  obtain ⟨c1, c2, c3, c4, s1, s2⟩ := yu.cells
  go_wp2_with fail
  rw [rounds_succ]
  go_wp2_with fail
  obtain ⟨g, cap, hv, hg, hc⟩ := eM (l := [xl.tdiv yl, xl.tdiv nh, xh.tdiv yl, xh.tdiv nh]) rfl (by simpa using qy) T4
  rw [hv]
  obtain ⟨r1, r2, r3, r4, r5⟩ := yu.result
  have kB := yu.below
  clear hv qy yu
  refine (Calls.ext (gi g cap [xl.tdiv yl, xl.tdiv nh, xh.tdiv yl, xh.tdiv nh] _ T4 T4 hg hc)).mono ?_
  rintro e _ ⟨rfl, y5, rfl⟩
  clear hc
  go_wp2
  all_goals
   refine bodyPost_ret (v := .agg #[.int .i32 (aA [xl.tdiv yl, xl.tdiv nh, xh.tdiv yl, xh.tdiv nh]).1, .int .i32 (aA [xl.tdiv yl, xl.tdiv nh, xh.tdiv yl, xh.tdiv nh]).2]) ?hr rfl ⟨rfl, ?aB⟩
   case hr =>
    simp [results, Tryz.results76, go_sem, r1, r2, r5]
   case aB =>
    exact UY
theorem Di (xl xh yl yh : Int) (w : World) (hx1 : -2147483648 ≤ xl) (hx2 : xl ≤ 2147483647) (hx3 : -2147483648 ≤ xh) (hx4 : xh ≤ 2147483647) (hy1 : -2147483648 ≤ yl) (hy2 : yl ≤ 2147483647) (hy3 : -2147483648 ≤ yh) (hy4 : yh ≤ 2147483647) (nh pl : Int) (NH : Hid (min yh (-1) = nh)) (PL : Hid (max yl 1 = pl)) (Bf : Hid ((decide (xl ≤ -2147483648) && decide (-2147483648 ≤ xh)) = false) ∨ Hid ((decide (xl ≤ -2147483648) && decide (-2147483648 ≤ xh)) = true) ∧ Hid ((decide (yl ≤ -1) && decide (-1 ≤ yh)) = false)) (nz : (yl == 0 && yh == 0) = false) (n1 : -2147483648 ≤ nh) (n2 : nh ≤ 2147483647) (n3 : -2147483648 ≤ pl) (n4 : pl ≤ 2147483647) (q1 : nh < yl) (q2 : 1 ≤ pl) (q3 : pl ≤ yh) (LK : Hid (decide (nh < yl) = true)) (LJ : Hid (decide (yh < pl) = false)) :
  Calls Tryz.prog 76 #[.agg #[.int .i32 xl, .int .i32 xh], .agg #[.int .i32 yl, .int .i32 yh]] w fun e w' => e = .returned (.agg #[.int .i32 (aA ([xl.tdiv pl, xl.tdiv yh, xh.tdiv pl, xh.tdiv yh])).1, .int .i32 (aA ([xl.tdiv pl, xl.tdiv yh, xh.tdiv pl, xh.tdiv yh])).2]) ∧ Below w.heap.size w w' := by
 obtain ⟨i0, hi, hz0, hz1, hz2⟩ := info_parts kf
 have J0 := ix0
 have JZ := ix1
 have OT := Hj
 have OS := Hi
 have e2 := fO
 have Q4 : (pl == 0) = false := by simp; omega
 have Kv := cO xl pl TX TX
 have KF := cO xh pl TX TX
 have Q3 : (yh == 0) = false := by simp; omega
 have Ku := cO xl yh TX TX
 have Kz := cO xh yh TX TX
 go_enter Tryz.func76, Tryz.ntmps76
 go_wp2_with fail
 refine ay TY TY ?_
 repeat (go_big_quiet_step ((go_at_call 34; exact Calls.au (cy _ _))))
 refine wpQuiet_nil ?_
 rintro _ ⟨x1, rfl⟩
 rcases Bf with BX | ⟨BX, BY⟩
 all_goals
  go_wp2_with (first | (go_at_call 104; (first | (with_reducible refine (Calls.au (ct (cm _ _ _ _) BX.out)).mono ?_) | (with_reducible refine (Calls.au (ct (cm _ _ _ _) BY.out)).mono ?_)); rintro e _ ⟨rfl, y, rfl⟩))
  obtain ⟨W, hW, D⟩ := pM xl xh yl yh yl (min yh (-1)) (max yl 1) yh w y
  rw [hW]
  clear hW
  have hown : W.ownsRow w.heap.size 2 1 (.slice none 0 0) 0 [] := ⟨rfl, .inl ⟨rfl, rfl⟩⟩
  rw [NH.out, PL.out]
  refine wp_loop_rounds 3 ?_
  rw [rounds_succ]
  go_wp2_with fail
  obtain ⟨P7, q0, hW, hq, Ea, qx⟩ := D.part hown (yl) (nh)
  rw [hW, hq]
  clear hW hq D hown
  obtain ⟨c1, c2, c3, c4, s1, s2⟩ := Ea.cells
  refine (Calls.ext (ct (af _ _ _) LK.out)).mono ?_
  rintro e _ ⟨rfl, y, rfl⟩
  obtain ⟨Me, hW, A3, qz⟩ := Ea.ext qx y
  rw [hW]
  clear hW Ea qx
  obtain ⟨c1, c2, c3, c4, s1, s2⟩ := A3.cells
  go_wp2_with fail
  rw [rounds_succ]
  go_wp2_with fail
  obtain ⟨P6, q1, hW, hq, D9, sK⟩ := A3.part qz (pl) (yh)
  rw [hW, hq]
  clear hW hq A3 qz
  obtain ⟨c1, c2, c3, c4, s1, s2⟩ := D9.cells
  refine (Calls.ext (ct (af _ _ _) LJ.out)).mono ?_
  rintro e _ ⟨rfl, y, rfl⟩
  obtain ⟨Md, hW, yu, qy⟩ := D9.ext sK y
  rw [hW]
  clear hW D9 sK
  obtain ⟨c1, c2, c3, c4, s1, s2⟩ := yu.cells
  go_wp2_with fail
  refine wp_loop_rounds 3 ?_
  rw [rounds_succ]
  go_wp2_with fail
  refine wp_loop_rounds 3 ?_
  rw [rounds_succ]
  go_wp2_with (at_builtin; refine wpList_append_own _ rfl (.tmp 65) (.tmp 69) 153 rfl w.heap.size 2 i0 (.int .i64 0) 1 8 Tryz.underlying153 hi hz0 hz1 hz2 rfl T1 _ _ _ rfl (qy.alloc _) ⟨World.heap Md |>.size, 0, none⟩ 1 1 [.int .i64 (xl.tdiv pl)] rfl rfl (cell_one_new _ _ _) T2 T3 TX (yu.bL _) ?_; intro va0 KQ cL hgrow _)
  have yy := yu.grown (Nat.le_refl _) qy hgrow
  obtain ⟨c1, c2, c3, c4, s1, s2⟩ := yy.cells
  clear hgrow qy yu
  go_wp2_with fail
  rw [rounds_succ]
  go_wp2_with (at_builtin; refine wpList_append_own _ rfl (.tmp 65) (.tmp 69) 153 rfl w.heap.size 2 i0 (.int .i64 0) 1 8 Tryz.underlying153 hi hz0 hz1 hz2 rfl T1 _ _ _ rfl (cL.alloc _) ⟨World.heap KQ |>.size, 0, none⟩ 1 1 [.int .i64 (xl.tdiv yh)] rfl rfl (cell_one_new _ _ _) T2 T3 TX (yy.bL _) ?_; intro va1 KP hown1 hgrow _)
  have yx := yy.grown (Nat.le_refl _) cL hgrow
  obtain ⟨c1, c2, c3, c4, s1, s2⟩ := yx.cells
  clear hgrow cL yy
  go_wp2_with fail
  rw [rounds_succ]
  go_wp2_with fail
  rw [rounds_succ]
  go_wp2_with fail
  refine wp_loop_rounds 3 ?_
  rw [rounds_succ]
  go_wp2_with (at_builtin; refine wpList_append_own _ rfl (.tmp 65) (.tmp 69) 153 rfl w.heap.size 2 i0 (.int .i64 0) 1 8 Tryz.underlying153 hi hz0 hz1 hz2 rfl T1 _ _ _ rfl (hown1.alloc _) ⟨World.heap KP |>.size, 0, none⟩ 1 1 [.int .i64 (xh.tdiv pl)] rfl rfl (cell_one_new _ _ _) T2 T3 TX (yx.bL _) ?_; intro va2 KN hown2 hgrow _)
  have yw := yx.grown (Nat.le_refl _) hown1 hgrow
  obtain ⟨c1, c2, c3, c4, s1, s2⟩ := yw.cells
  clear hgrow hown1 yx
  go_wp2_with fail
  rw [rounds_succ]
  go_wp2_with (at_builtin; refine wpList_append_own _ rfl (.tmp 65) (.tmp 69) 153 rfl w.heap.size 2 i0 (.int .i64 0) 1 8 Tryz.underlying153 hi hz0 hz1 hz2 rfl T1 _ _ _ rfl (hown2.alloc _) ⟨World.heap KN |>.size, 0, none⟩ 1 1 [.int .i64 (xh.tdiv yh)] rfl rfl (cell_one_new _ _ _) T2 T3 TX (yw.bL _) ?_; intro va3 P8 eo hgrow _)
  have Bk := yw.grown (Nat.le_refl _) hown2 hgrow
  obtain ⟨c1, c2, c3, c4, s1, s2⟩ := Bk.cells
  clear hgrow hown2 yw
  go_wp2_with fail
  rw [rounds_succ]
  go_wp2_with fail
  rw [rounds_succ]
  go_wp2_with fail
  rw [rounds_succ]
  go_wp2_with fail
  obtain ⟨g, cap, hv, hg, hc⟩ := eM (l := [xl.tdiv pl, xl.tdiv yh, xh.tdiv pl, xh.tdiv yh]) rfl (by simpa using eo) T4
  rw [hv]
  obtain ⟨r1, r2, r3, r4, r5⟩ := Bk.result
  have kB := Bk.below
  clear hv eo Bk
  refine (Calls.ext (gi g cap [xl.tdiv pl, xl.tdiv yh, xh.tdiv pl, xh.tdiv yh] _ T4 T4 hg hc)).mono ?_
  rintro e _ ⟨rfl, y5, rfl⟩
  clear hc
  go_wp2
  all_goals
   refine bodyPost_ret (v := .agg #[.int .i32 (aA [xl.tdiv pl, xl.tdiv yh, xh.tdiv pl, xh.tdiv yh]).1, .int .i32 (aA [xl.tdiv pl, xl.tdiv yh, xh.tdiv pl, xh.tdiv yh]).2]) ?hr rfl ⟨rfl, ?aB⟩
   case hr =>
    simp [results, Tryz.results76, go_sem, r1, r2, r5]
   case aB =>
    exact UY
theorem Av (xl xh yl yh : Int) (w : World) (hx1 : -2147483648 ≤ xl) (hx2 : xl ≤ 2147483647) (hx3 : -2147483648 ≤ xh) (hx4 : xh ≤ 2147483647) (hy1 : -2147483648 ≤ yl) (hy2 : yl ≤ 2147483647) (hy3 : -2147483648 ≤ yh) (hy4 : yh ≤ 2147483647) (nh pl : Int) (NH : Hid (min yh (-1) = nh)) (PL : Hid (max yl 1 = pl)) (Bf : Hid ((decide (xl ≤ -2147483648) && decide (-2147483648 ≤ xh)) = false) ∨ Hid ((decide (xl ≤ -2147483648) && decide (-2147483648 ≤ xh)) = true) ∧ Hid ((decide (yl ≤ -1) && decide (-1 ≤ yh)) = false)) (nz : (yl == 0 && yh == 0) = false) (n1 : -2147483648 ≤ nh) (n2 : nh ≤ 2147483647) (n3 : -2147483648 ≤ pl) (n4 : pl ≤ 2147483647) (q1 : yl ≤ nh) (q2 : nh ≤ -1) (q3 : 1 ≤ pl) (q4 : pl ≤ yh) (LK : Hid (decide (nh < yl) = false)) (LJ : Hid (decide (yh < pl) = false)) :
  Calls Tryz.prog 76 #[.agg #[.int .i32 xl, .int .i32 xh], .agg #[.int .i32 yl, .int .i32 yh]] w fun e w' => e = .returned (.agg #[.int .i32 (aA ([xl.tdiv yl, xl.tdiv nh, xh.tdiv yl, xh.tdiv nh, xl.tdiv pl, xl.tdiv yh, xh.tdiv pl, xh.tdiv yh])).1, .int .i32 (aA ([xl.tdiv yl, xl.tdiv nh, xh.tdiv yl, xh.tdiv nh, xl.tdiv pl, xl.tdiv yh, xh.tdiv pl, xh.tdiv yh])).2]) ∧ Below w.heap.size w w' := by
 obtain ⟨i0, hi, hz0, hz1, hz2⟩ := info_parts kf
 have J0 := ix0
 have JZ := ix1
 have OT := Hj
 have OS := Hi
 have e2 := fO
 have Q2 : (yl == 0) = false := by simp; omega
 have Kt := cO xl yl TX TX
 have Ky := cO xh yl TX TX
 have Q5 : (nh == 0) = false := by simp; omega
 have Kw := cO xl nh TX TX
 have KH := cO xh nh TX TX
 have Q4 : (pl == 0) = false := by simp; omega
 have Kv := cO xl pl TX TX
 have KF := cO xh pl TX TX
 have Q3 : (yh == 0) = false := by simp; omega
 have Ku := cO xl yh TX TX
 have Kz := cO xh yh TX TX
 go_enter Tryz.func76, Tryz.ntmps76
 go_wp2_with fail
 refine ay TY TY ?_
 repeat (go_big_quiet_step ((go_at_call 34; exact Calls.au (cy _ _))))
 refine wpQuiet_nil ?_
 rintro _ ⟨x1, rfl⟩
 rcases Bf with BX | ⟨BX, BY⟩
 all_goals
  go_wp2_with (first | (go_at_call 104; (first | (with_reducible refine (Calls.au (ct (cm _ _ _ _) BX.out)).mono ?_) | (with_reducible refine (Calls.au (ct (cm _ _ _ _) BY.out)).mono ?_)); rintro e _ ⟨rfl, y, rfl⟩))
  obtain ⟨W, hW, D⟩ := pM xl xh yl yh yl (min yh (-1)) (max yl 1) yh w y
  rw [hW]
  clear hW
  have hown : W.ownsRow w.heap.size 2 1 (.slice none 0 0) 0 [] := ⟨rfl, .inl ⟨rfl, rfl⟩⟩
  rw [NH.out, PL.out]
  refine wp_loop_rounds 3 ?_
  rw [rounds_succ]
  go_wp2_with fail
  obtain ⟨P7, q0, hW, hq, Ea, qx⟩ := D.part hown (yl) (nh)
  rw [hW, hq]
  clear hW hq D hown
  obtain ⟨c1, c2, c3, c4, s1, s2⟩ := Ea.cells
  refine (Calls.ext (ct (af _ _ _) LK.out)).mono ?_
  rintro e _ ⟨rfl, y, rfl⟩
  obtain ⟨Me, hW, A3, qz⟩ := Ea.ext qx y
  rw [hW]
  clear hW Ea qx
  obtain ⟨c1, c2, c3, c4, s1, s2⟩ := A3.cells
  go_wp2_with fail
  refine wp_loop_rounds 3 ?_
  rw [rounds_succ]
  go_wp2_with fail
  refine wp_loop_rounds 3 ?_
  rw [rounds_succ]
  go_wp2_with (at_builtin; refine wpList_append_own _ rfl (.tmp 65) (.tmp 69) 153 rfl w.heap.size 2 i0 (.int .i64 0) 1 8 Tryz.underlying153 hi hz0 hz1 hz2 rfl T1 _ _ _ rfl (qz.alloc _) ⟨World.heap Me |>.size, 0, none⟩ 1 1 [.int .i64 (xl.tdiv yl)] rfl rfl (cell_one_new _ _ _) T2 T3 TX (A3.bL _) ?_; intro va0 KQ cL hgrow _)
  have yy := A3.grown (Nat.le_refl _) qz hgrow
  obtain ⟨c1, c2, c3, c4, s1, s2⟩ := yy.cells
  clear hgrow qz A3
  go_wp2_with fail
  rw [rounds_succ]
  go_wp2_with (at_builtin; refine wpList_append_own _ rfl (.tmp 65) (.tmp 69) 153 rfl w.heap.size 2 i0 (.int .i64 0) 1 8 Tryz.underlying153 hi hz0 hz1 hz2 rfl T1 _ _ _ rfl (cL.alloc _) ⟨World.heap KQ |>.size, 0, none⟩ 1 1 [.int .i64 (xl.tdiv nh)] rfl rfl (cell_one_new _ _ _) T2 T3 TX (yy.bL _) ?_; intro va1 KP hown1 hgrow _)
  have yx := yy.grown (Nat.le_refl _) cL hgrow
  obtain ⟨c1, c2, c3, c4, s1, s2⟩ := yx.cells
  clear hgrow cL yy
  go_wp2_with fail
  rw [rounds_succ]
  go_wp2_with fail
  rw [rounds_succ]
  go_wp2_with fail
  refine wp_loop_rounds 3 ?_
  rw [rounds_succ]
  go_wp2_with (at_builtin; refine wpList_append_own _ rfl (.tmp 65) (.tmp 69) 153 rfl w.heap.size 2 i0 (.int .i64 0) 1 8 Tryz.underlying153 hi hz0 hz1 hz2 rfl T1 _ _ _ rfl (hown1.alloc _) ⟨World.heap KP |>.size, 0, none⟩ 1 1 [.int .i64 (xh.tdiv yl)] rfl rfl (cell_one_new _ _ _) T2 T3 TX (yx.bL _) ?_; intro va2 KN hown2 hgrow _)
  have yw := yx.grown (Nat.le_refl _) hown1 hgrow
  obtain ⟨c1, c2, c3, c4, s1, s2⟩ := yw.cells
  clear hgrow hown1 yx
  go_wp2_with fail
  rw [rounds_succ]
  go_wp2_with (at_builtin; refine wpList_append_own _ rfl (.tmp 65) (.tmp 69) 153 rfl w.heap.size 2 i0 (.int .i64 0) 1 8 Tryz.underlying153 hi hz0 hz1 hz2 rfl T1 _ _ _ rfl (hown2.alloc _) ⟨World.heap KN |>.size, 0, none⟩ 1 1 [.int .i64 (xh.tdiv nh)] rfl rfl (cell_one_new _ _ _) T2 T3 TX (yw.bL _) ?_; intro va3 P8 eo hgrow _)
  have Bk := yw.grown (Nat.le_refl _) hown2 hgrow
  obtain ⟨c1, c2, c3, c4, s1, s2⟩ := Bk.cells
  clear hgrow hown2 yw
  go_wp2_with fail
  rw [rounds_succ]
  go_wp2_with fail
  rw [rounds_succ]
  go_wp2_with fail
  rw [rounds_succ]
  go_wp2_with fail
  obtain ⟨P6, q1, hW, hq, D9, sK⟩ := Bk.part eo (pl) (yh)
  rw [hW, hq]
  clear hW hq Bk eo
  obtain ⟨c1, c2, c3, c4, s1, s2⟩ := D9.cells
  refine (Calls.ext (ct (af _ _ _) LJ.out)).mono ?_
  rintro e _ ⟨rfl, y, rfl⟩
  obtain ⟨Md, hW, yu, qy⟩ := D9.ext sK y
  rw [hW]
  clear hW D9 sK
  obtain ⟨c1, c2, c3, c4, s1, s2⟩ := yu.cells
  go_wp2_with fail
  refine wp_loop_rounds 3 ?_
  rw [rounds_succ]
  go_wp2_with fail
  refine wp_loop_rounds 3 ?_
  rw [rounds_succ]
  go_wp2_with (at_builtin; refine wpList_append_own _ rfl (.tmp 65) (.tmp 69) 153 rfl w.heap.size 2 i0 (.int .i64 0) 1 8 Tryz.underlying153 hi hz0 hz1 hz2 rfl T1 _ _ _ rfl (qy.alloc _) ⟨World.heap Md |>.size, 0, none⟩ 1 1 [.int .i64 (xl.tdiv pl)] rfl rfl (cell_one_new _ _ _) T2 T3 TX (yu.bL _) ?_; intro va4 Sm gC hgrow _)
  have MF := yu.grown (Nat.le_refl _) qy hgrow
  obtain ⟨c1, c2, c3, c4, s1, s2⟩ := MF.cells
  clear hgrow qy yu
  go_wp2_with fail
  rw [rounds_succ]
  go_wp2_with (at_builtin; refine wpList_append_own _ rfl (.tmp 65) (.tmp 69) 153 rfl w.heap.size 2 i0 (.int .i64 0) 1 8 Tryz.underlying153 hi hz0 hz1 hz2 rfl T1 _ _ _ rfl (gC.alloc _) ⟨World.heap Sm |>.size, 0, none⟩ 1 1 [.int .i64 (xl.tdiv yh)] rfl rfl (cell_one_new _ _ _) T2 T3 TX (MF.bL _) ?_; intro va5 Sl CY hgrow _)
  have ME := MF.grown (Nat.le_refl _) gC hgrow
  obtain ⟨c1, c2, c3, c4, s1, s2⟩ := ME.cells
  clear hgrow gC MF
  go_wp2_with fail
  rw [rounds_succ]
  go_wp2_with fail
  rw [rounds_succ]
  go_wp2_with fail
  refine wp_loop_rounds 3 ?_
  rw [rounds_succ]
  go_wp2_with (at_builtin; refine wpList_append_own _ rfl (.tmp 65) (.tmp 69) 153 rfl w.heap.size 2 i0 (.int .i64 0) 1 8 Tryz.underlying153 hi hz0 hz1 hz2 rfl T1 _ _ _ rfl (CY.alloc _) ⟨World.heap Sl |>.size, 0, none⟩ 1 1 [.int .i64 (xh.tdiv pl)] rfl rfl (cell_one_new _ _ _) T2 T3 TX (ME.bL _) ?_; intro va6 Sk CX hgrow _)
  have MD := ME.grown (Nat.le_refl _) CY hgrow
  obtain ⟨c1, c2, c3, c4, s1, s2⟩ := MD.cells
  clear hgrow CY ME
  go_wp2_with fail
  rw [rounds_succ]
  go_wp2_with (at_builtin; refine wpList_append_own _ rfl (.tmp 65) (.tmp 69) 153 rfl w.heap.size 2 i0 (.int .i64 0) 1 8 Tryz.underlying153 hi hz0 hz1 hz2 rfl T1 _ _ _ rfl (CX.alloc _) ⟨World.heap Sk |>.size, 0, none⟩ 1 1 [.int .i64 (xh.tdiv yh)] rfl rfl (cell_one_new _ _ _) T2 T3 TX (MD.bL _) ?_; intro va7 TT Gk hgrow _)
  have MC := MD.grown (Nat.le_refl _) CX hgrow
  obtain ⟨c1, c2, c3, c4, s1, s2⟩ := MC.cells
  clear hgrow CX MD
  go_wp2_with fail
  rw [rounds_succ]
  go_wp2_with fail
  rw [rounds_succ]
  go_wp2_with fail
  rw [rounds_succ]
  go_wp2_with fail
  obtain ⟨g, cap, hv, hg, hc⟩ := eM (l := [xl.tdiv yl, xl.tdiv nh, xh.tdiv yl, xh.tdiv nh, xl.tdiv pl, xl.tdiv yh, xh.tdiv pl, xh.tdiv yh]) rfl (by simpa using Gk) T4
  rw [hv]
  obtain ⟨r1, r2, r3, r4, r5⟩ := MC.result
  have kB := MC.below
  clear hv Gk MC
  refine (Calls.ext (gi g cap [xl.tdiv yl, xl.tdiv nh, xh.tdiv yl, xh.tdiv nh, xl.tdiv pl, xl.tdiv yh, xh.tdiv pl, xh.tdiv yh] _ T4 T4 hg hc)).mono ?_
  rintro e _ ⟨rfl, y5, rfl⟩
  clear hc
  go_wp2
  all_goals
   refine bodyPost_ret (v := .agg #[.int .i32 (aA [xl.tdiv yl, xl.tdiv nh, xh.tdiv yl, xh.tdiv nh, xl.tdiv pl, xl.tdiv yh, xh.tdiv pl, xh.tdiv yh]).1, .int .i32 (aA [xl.tdiv yl, xl.tdiv nh, xh.tdiv yl, xh.tdiv nh, xl.tdiv pl, xl.tdiv yh, xh.tdiv pl, xh.tdiv yh]).2]) ?hr rfl ⟨rfl, ?aB⟩
   case hr =>
    simp [results, Tryz.results76, go_sem, r1, r2, r5]
   case aB =>
    exact UY
theorem uU (xl xh yl yh : Int) (w : World) (nz : (yl == 0 && yh == 0) = true) (BX : True) (BY : True) :
  Calls Tryz.prog 76 #[.agg #[.int .i32 xl, .int .i32 xh], .agg #[.int .i32 yl, .int .i32 yh]] w fun e w' => e = .returned (.agg #[.int .i32 (1), .int .i32 (0)]) ∧ Below w.heap.size w w' := by
 have e2 := fO
 go_enter Tryz.func76, Tryz.ntmps76
 go_wp2_with fail
 refine ay TY TY ?_
 repeat (go_big_quiet_step ((go_at_call 34; exact Calls.au (cy _ _))))
 refine wpQuiet_nil ?_
 rintro _ ⟨x1, rfl⟩
 go_wp2_with (first | (go_at_call 49; ((first | (with_reducible refine (Calls.au (av _)).mono ?_) | (refine (Calls.ext (av _)).mono ?_)); rintro e _ ⟨rfl, y, rfl⟩)) | (go_at_call 37; ((first | (with_reducible refine (Calls.au (bC _)).mono ?_) | (refine (Calls.ext (bC _)).mono ?_)); rintro e _ ⟨rfl, y, rfl⟩)) | (go_at_call 104; (first | (with_reducible refine (Calls.au (ct (cm _ _ _ _) BX.out)).mono ?_) | (with_reducible refine (Calls.au (ct (cm _ _ _ _) BY.out)).mono ?_)); rintro e _ ⟨rfl, y, rfl⟩))
 all_goals
  refine bodyPost_ret (v := .agg #[.int .i32 (1), .int .i32 (0)]) ?hr rfl ⟨rfl, ?aB⟩
  case hr =>
   simp [results, Tryz.results76, go_sem]
  case aB =>
   exact UX
theorem uV (xl xh yl yh : Int) (w : World) (nz : (yl == 0 && yh == 0) = false) (BX : Hid ((decide (xl ≤ -2147483648) && decide (-2147483648 ≤ xh)) = true)) (BY : Hid ((decide (yl ≤ -1) && decide (-1 ≤ yh)) = true)) :
  Calls Tryz.prog 76 #[.agg #[.int .i32 xl, .int .i32 xh], .agg #[.int .i32 yl, .int .i32 yh]] w fun e w' => e = .returned (.agg #[.int .i32 (-2147483648), .int .i32 (2147483647)]) ∧ Below w.heap.size w w' := by
 have e2 := fO
 go_enter Tryz.func76, Tryz.ntmps76
 go_wp2_with fail
 refine ay TY TY ?_
 repeat (go_big_quiet_step ((go_at_call 34; exact Calls.au (cy _ _))))
 refine wpQuiet_nil ?_
 rintro _ ⟨x1, rfl⟩
 go_wp2_with (first | (go_at_call 49; ((first | (with_reducible refine (Calls.au (av _)).mono ?_) | (refine (Calls.ext (av _)).mono ?_)); rintro e _ ⟨rfl, y, rfl⟩)) | (go_at_call 37; ((first | (with_reducible refine (Calls.au (bC _)).mono ?_) | (refine (Calls.ext (bC _)).mono ?_)); rintro e _ ⟨rfl, y, rfl⟩)) | (go_at_call 104; (first | (with_reducible refine (Calls.au (ct (cm _ _ _ _) BX.out)).mono ?_) | (with_reducible refine (Calls.au (ct (cm _ _ _ _) BY.out)).mono ?_)); rintro e _ ⟨rfl, y, rfl⟩))
 all_goals
  refine bodyPost_ret (v := .agg #[.int .i32 (-2147483648), .int .i32 (2147483647)]) ?hr rfl ⟨rfl, ?aB⟩
  case hr =>
   simp [results, Tryz.results76, go_sem]
  case aB =>
   exact UX
theorem xw (xl xh yl yh : Int) (w : World) (hx1 : -2147483648 ≤ xl) (hx2 : xl ≤ 2147483647) (hx3 : -2147483648 ≤ xh) (hx4 : xh ≤ 2147483647) (hy1 : -2147483648 ≤ yl) (hy2 : yl ≤ 2147483647) (hy3 : -2147483648 ≤ yh) (hy4 : yh ≤ 2147483647) (he : xl ≤ xh) (he' : yl ≤ yh) :
  Calls Tryz.prog 76 #[.agg #[.int .i32 xl, .int .i32 xh], .agg #[.int .i32 yl, .int .i32 yh]] w fun e w' => e = .returned (.agg #[.int .i32 (j5 (xl, xh) (yl, yh)).1, .int .i32 (j5 (xl, xh) (yl, yh)).2]) ∧ Below w.heap.size w w' := by
 by_cases z : yl = 0 ∧ yh = 0
 ·refine (uU xl xh yl yh w (by simpa using z) trivial trivial).mono fun e' w' ⟨q, hb⟩ => ⟨q.trans ?_, hb⟩
  rw [j5, if_pos z]
 ·have nz : (yl == 0 && yh == 0) = false := by simpa using z
  have Q9 : yl < 0 ∨ 0 < yh := by omega
  by_cases b : (xl ≤ -2147483648 ∧ -2147483648 ≤ xh) ∧ (yl ≤ -1 ∧ -1 ≤ yh)
  ·refine (uV xl xh yl yh w nz (UZ (by simpa using b.1)) (UZ (by simpa using b.2))).mono fun e' w' ⟨q, hb⟩ => ⟨q.trans ?_, hb⟩
   rw [j5, if_neg z, if_pos b]
  ·have ev : j5 (xl, xh) (yl, yh) = aA (sO (xl, xh) (yl, yh)) := by rw [j5, if_neg z, if_neg b]
   rw [ev]
   have Bf : Hid ((decide (xl ≤ -2147483648) && decide (-2147483648 ≤ xh)) = false) ∨ Hid ((decide (xl ≤ -2147483648) && decide (-2147483648 ≤ xh)) = true) ∧ Hid ((decide (yl ≤ -1) && decide (-1 ≤ yh)) = false) := by
    by_cases bx : xl ≤ -2147483648 ∧ -2147483648 ≤ xh
    ·have Sh : ¬ (yl ≤ -1 ∧ -1 ≤ yh) := fun h => b ⟨bx, h⟩
     exact .inr ⟨UZ (by simpa using bx), UZ (by simpa using Sh)⟩
    ·exact .inl (UZ (by simpa using bx))
   by_cases c1 : yl < 0
   ·by_cases c2 : 0 < yh
    ·refine (Av xl xh yl yh w hx1 hx2 hx3 hx4 hy1 hy2 hy3 hy4 (min yh (-1)) (max yl 1) (UZ rfl) (UZ rfl) Bf nz TX TX TX TX TX TX TX TX (UZ Ui) (UZ Ui)).mono fun e' w' ⟨q, hb⟩ => ⟨q.trans (gY (congrArg aA ?_)), hb⟩
     simp [sO, divC, c1, c2]
    ·refine (Dj xl xh yl yh w hx1 hx2 hx3 hx4 hy1 hy2 hy3 hy4 (min yh (-1)) (max yl 1) (UZ rfl) (UZ rfl) Bf nz TX TX TX TX TX TX TX (UZ Ui) (UZ Ui)).mono fun e' w' ⟨q, hb⟩ => ⟨q.trans (gY (congrArg aA ?_)), hb⟩
     simp [sO, divC, c1, c2]
   ·have c2 : 0 < yh := by omega
    refine (Di xl xh yl yh w hx1 hx2 hx3 hx4 hy1 hy2 hy3 hy4 (min yh (-1)) (max yl 1) (UZ rfl) (UZ rfl) Bf nz TX TX TX TX TX TX TX (UZ Ui) (UZ Ui)).mono fun e' w' ⟨q, hb⟩ => ⟨q.trans (gY (congrArg aA ?_)), hb⟩
    simp [sO, divC, c1, c2]
def gz (op : Int) (x y : Int × Int) : Int × Int :=
 if op = 6 then aA [x.1 + y.1, x.1 + y.2, x.2 + y.1, x.2 + y.2] else if op = 7 then aA [x.1 - y.1, x.1 - y.2, x.2 - y.1, x.2 - y.2]
 else if op = 8 then aA [x.1 * y.1, x.1 * y.2, x.2 * y.1, x.2 * y.2] else if op = 9 then j5 x y else if op = 10 then eJ x y
 else if op ≤ 13 then ni op x y else if op ≤ 15 then rZ op x y else if op ≤ 21 then Dl op x y else CB op x y
theorem AO (op xl xh yl yh : Int) (w : World) (hx1 : -2147483648 ≤ xl) (hx2 : xl ≤ 2147483647) (hx3 : -2147483648 ≤ xh) (hx4 : xh ≤ 2147483647) (hy1 : -2147483648 ≤ yl) (hy2 : yl ≤ 2147483647) (hy3 : -2147483648 ≤ yh) (hy4 : yh ≤ 2147483647) (hop : op = 9 ∨ (11 ≤ op ∧ op ≤ 23)) (gw : xl ≤ xh) (fN : yl ≤ yh) (hs : ¬ (xl = xh ∧ yl = yh)) :
  Calls Tryz.prog 35 #[.int .u8 op, .agg #[.int .i32 xl, .int .i32 xh], .agg #[.int .i32 yl, .int .i32 yh]] w fun e w' => e = .returned (.agg #[.int .i32 (gz op (xl, xh) (yl, yh)).1, .int .i32 (gz op (xl, xh) (yl, yh)).2]) ∧ Below w.heap.size w w' := by
 obtain ⟨g1, hg1⟩ : ∃ g, (gz op (xl, xh) (yl, yh)).1 = g := ⟨_, rfl⟩
 obtain ⟨g2, hg2⟩ : ∃ g, (gz op (xl, xh) (yl, yh)).2 = g := ⟨_, rfl⟩
 have HD := UZ (fun (h : op = 9) (W : World) => show Calls Tryz.prog 76 #[.agg #[.int .i32 xl, .int .i32 xh], .agg #[.int .i32 yl, .int .i32 yh]] W fun e w' => e = .returned (.agg #[.int .i32 g1, .int .i32 g2]) ∧ Below W.heap.size W w' by
  have hc := xw xl xh yl yh W hx1 hx2 hx3 hx4 hy1 hy2 hy3 hy4 gw fN
  rw [show j5 (xl, xh) (yl, yh) = gz op (xl, xh) (yl, yh) by unfold gz; rw [if_neg TX, if_neg TX, if_neg TX, if_pos h], hg1, hg2] at hc
  exact hc)
 have HB := UZ (fun (h : 11 ≤ op ∧ op ≤ 13) (W : World) => show Calls Tryz.prog 78 #[.int .u8 op, .agg #[.int .i32 xl, .int .i32 xh], .agg #[.int .i32 yl, .int .i32 yh]] W fun e w' => e = .returned (.agg #[.int .i32 g1, .int .i32 g2]) ∧ Below W.heap.size W w' by
  have hc := u6 op xl xh yl yh W hx3 hx4 hy3 hy4 h.1 h.2 gw fN
  rw [show ni op (xl, xh) (yl, yh) = gz op (xl, xh) (yl, yh) by unfold gz; rw [if_neg TX, if_neg TX, if_neg TX, if_neg TX, if_neg TX, if_pos TX], hg1, hg2] at hc
  exact hc)
 have HS := UZ (fun (h : 14 ≤ op ∧ op ≤ 15) (W : World) => show Calls Tryz.prog 79 #[.int .u8 op, .agg #[.int .i32 xl, .int .i32 xh], .agg #[.int .i32 yl, .int .i32 yh]] W fun e w' => e = .returned (.agg #[.int .i32 g1, .int .i32 g2]) ∧ Below W.heap.size W w' by
  have hc := yX op xl xh yl yh W hx1 hx2 hx3 hx4 hy1 hy2 h.1 h.2
  rw [show rZ op (xl, xh) (yl, yh) = gz op (xl, xh) (yl, yh) by unfold gz; rw [if_neg TX, if_neg TX, if_neg TX, if_neg TX, if_neg TX, if_neg TX, if_pos TX], hg1, hg2] at hc
  exact hc)
 have HC := UZ (fun (h : 16 ≤ op ∧ op ≤ 21) (W : World) => show Calls Tryz.prog 81 #[.int .u8 op, .agg #[.int .i32 xl, .int .i32 xh], .agg #[.int .i32 yl, .int .i32 yh]] W fun e w' => e = .returned (.agg #[.int .i32 g1, .int .i32 g2]) ∧ Below W.heap.size W w' by
  have hc := uX op xl xh yl yh W h.1 h.2
  rw [show Dl op (xl, xh) (yl, yh) = gz op (xl, xh) (yl, yh) by unfold gz; rw [if_neg TX, if_neg TX, if_neg TX, if_neg TX, if_neg TX, if_neg TX, if_neg TX, if_pos TX], hg1, hg2] at hc
  exact hc)
 have HL := UZ (fun (h : 22 ≤ op ∧ op ≤ 23) (W : World) => show Calls Tryz.prog 80 #[.int .u8 op, .agg #[.int .i32 xl, .int .i32 xh], .agg #[.int .i32 yl, .int .i32 yh]] W fun e w' => e = .returned (.agg #[.int .i32 g1, .int .i32 g2]) ∧ Below W.heap.size W w' by
  have hc := z7 op xl xh yl yh W h.1 h.2
  rw [show CB op (xl, xh) (yl, yh) = gz op (xl, xh) (yl, yh) by unfold gz; rw [if_neg TX, if_neg TX, if_neg TX, if_neg TX, if_neg TX, if_neg TX, if_neg TX, if_neg TX], hg1, hg2] at hc
  exact hc)
 have S3 := UZ hg1
 have FU := UZ hg2
 have d1 : decide (xh < xl) = false := by simp; omega
 have d2 : decide (yh < yl) = false := by simp; omega
 have hq : (xl == xh) = false ∨ ((xl == xh) = true ∧ (yl == yh) = false) := by simp; omega
 have h13 : op = 9 ∨ op = 11 ∨ op = 12 ∨ op = 13 ∨ op = 14 ∨ op = 15 ∨ op = 16 ∨ op = 17 ∨ op = 18 ∨ op = 19 ∨ op = 20 ∨ op = 21 ∨ op = 22 ∨ op = 23 := by omega
 clear hg1 hg2 gw fN hs hop
 rcases h13 with rfl | rfl | rfl | rfl | rfl | rfl | rfl | rfl | rfl | rfl | rfl | rfl | rfl | rfl <;> rcases hq with hq | ⟨hq, hq2⟩
 all_goals
  go_enter Tryz.func35, Tryz.ntmps35
  go_wp2_with (first | (go_at_call 39; ((first | (with_reducible refine (Calls.au (af _ _ _)).mono ?_) | (refine (Calls.ext (af _ _ _)).mono ?_)); rintro e _ ⟨rfl, y, rfl⟩)) | (go_at_call 73; ((first | (with_reducible refine (Calls.au (aI _ _ _)).mono ?_) | (refine (Calls.ext (aI _ _ _)).mono ?_)); rintro e _ ⟨rfl, y, rfl⟩)) | (go_at_call 76; ((first | (with_reducible refine (Calls.au (HD.out T1 _)).mono ?_) | (refine (Calls.ext (HD.out T1 _)).mono ?_)); rintro e _ ⟨rfl, y, rfl⟩)) | (go_at_call 78; ((first | (with_reducible refine (Calls.au (HB.out T1 _)).mono ?_) | (refine (Calls.ext (HB.out T1 _)).mono ?_)); rintro e _ ⟨rfl, y, rfl⟩)) | (go_at_call 79; ((first | (with_reducible refine (Calls.au (HS.out T1 _)).mono ?_) | (refine (Calls.ext (HS.out T1 _)).mono ?_)); rintro e _ ⟨rfl, y, rfl⟩)) | (go_at_call 81; ((first | (with_reducible refine (Calls.au (HC.out T1 _)).mono ?_) | (refine (Calls.ext (HC.out T1 _)).mono ?_)); rintro e _ ⟨rfl, y, rfl⟩)) | (go_at_call 80; ((first | (with_reducible refine (Calls.au (HL.out T1 _)).mono ?_) | (refine (Calls.ext (HL.out T1 _)).mono ?_)); rintro e _ ⟨rfl, y, rfl⟩)))
  all_goals
   refine bodyPost_ret (v := .agg #[.int .i32 g1, .int .i32 g2]) ?hr rfl ⟨by rw [S3.out, FU.out], ?aB⟩
   case hr =>
    simp [results, Tryz.results35, go_sem]
   case aB =>
    exact UX
theorem sP (op xl xh yl yh : Int) (w : World) (h : op < 6) :
  Calls Tryz.prog 35 #[.int .u8 op, .agg #[.int .i32 xl, .int .i32 xh], .agg #[.int .i32 yl, .int .i32 yh]] w fun e w' => e = .returned (.agg #[.int .i32 (-2147483648), .int .i32 2147483647]) ∧ Below w.heap.size w w' := by
 have d1 : decide (op < 6) = true := by simpa using h
 go_enter Tryz.func35, Tryz.ntmps35
 go_wp2_with (first | (go_at_call 37; ((first | (with_reducible refine (Calls.au (bC _)).mono ?_) | (refine (Calls.ext (bC _)).mono ?_)); rintro e _ ⟨rfl, y, rfl⟩)))
 all_goals
  refine bodyPost_ret (v := .agg #[.int .i32 (-2147483648), .int .i32 2147483647]) ?hr rfl ⟨rfl, ?aB⟩
  case hr =>
   simp [results, Tryz.results35, go_sem]
  case aB =>
   exact UX
theorem sQ (op xl xh yl yh : Int) (w : World) (h : 23 < op) :
  Calls Tryz.prog 35 #[.int .u8 op, .agg #[.int .i32 xl, .int .i32 xh], .agg #[.int .i32 yl, .int .i32 yh]] w fun e w' => e = .returned (.agg #[.int .i32 (-2147483648), .int .i32 2147483647]) ∧ Below w.heap.size w w' := by
 have d1 : decide (op < 6) = false := by simp; omega
 have d2 : decide (23 < op) = true := by simpa using h
 go_enter Tryz.func35, Tryz.ntmps35
 go_wp2_with (first | (go_at_call 37; ((first | (with_reducible refine (Calls.au (bC _)).mono ?_) | (refine (Calls.ext (bC _)).mono ?_)); rintro e _ ⟨rfl, y, rfl⟩)))
 all_goals
  refine bodyPost_ret (v := .agg #[.int .i32 (-2147483648), .int .i32 2147483647]) ?hr rfl ⟨rfl, ?aB⟩
  case hr =>
   simp [results, Tryz.results35, go_sem]
  case aB =>
   exact UX
theorem vg (op xl xh yl yh : Int) (w : World) (h1 : 6 ≤ op) (h2 : op ≤ 23) (h : xh < xl) :
  Calls Tryz.prog 35 #[.int .u8 op, .agg #[.int .i32 xl, .int .i32 xh], .agg #[.int .i32 yl, .int .i32 yh]] w fun e w' => e = .returned (.agg #[.int .i32 1, .int .i32 0]) ∧ Below w.heap.size w w' := by
 have d1 : decide (op < 6) = false := by simp; omega
 have d2 : decide (23 < op) = false := by simp; omega
 have d3 : decide (xh < xl) = true := by simpa using h
 go_enter Tryz.func35, Tryz.ntmps35
 go_wp2_with (first | (go_at_call 39; ((first | (with_reducible refine (Calls.au (af _ _ _)).mono ?_) | (refine (Calls.ext (af _ _ _)).mono ?_)); rintro e _ ⟨rfl, y, rfl⟩)) | (go_at_call 49; ((first | (with_reducible refine (Calls.au (av _)).mono ?_) | (refine (Calls.ext (av _)).mono ?_)); rintro e _ ⟨rfl, y, rfl⟩)))
 all_goals
  refine bodyPost_ret (v := .agg #[.int .i32 1, .int .i32 0]) ?hr rfl ⟨rfl, ?aB⟩
  case hr =>
   simp [results, Tryz.results35, go_sem]
  case aB =>
   exact UX
theorem ve (op xl xh yl yh : Int) (w : World) (h1 : 6 ≤ op) (h2 : op ≤ 23) (h : ¬ xh < xl) (h' : yh < yl) :
  Calls Tryz.prog 35 #[.int .u8 op, .agg #[.int .i32 xl, .int .i32 xh], .agg #[.int .i32 yl, .int .i32 yh]] w fun e w' => e = .returned (.agg #[.int .i32 1, .int .i32 0]) ∧ Below w.heap.size w w' := by
 have d1 : decide (op < 6) = false := by simp; omega
 have d2 : decide (23 < op) = false := by simp; omega
 have d3 : decide (xh < xl) = false := by simpa using h
 have d4 : decide (yh < yl) = true := by simpa using h'
 go_enter Tryz.func35, Tryz.ntmps35
 go_wp2_with (first | (go_at_call 39; ((first | (with_reducible refine (Calls.au (af _ _ _)).mono ?_) | (refine (Calls.ext (af _ _ _)).mono ?_)); rintro e _ ⟨rfl, y, rfl⟩)) | (go_at_call 49; ((first | (with_reducible refine (Calls.au (av _)).mono ?_) | (refine (Calls.ext (av _)).mono ?_)); rintro e _ ⟨rfl, y, rfl⟩)))
 all_goals
  refine bodyPost_ret (v := .agg #[.int .i32 1, .int .i32 0]) ?hr rfl ⟨rfl, ?aB⟩
  case hr =>
   simp [results, Tryz.results35, go_sem]
  case aB =>
   exact UX
theorem nQ (op n m : Int) (w : World) (h1 : 6 ≤ op) (h2 : op ≤ 23) (hn : aK n) (hm : aK m) (we0 : (we op m != 0) = false) :
  Calls Tryz.prog 35 #[.int .u8 op, .agg #[.int .i32 n, .int .i32 n], .agg #[.int .i32 m, .int .i32 m]] w fun e w' => e = .returned (.agg #[.int .i32 (wv op n m), .int .i32 (wv op n m)]) ∧ Below w.heap.size w w' := by
 have d1 : decide (op < 6) = false := by simp; omega
 have d2 : decide (23 < op) = false := by simp; omega
 have d3 : decide (n < n) = false := by simp
 have d4 : decide (m < m) = false := by simp
 have d5 : (n == n) = true := by simp
 have d6 : (m == m) = true := by simp
 have we1 : (we op m == 0) = true := by simpa using we0
 go_enter Tryz.func35, Tryz.ntmps35
 go_wp2_with (first | (go_at_call 39; ((first | (with_reducible refine (Calls.au (af _ _ _)).mono ?_) | (refine (Calls.ext (af _ _ _)).mono ?_)); rintro e _ ⟨rfl, y, rfl⟩)) | (go_at_call 73; ((first | (with_reducible refine (Calls.au (aI _ _ _)).mono ?_) | (refine (Calls.ext (aI _ _ _)).mono ?_)); rintro e _ ⟨rfl, y, rfl⟩)) | (go_at_call 49; ((first | (with_reducible refine (Calls.au (av _)).mono ?_) | (refine (Calls.ext (av _)).mono ?_)); rintro e _ ⟨rfl, y, rfl⟩)) | (go_at_call 34; ((first | (with_reducible refine (Calls.au (cy _ _)).mono ?_) | (refine (Calls.ext (cy _ _)).mono ?_)); rintro e _ ⟨rfl, y, rfl⟩)) | (go_at_call 74; refine (Calls.bO (ox _ _ _ _ hn hm)).mono ?_; rintro e _ ⟨rfl, y, rfl⟩))
 all_goals
  refine bodyPost_ret (v := .agg #[.int .i32 (wv op n m), .int .i32 (wv op n m)]) ?hr rfl ⟨rfl, ?aB⟩
  case hr =>
   simp [results, Tryz.results35, go_sem]
  case aB =>
   exact UX
theorem nR (op n m : Int) (w : World) (h1 : 6 ≤ op) (h2 : op ≤ 23) (hn : aK n) (hm : aK m) (we0 : (we op m != 0) = true) :
  Calls Tryz.prog 35 #[.int .u8 op, .agg #[.int .i32 n, .int .i32 n], .agg #[.int .i32 m, .int .i32 m]] w fun e w' => e = .returned (.agg #[.int .i32 1, .int .i32 0]) ∧ Below w.heap.size w w' := by
 have d1 : decide (op < 6) = false := by simp; omega
 have d2 : decide (23 < op) = false := by simp; omega
 have d3 : decide (n < n) = false := by simp
 have d4 : decide (m < m) = false := by simp
 have d5 : (n == n) = true := by simp
 have d6 : (m == m) = true := by simp
 have we1 : (we op m == 0) = false := by simpa using we0
 go_enter Tryz.func35, Tryz.ntmps35
 go_wp2_with (first | (go_at_call 39; ((first | (with_reducible refine (Calls.au (af _ _ _)).mono ?_) | (refine (Calls.ext (af _ _ _)).mono ?_)); rintro e _ ⟨rfl, y, rfl⟩)) | (go_at_call 73; ((first | (with_reducible refine (Calls.au (aI _ _ _)).mono ?_) | (refine (Calls.ext (aI _ _ _)).mono ?_)); rintro e _ ⟨rfl, y, rfl⟩)) | (go_at_call 49; ((first | (with_reducible refine (Calls.au (av _)).mono ?_) | (refine (Calls.ext (av _)).mono ?_)); rintro e _ ⟨rfl, y, rfl⟩)) | (go_at_call 34; ((first | (with_reducible refine (Calls.au (cy _ _)).mono ?_) | (refine (Calls.ext (cy _ _)).mono ?_)); rintro e _ ⟨rfl, y, rfl⟩)) | (go_at_call 74; refine (Calls.bO (ox _ _ _ _ hn hm)).mono ?_; rintro e _ ⟨rfl, y, rfl⟩))
 all_goals
  refine bodyPost_ret (v := .agg #[.int .i32 1, .int .i32 0]) ?hr rfl ⟨rfl, ?aB⟩
  case hr =>
   simp [results, Tryz.results35, go_sem]
  case aB =>
   exact UX
def aM (op : Int) (x y : Int × Int) : Int × Int :=
 if op < 6 ∨ 23 < op then (-2147483648, 2147483647) else if x.2 < x.1 ∨ y.2 < y.1 then (1, 0)
 else if x.1 = x.2 ∧ y.1 = y.2 then (if we op y.1 = 0 then (wv op x.1 y.1, wv op x.1 y.1) else (1, 0))
 else gz op x y
theorem nk (op xl xh yl yh : Int) (w : World) (hx1 : -2147483648 ≤ xl) (hx2 : xl ≤ 2147483647) (hx3 : -2147483648 ≤ xh) (hx4 : xh ≤ 2147483647) (hy1 : -2147483648 ≤ yl) (hy2 : yl ≤ 2147483647) (hy3 : -2147483648 ≤ yh) (hy4 : yh ≤ 2147483647) :
  Calls Tryz.prog 35 #[.int .u8 op, .agg #[.int .i32 xl, .int .i32 xh], .agg #[.int .i32 yl, .int .i32 yh]] w fun e w' => e = .returned (.agg #[.int .i32 (aM op (xl, xh) (yl, yh)).1, .int .i32 (aM op (xl, xh) (yl, yh)).2]) ∧ Below w.heap.size w w' := by
 by_cases o1 : op < 6
 ·refine (sP op xl xh yl yh w o1).mono fun e w' ⟨q, hb⟩ => ⟨q.trans ?_, hb⟩
  rw [aM, if_pos (.inl o1)]
 by_cases o2 : 23 < op
 ·refine (sQ op xl xh yl yh w o2).mono fun e w' ⟨q, hb⟩ => ⟨q.trans ?_, hb⟩
  rw [aM, if_pos (.inr o2)]
 have no : ¬ (op < 6 ∨ 23 < op) := by omega
 by_cases e1 : xh < xl
 ·refine (vg op xl xh yl yh w TX TX e1).mono fun e w' ⟨q, hb⟩ => ⟨q.trans ?_, hb⟩
  rw [aM, if_neg no, if_pos (.inl e1)]
 by_cases e2 : yh < yl
 ·refine (ve op xl xh yl yh w TX TX e1 e2).mono fun e w' ⟨q, hb⟩ => ⟨q.trans ?_, hb⟩
  rw [aM, if_neg no, if_pos (.inr e2)]
 have ne : ¬ (xh < xl ∨ yh < yl) := by omega
 by_cases s : xl = xh ∧ yl = yh
 ·obtain ⟨rfl, rfl⟩ := s
  by_cases k : we op yl = 0
  ·refine (nQ op xl yl w TX TX ⟨hx1, hx2⟩ ⟨hy1, hy2⟩ (by simpa using k)).mono fun e w' ⟨q, hb⟩ => ⟨q.trans ?_, hb⟩
   rw [aM, if_neg no, if_neg ne, if_pos ⟨rfl, rfl⟩, if_pos k]
  ·refine (nR op xl yl w TX TX ⟨hx1, hx2⟩ ⟨hy1, hy2⟩ (by simpa using k)).mono fun e w' ⟨q, hb⟩ => ⟨q.trans ?_, hb⟩
   rw [aM, if_neg no, if_neg ne, if_pos ⟨rfl, rfl⟩, if_neg k]
 ·have ev : aM op (xl, xh) (yl, yh) = gz op (xl, xh) (yl, yh) := by rw [aM, if_neg no, if_neg ne, if_neg s]
  rw [ev]
  by_cases hm : op = 9 ∨ (11 ≤ op ∧ op ≤ 23)
  ·exact AO op xl xh yl yh w hx1 hx2 hx3 hx4 hy1 hy2 hy3 hy4 hm TX TX s
  have h4 : op = 6 ∨ op = 7 ∨ op = 8 ∨ op = 10 := by omega
  rcases h4 with rfl | rfl | rfl | rfl
  ·exact FL xl xh yl yh w hx1 hx2 hx3 hx4 hy1 hy2 hy3 hy4 TX TX s
  ·exact FK xl xh yl yh w hx1 hx2 hx3 hx4 hy1 hy2 hy3 hy4 TX TX s
  ·exact FI xl xh yl yh w hx1 hx2 hx3 hx4 hy1 hy2 hy3 hy4 TX TX s
  ·exact Dx xl xh yl yh w hx1 hx2 hx3 hx4 hy1 hy2 hy3 hy4 TX TX s
end
section
open Go.RowKit
open Go.RowKit
open Go.RowKit
theorem wM (x y : Int × Int) : (x.2 < x.1 ∧ y.2 < y.1 ∧ bR x y = (1, 0)) ∨ (x.2 < x.1 ∧ ¬ y.2 < y.1 ∧ bR x y = y) ∨ (¬ x.2 < x.1 ∧ y.2 < y.1 ∧ bR x y = x) ∨ (¬ x.2 < x.1 ∧ ¬ y.2 < y.1 ∧ bR x y = (min x.1 y.1, max x.2 y.2)) := by
 by_cases h1 : x.2 < x.1 <;> by_cases h2 : y.2 < y.1 <;> simp [bR, emp, h1, h2]
theorem oZ (x y : Int × Int) : ((x.2 < x.1 ∨ y.2 < y.1 ∨ min x.2 y.2 < max x.1 y.1) ∧ aH x y = (1, 0)) ∨ (¬ x.2 < x.1 ∧ ¬ y.2 < y.1 ∧ ¬ min x.2 y.2 < max x.1 y.1 ∧ aH x y = (max x.1 y.1, min x.2 y.2)) := by
 by_cases h1 : x.2 < x.1
 ·left; exact ⟨.inl h1, by simp [aH, emp, h1]⟩
 ·by_cases h2 : y.2 < y.1
  ·left; exact ⟨.inr (.inl h2), by simp [aH, emp, h2]⟩
  ·by_cases h3 : min x.2 y.2 < max x.1 y.1
   ·left; exact ⟨.inr (.inr h3), by simp only [aH, emp, h1, h2, h3]; simp⟩
   ·right; exact ⟨h1, h2, h3, by simp only [aH, emp, h1, h2, h3]; simp⟩
theorem within_iff (x y : Int × Int) : rU x y = true ↔ (x.2 < x.1 ∨ (y.1 ≤ x.1 ∧ x.2 ≤ y.2)) := by
 simp [rU, emp]
theorem Aa (x y : Int × Int) : rU x (bR x y) = true := by
 rw [within_iff]
 rcases wM x y with ⟨h1, h2, h⟩ | ⟨h1, h2, h⟩ | ⟨h1, h2, h⟩ | ⟨h1, h2, h⟩ <;> rw [h] <;> (try dsimp only) <;> omega
def Mem (v : Int) (z : Int × Int) : Prop := z.1 ≤ v ∧ v ≤ z.2
def Jw (v : Int) (l : List Int) : Prop := ∃ p q, p ∈ l ∧ q ∈ l ∧ p ≤ v ∧ v ≤ q
theorem gA (v : Int) : aK (wrap32 v) := by unfold aK wrap32; omega
theorem mH {v : Int} (h : aK v) : wrap32 v = v := by unfold aK at h; unfold wrap32; omega
theorem sN (l : List Int) : ∀ a : Int, l.foldl min a ≤ a ∧ ∀ x ∈ l, l.foldl min a ≤ x := by
 induction l with
 | nil => intro a; exact ⟨Int.le_refl _, fun x h => by cases h⟩
 | cons y l ih =>
  intro a
  have h := ih (min a y)
  simp only [List.foldl_cons]
  refine ⟨by omega, fun x hx => ?_⟩
  rcases List.mem_cons.1 hx with rfl | hx
  ·omega
  ·exact h.2 x hx
theorem sG (l : List Int) : ∀ a : Int, a ≤ l.foldl max a ∧ ∀ x ∈ l, x ≤ l.foldl max a := by
 induction l with
 | nil => intro a; exact ⟨Int.le_refl _, fun x h => by cases h⟩
 | cons y l ih =>
  intro a
  have h := ih (max a y)
  simp only [List.foldl_cons]
  refine ⟨by omega, fun x hx => ?_⟩
  rcases List.mem_cons.1 hx with rfl | hx
  ·omega
  ·exact h.2 x hx
theorem lu {l : List Int} (h : l ≠ []) : nth l 0 ∈ l := by
 cases l with
 | nil => exact absurd rfl h
 | cons a l => simp [nth]
theorem He {l : List Int} {x : Int} (h : x ∈ l) : wK l ≤ x := (sN l _).2 x h
theorem Hf {l : List Int} {x : Int} (h : x ∈ l) : x ≤ wS l := (sG l _).2 x h
theorem wQ (l : List Int) : aA l = (-2147483648, 2147483647) ∨ (aA l = (wK l, wS l) ∧ -2147483648 ≤ wK l ∧ wS l ≤ 2147483647) := by
 unfold aA
 split
 ·exact .inl rfl
 ·exact .inr ⟨rfl, by omega, by omega⟩
theorem Jw.left {v : Int} {l m : List Int} (h : Jw v l) : Jw v (l ++ m) := by
 obtain ⟨p, q, hp, hq, h⟩ := h
 exact ⟨p, q, List.mem_append_left _ hp, List.mem_append_left _ hq, h⟩
theorem Jw.right {v : Int} {l m : List Int} (h : Jw v m) : Jw v (l ++ m) := by
 obtain ⟨p, q, hp, hq, h⟩ := h
 exact ⟨p, q, List.mem_append_right _ hp, List.mem_append_right _ hq, h⟩
theorem G8 (a b : Int) (hb : b ≠ 0) : (0 ≤ a → 0 ≤ a.tmod b ∧ a.tmod b ≤ a ∧ a.tmod b < b.natAbs) ∧ (a ≤ 0 → a.tmod b ≤ 0 ∧ a ≤ a.tmod b ∧ -(b.natAbs : Int) < a.tmod b) := by
 have key : ∀ a : Int, 0 ≤ a → 0 ≤ a.tmod b ∧ a.tmod b ≤ a ∧ a.tmod b < b.natAbs := by
  intro a ha
  have h1 := Int.natAbs_tmod a b
  have h2 := Int.tmod_nonneg b ha
  have h3 : a.natAbs % b.natAbs < b.natAbs := Nat.mod_lt _ TX
  have h4 := Nat.mod_le a.natAbs b.natAbs
  omega
 refine ⟨key a, fun ha => ?_⟩
 have := key (-a) TX
 rw [Int.neg_tmod] at this
 omega
theorem um (n : Nat) : (0 : Int) < 2 ^ n := by have := (iQ n n (Nat.le_refl _)).1; omega
theorem vU (a : Int) (n : Nat) : (0 ≤ a → 0 ≤ a / 2 ^ n ∧ a / 2 ^ n ≤ a) ∧ (a < 0 → a ≤ a / 2 ^ n ∧ a / 2 ^ n < 0) := by
 have hp := um n
 constructor
 ·intro h
  exact ⟨Int.ediv_nonneg h TX, Int.ediv_le_self _ h⟩
 ·intro h
  refine ⟨?_, Int.ediv_neg_of_neg_of_pos h hp⟩
  rw [Int.le_ediv_iff_mul_le hp]
  have := Int.mul_le_mul_of_nonpos_left (a := a) (b := 2 ^ n) (c := 1) TX TX
  rw [Int.mul_one] at this
  exact this
theorem l9 (op : BinOp) (a b : Int) : bits op .i32 a b = wrap32 ((match op with
  | .and => BitVec.ofInt 32 a &&& BitVec.ofInt 32 b
  | .or => BitVec.ofInt 32 a ||| BitVec.ofInt 32 b
  | .xor => BitVec.ofInt 32 a ^^^ BitVec.ofInt 32 b
  | _ => BitVec.ofInt 32 a &&& ~~~(BitVec.ofInt 32 b)).toNat : Nat) := by
 have w : ∀ n : Int, IntKind.i32.wrap n = wrap32 n := fun n => by rw [IntKind.wrap_i32, wrap32]
 rw [← w]
 cases op <;> rfl
theorem Eo (a : Int) (h : aK a) : ((BitVec.ofInt 32 a).toNat : Int) = if 0 ≤ a then a else a + 4294967296 := by
 unfold aK at h
 rw [BitVec.toNat_ofInt]
 simp only [Nat.reducePow]
 split <;> omega
theorem fE : ∀ (f x : Nat), x < 2 ^ f → x < 2 ^ Lib.bitLenAux f x := by
 intro f
 induction f with
 | zero => intro x h; simpa [Lib.bitLenAux] using h
 | succ f ih =>
  intro x h
  unfold Lib.bitLenAux
  split
  ·rename_i e; subst e; exact Nat.one_pos
  ·have := ih (x / 2) (by rw [Nat.pow_succ] at h; omega)
   rw [Nat.add_comm, Nat.pow_succ]
   omega
theorem pX : ∀ (f x y : Nat), x ≤ y → Lib.bitLenAux f x ≤ Lib.bitLenAux f y := by
 intro f
 induction f with
 | zero => intro x y _; exact Nat.le_refl _
 | succ f ih =>
  intro x y h
  unfold Lib.bitLenAux
  by_cases hx : x = 0
  ·rw [if_pos hx]; exact Nat.zero_le _
  ·rw [if_neg hx, if_neg TX]
   have := ih (x / 2) (y / 2) (Nat.div_le_div_right h)
   omega
theorem CE {n : Int} (h0 : 0 ≤ n) (h1 : n ≤ 2147483647) : n ≤ eV n := by
 have := fE 64 n.toNat TX
 unfold eV Lib.bitLen
 have e : ((2 ^ Lib.bitLenAux 64 n.toNat : Nat) : Int) = 2 ^ Lib.bitLenAux 64 n.toNat := by simp
 omega
theorem wG {n m : Int} (h : n ≤ m) : eV n ≤ eV m := by
 have := (iQ _ _ (pX 64 n.toNat m.toNat TX)).2
 unfold eV Lib.bitLen
 omega
theorem AL (op : BinOp) (a b : Int) : aK (bits op .i32 a b) := by rw [l9]; exact gA _
def Sub (x y : Int × Int) : Prop := x.2 < x.1 ∨ (y.1 ≤ x.1 ∧ x.2 ≤ y.2)
section
variable {x y x' y' : Int × Int} (hx : x.1 ≤ x.2) (hy : y.1 ≤ y.2) (sx : x'.1 ≤ x.1 ∧ x.2 ≤ x'.2) (sy : y'.1 ≤ y.1 ∧ y.2 ≤ y'.2)
include hx hy sx sy
end
end
section
open Go.RowKit
theorem ax {w : World} {b : Nat} {o : Obj} (h : w.heap[b]? = some o) : b < w.heap.size := (Array.getElem?_eq_some_iff.1 h).1
structure Fr (S : Nat → Prop) (w w' : World) : Prop where
 os : w'.os = w.os
 tape : w'.tape = w.tape
 output : w'.output = w.output
 size : w.heap.size ≤ w'.heap.size
 block : ∀ k, k < w.heap.size → ¬ S k → w'.heap[k]? = w.heap[k]?
theorem Fr.refl (S : Nat → Prop) (w : World) : Fr S w w := ⟨rfl, rfl, rfl, Nat.le_refl _, fun _ _ _ => rfl⟩
theorem Fr.trans {S : Nat → Prop} {a b c : World} (h : Fr S a b) (k : Fr S b c) : Fr S a c :=
 ⟨k.os.trans h.os, k.tape.trans h.tape, k.output.trans h.output, Nat.le_trans h.size k.size, fun i h1 h2 => (k.block i (Nat.lt_of_lt_of_le h1 h.size) h2).trans (h.block i h1 h2)⟩
theorem Fr.of {S : Nat → Prop} {w w' : World} (h : Below w.heap.size w w') : Fr S w w' := ⟨h.os, h.tape, h.output, h.size, fun k h1 _ => h.block k h1⟩
theorem Fr.mono {S S' : Nat → Prop} {w w' : World} (h : Fr S w w') (i : ∀ k, k < w.heap.size → S k → S' k) : Fr S' w w' := ⟨h.os, h.tape, h.output, h.size, fun k h1 h2 => h.block k h1 (fun h3 => h2 (i k h1 h3))⟩
theorem Fr.below {S : Nat → Prop} {w w' : World} {B : Nat} (h : Fr S w w') (hB : B ≤ w.heap.size) (hS : ∀ k, S k → B ≤ k) : Below B w w' :=
 ⟨h.os, h.tape, h.output, h.size, fun k hk => h.block k (Nat.lt_of_lt_of_le hk hB) (fun h3 => by have := hS k h3; omega)⟩
theorem Fr.since {S S' : Nat → Prop} {w0 w w' : World} (h0 : Fr S w0 w) (h : Fr S' w w') (i : ∀ k, S' k → S k ∨ w0.heap.size ≤ k) : Fr S w0 w' :=
 ⟨h.os.trans h0.os, h.tape.trans h0.tape, h.output.trans h0.output, Nat.le_trans h0.size h.size, fun k h1 h2 => (h.block k (Nat.lt_of_lt_of_le h1 h0.size) (fun h3 => by rcases i k h3 with h4 | h4; exact h2 h4; omega)).trans (h0.block k h1 h2)⟩
theorem Fr.cell {S : Nat → Prop} {w w' : World} (h : Fr S w w') {b : Nat} (o : Nat) (hb : b < w.heap.size) (hn : ¬ S b) : w'.cell? ⟨b, o, none⟩ = w.cell? ⟨b, o, none⟩ := World.cell?_of_block (h.block b hb hn)
theorem Fr.set {S : Nat → Prop} {w w' : World} {b o : Nat} (h : Fr S w w') (v : Value) (hp : S b ∨ w.heap.size ≤ b) : Fr S w (w'.setCell ⟨b, o, none⟩ v) :=
 ⟨h.os, h.tape, h.output, by simpa using h.size, fun k h1 h2 => by
  rw [Below.heap_setCell _ _ _ _ (by show k ≠ b; rintro rfl; rcases hp with hp | hp; exact h2 hp; omega)]
  exact h.block k h1 h2⟩
theorem Fr.alloc {S : Nat → Prop} {w w' : World} (h : Fr S w w') (o : Obj) : Fr S w (w'.alloc o) :=
 h.trans (Fr.of ((Below.refl _ _).alloc (Nat.le_refl _) _))
theorem Fr.drew {S : Nat → Prop} {w w' : World} (h : Fr S w w') : Fr S w w'.drew := h.trans (Fr.of (Below.drew (Below.refl _ _)))
theorem Fr.own {S : Nat → Prop} {w w' : World} (h : Fr S w w') {B n size : Nat} {e : TypeId} {v : Value} {xs : List Value} (ho : w.ownsRow B e size v n xs) (hn : ∀ q, v.ownBlock = some q → ¬ S q) : w'.ownsRow B e size v n xs := by
 refine ⟨ho.1, ?_⟩
 rcases ho.2 with h0 | ⟨g, cap, cur, rfl, hb, hk, hr⟩
 ·exact .inl h0
 ·exact .inr ⟨g, cap, cur, rfl, hb, (h.block g (ax hk) (hn g rfl)).trans hk, hr⟩
structure St where
 pc : Int
 r : List Int
 d : Value
 hal : Bool
 held : Int
def St.cells (s : St) : Array Value := (Value.int .i64 s.pc :: (s.r.map (Value.int .i32) ++ [s.d, .bool s.hal, .int .i64 s.held])).toArray
section
variable {w : World} {sb : Nat} {s : St}
end
end
end Go.Proofs.YtebklpnkcicpjaaGreatDoor
