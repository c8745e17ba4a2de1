/-
  What is proved here: parts bIc, bIp, bKa.
-/
import Derived.Test.YtlmgkipmfgijiaaGreatDoorXa
import Derived.Test.YtlmgkipmfgijiaaGreatDoorXg
import Derived.Test.YtlmgkipmfgijiaaGreatDoorXb
import Derived.Test.YtlmgkipmfgijiaaGreatDoorXd
namespace Go.Proofs.YtlmgkipmfgijiaaGreatDoor
set_option linter.unusedVariables false
set_option linter.unusedSimpArgs false
set_option maxRecDepth 100000
set_option maxHeartbeats 8000000
section
open Go.RowKit
open Go.RowKit
def divC (x y : Int × Int) : List Int := [x.1.tdiv y.1, x.1.tdiv y.2, x.2.tdiv y.1, x.2.tdiv y.2]
def ID (x y : Int × Int) : List Int := (if y.1 < 0 then divC x (y.1, min y.2 (-1)) else []) ++ (if 0 < y.2 then divC x (max y.1 1, y.2) else [])
def wB (x y : Int × Int) : Int × Int :=
 if y.1 = 0 ∧ y.2 = 0 then (1, 0) else if (x.1 ≤ -2147483648 ∧ -2147483648 ≤ x.2) ∧ (y.1 ≤ -1 ∧ -1 ≤ y.2) then (-2147483648, 2147483647) else aK (ID x y)
structure Div (w W : World) (xl xh pl ph : Int) (p : Nat) : Prop where
 below : Below w.heap.size w W
 bx : W.heap[w.heap.size]? = some (.cells #[.int .i32 xl, .int .i32 xh] 172 (0, 0))
 br : W.heap[w.heap.size + 1 + 1]? = some (.cells #[.int .i32 0, .int .i32 0] 172 (0, 0))
 bp : W.heap[p]? = some (.cells #[.int .i32 pl, .int .i32 ph] 172 (0, 0))
theorem lt_of_block {W : World} {k : Nat} {ob : Obj} (h : W.heap[k]? = some ob) : k < W.heap.size := by
 rcases Nat.lt_or_ge k W.heap.size with h' | h'
 ·exact h'
 ·rw [Array.getElem?_eq_none h'] at h; cases h
theorem cO {W : World} (ob : Obj) {k : Nat} {ob' : Obj} (h : W.heap[k]? = some ob') : (W.alloc ob).heap[k]? = some ob' := by
 have hlt := lt_of_block h
 show (W.heap.push ob)[k]? = _
 rw [Array.getElem?_push, if_neg (Nat.ne_of_lt hlt)]; exact h
theorem pN (W : World) (ob : Obj) : (W.alloc ob).heap[W.heap.size]? = some ob := by
 show (W.heap.push ob)[W.heap.size]? = _
 rw [Array.getElem?_push, if_pos rfl]
theorem nE {W W' : World} {ob : Obj} {B n k : Nat} {v : Value} {xs : List Value} {c : Array Value} (hk : W.heap[k]? = some (.cells c 172 (0, 0))) (hown : W.ownsRow B 2 1 v n xs) (hg : (W.alloc ob).grownBy W' v.ownBlock) : W'.heap[k]? = some (.cells c 172 (0, 0)) := by
 have hlt := lt_of_block hk
 rw [hg.block k ah6 ?_]
 ·exact cO ob hk
 ·rcases hown.2 with ⟨rfl, _⟩ | ⟨g, cap, cur, rfl, _, hb, _⟩
  ·simp [Value.ownBlock]
  ·simp only [Value.ownBlock, ne_eq, Option.some.injEq]
   rintro rfl
   rw [hk] at hb
   simp at hb
theorem Div.grown {w W W' : World} {xl xh pl ph : Int} {p B n : Nat} {v : Value} {xs : List Value} {ob : Obj} (D : Div w W xl xh pl ph p) (hB : w.heap.size ≤ B) (hown : W.ownsRow B 2 1 v n xs) (hg : (W.alloc ob).grownBy W' v.ownBlock) : Div w W' xl xh pl ph p := by
 have hs := D.below.size
 refine ⟨(D.below.alloc hs ob).grown hg ah6 ?_, nE D.bx hown hg, nE D.br hown hg, nE D.bp hown hg⟩
 intro k hk
 rcases hown.2 with ⟨rfl, _⟩ | ⟨g, cap, cur, rfl, hb, _⟩
 ·cases hk
 ·cases hk; exact Nat.le_trans hB hb
theorem iF {W : World} (y : Ext W) {k : Nat} {ob : Obj} (h : W.heap[k]? = some ob) : y.w.heap[k]? = some ob := by
 rw [y.h.block k (lt_of_block h)]; exact h
theorem KF {W : World} (y : Ext W) {B n size : Nat} {e : TypeId} {v : Value} {xs : List Value} (h : W.ownsRow B e size v n xs) : y.w.ownsRow B e size v n xs := by
 refine ⟨h.1, ?_⟩
 rcases h.2 with h0 | ⟨g, cap, cur, hv, hb, hk, hr⟩
 ·exact .inl h0
 ·exact .inr ⟨g, cap, cur, hv, hb, iF y hk, hr⟩
theorem Div.ext {w W : World} {xl xh pl ph : Int} {p B n : Nat} {v : Value} {xs : List Value} (D : Div w W xl xh pl ph p) (hown : W.ownsRow B 2 1 v n xs) (y : Ext W) : ∃ W', y.w = W' ∧ Div w W' xl xh pl ph p ∧ W'.ownsRow B 2 1 v n xs :=
 ⟨_, rfl, ⟨Ext.below D.below D.below.size y, iF y D.bx, iF y D.br, iF y D.bp⟩, KF y hown⟩
theorem Div.part {w W : World} {xl xh pl ph : Int} {p B n : Nat} {v : Value} {xs : List Value} (D : Div w W xl xh pl ph p) (hown : W.ownsRow B 2 1 v n xs) (ql qh : Int) : ∃ (W' : World) (q : Nat), W.alloc (.cells #[.int .i32 ql, .int .i32 qh] 172) = W' ∧ W.heap.size = q ∧ Div w W' xl xh ql qh q ∧ W'.ownsRow B 2 1 v n xs :=
 ⟨_, _, rfl, rfl, ⟨D.below.alloc D.below.size _, cO _ D.bx, cO _ D.br, pN _ _⟩, hown.alloc _⟩
theorem Div.cells {w W : World} {xl xh pl ph : Int} {p : Nat} (D : Div w W xl xh pl ph p) :
  W.cell? ⟨w.heap.size, 0, none⟩ = some (.int .i32 xl) ∧ W.cell? ⟨w.heap.size, 1, none⟩ = some (.int .i32 xh) ∧ W.cell? ⟨p, 0, none⟩ = some (.int .i32 pl) ∧ W.cell? ⟨p, 1, none⟩ = some (.int .i32 ph) ∧ w.heap.size < W.heap.size ∧ p < W.heap.size := by
 refine ⟨?_, ?_, ?_, ?_, lt_of_block D.bx, lt_of_block D.bp⟩ <;> simp [World.cell?, D.bx, D.bp]
theorem Div.result {w W : World} {xl xh pl ph : Int} {p : Nat} (D : Div w W xl xh pl ph p) :
  W.cell? ⟨w.heap.size + 1 + 1, 0, none⟩ = some (.int .i32 0) ∧ W.cell? ⟨w.heap.size + 1 + 1, 1, none⟩ = some (.int .i32 0) ∧ W.frozen? ⟨w.heap.size + 1 + 1, 0, none⟩ = false ∧ W.frozen? ⟨w.heap.size + 1 + 1, 1, none⟩ = false ∧ w.heap.size + 1 + 1 < W.heap.size := by
 refine ⟨?_, ?_, ?_, ?_, lt_of_block D.br⟩ <;> simp [World.cell?, World.frozen?, D.br]
theorem Div.bu {w W : World} {xl xh pl ph : Int} {p : Nat} (D : Div w W xl xh pl ph p) (ob : Obj) : w.heap.size ≤ (W.alloc ob).heap.size := by
 have := D.below.size; rw [World.size_alloc]; omega
theorem sD (xl xh yl yh a b c d : Int) (w : World) (y : Ext (((w.alloc (Obj.cells #[Value.int IntKind.i32 xl, Value.int IntKind.i32 xh] 172)).alloc (Obj.cells #[Value.int IntKind.i32 yl, Value.int IntKind.i32 yh] 172)).alloc (Obj.cells #[Value.int IntKind.i32 0, Value.int IntKind.i32 0] 172))) :
  ∃ W : World, (y.w.alloc (Obj.cells #[Value.int IntKind.i32 a, Value.int IntKind.i32 b] 172)).alloc (Obj.cells #[Value.int IntKind.i32 c, Value.int IntKind.i32 d] 172) = W ∧ Div w W xl xh xl xh w.heap.size := by
 have hs : w.heap.size + 1 + 1 + 1 ≤ y.w.heap.size := MO y.h
 have e1 : y.w.heap[w.heap.size]? = some (.cells #[.int .i32 xl, .int .i32 xh] 172 (0, 0)) := iF y (cO _ (cO _ (pN _ _)))
 have e2 : y.w.heap[w.heap.size + 1 + 1]? = some (.cells #[.int .i32 0, .int .i32 0] 172 (0, 0)) := iF y (by have := pN ((w.alloc (Obj.cells #[Value.int IntKind.i32 xl, Value.int IntKind.i32 xh] 172)).alloc (Obj.cells #[Value.int IntKind.i32 yl, Value.int IntKind.i32 yh] 172)) (Obj.cells #[Value.int IntKind.i32 0, Value.int IntKind.i32 0] 172); rw [World.size_alloc, World.size_alloc] at this; exact this)
 refine ⟨_, rfl, ?_, cO _ (cO _ e1), cO _ (cO _ e2), cO _ (cO _ e1)⟩
 exact aiS
theorem dN (x y : Int) (h1 : -2147483648 ≤ x) (h2 : x ≤ 2147483647) : -2147483648 ≤ x.tdiv y ∧ x.tdiv y ≤ 2147483648 := by
 have h : (x.tdiv y).natAbs ≤ x.natAbs := by rw [Int.natAbs_tdiv]; exact Nat.div_le_self _ _
 omega
theorem OH (a b c d : Int) (w : World) : (Instr.index 224 (.agg #[.int .i32 a, .int .i32 b, .int .i32 c, .int .i32 d]) (.int .i64 0)).run Tryz.prog w = .ok (.agg #[.int .i32 a, .int .i32 b]) w := by kernel_rfl
theorem OG (a b c d : Int) (w : World) : (Instr.index 224 (.agg #[.int .i32 a, .int .i32 b, .int .i32 c, .int .i32 d]) (.int .i64 1)).run Tryz.prog w = .ok (.agg #[.int .i32 c, .int .i32 d]) w := by kernel_rfl
theorem IC (xl xh yl yh : Int) (w : World) (hx1 : -2147483648 ≤ xl) (hx2 : xl ≤ 2147483647) (hx3 : -2147483648 ≤ xh) (hx4 : xh ≤ 2147483647) (hy1 : -2147483648 ≤ yl) (hy2 : yl ≤ 2147483647) (hy3 : -2147483648 ≤ yh) (hy4 : yh ≤ 2147483647) (nh pl : Int) (NH : Hid (min yh (-1) = nh)) (PL : Hid (max yl 1 = pl)) (Fw : Hid ((decide (xl ≤ -2147483648) && decide (-2147483648 ≤ xh)) = false) ∨ Hid ((decide (xl ≤ -2147483648) && decide (-2147483648 ≤ xh)) = true) ∧ Hid ((decide (yl ≤ -1) && decide (-1 ≤ yh)) = false)) (nz : (yl == 0 && yh == 0) = false) (n1 : -2147483648 ≤ nh) (n2 : nh ≤ 2147483647) (n3 : -2147483648 ≤ pl) (n4 : pl ≤ 2147483647) (q1 : yl ≤ nh) (q2 : nh ≤ -1) (q3 : yh < pl) (Vn : Hid (decide (nh < yl) = false)) (Vm : Hid (decide (yh < pl) = true)) :
  Calls Tryz.prog 145 #[.agg #[.int .i32 xl, .int .i32 xh], .agg #[.int .i32 yl, .int .i32 yh]] w fun e w' => e = .returned (.agg #[.int .i32 (aK ([xl.tdiv yl, xl.tdiv nh, xh.tdiv yl, xh.tdiv nh])).1, .int .i32 (aK ([xl.tdiv yl, xl.tdiv nh, xh.tdiv yl, xh.tdiv nh])).2]) ∧ Below w.heap.size w w' := by
 obtain ⟨i0, hi, hz0, hz1, hz2⟩ := info_parts uN
 have SD := ix0
 have SC := ix1
 have j0f := OH
 have j1f := OG
 have e2 := ja
 have zyl : (yl == 0) = false := by simp; omega
 have TC := dN xl yl ahU ahU
 have TG := dN xh yl ahU ahU
 have znh : (nh == 0) = false := by simp; omega
 have TF := dN xl nh ahU ahU
 have TL := dN xh nh ahU ahU
 go_enter Tryz.func145, Tryz.ntmps145
 go_wp2_with fail
 refine aj ahV ahV ?_
 repeat (go_big_quiet_step ((go_at_call 130; exact Calls.ax (cj _ _))))
 refine wpQuiet_nil ?_
 rintro _ ⟨x1, rfl⟩
 rcases Fw with BX | ⟨BX, BY⟩
 all_goals
  go_wp2_with (first | (go_at_call 153; (first | (with_reducible refine (Calls.ax (eN (bS _ _ _ _) BX.out)).mono ?_) | (with_reducible refine (Calls.ax (eN (bS _ _ _ _) BY.out)).mono ?_)); rintro e _ ⟨rfl, y, rfl⟩))
  obtain ⟨W, hW, D⟩ := sD xl xh yl yh yl (min yh (-1)) (max yl 1) yh w y
  rw [hW]
  clear hW
  have hown : W.ownsRow w.heap.size 2 1 (.slice none 0 0) 0 [] := ⟨rfl, .inl ⟨rfl, rfl⟩⟩
  rw [NH.out, PL.out]
  refine wp_loop_rounds 3 ?_
  rw [rounds_succ]
  go_wp2_with fail
  obtain ⟨Wp0, q0, hW, hq, JQ, yx⟩ := D.part hown (yl) (nh)
  rw [hW, hq]
  clear hW hq D hown
  obtain ⟨c1, c2, c3, c4, s1, s2⟩ := JQ.cells
  refine (Calls.ext (eN (af _ _ _) Vn.out)).mono ?_
  rintro e _ ⟨rfl, y, rfl⟩
  obtain ⟨Wb, hW, Ff, tU⟩ := JQ.ext yx y
  rw [hW]
  clear hW JQ yx
  obtain ⟨c1, c2, c3, c4, s1, s2⟩ := Ff.cells
  go_wp2_with fail
  refine wp_loop_rounds 3 ?_
  rw [rounds_succ]
  go_wp2_with fail
  refine wp_loop_rounds 3 ?_
  rw [rounds_succ]
  go_wp2_with (at_builtin; refine wpList_append_own _ rfl (.tmp 65) (.tmp 69) 220 rfl w.heap.size 2 i0 (.int .i64 0) 1 8 Tryz.underlying220 hi hz0 hz1 hz2 rfl ahW _ _ _ rfl (tU.alloc _) ⟨World.heap Wb |>.size, 0, none⟩ 1 1 [.int .i64 (xl.tdiv yl)] rfl rfl (cell_one_new _ _ _) ahX ahY ahU (Ff.bu _) ?_; intro va0 T8 eZ hgrow _)
  have CV := Ff.grown (Nat.le_refl _) tU hgrow
  obtain ⟨c1, c2, c3, c4, s1, s2⟩ := CV.cells
  clear hgrow tU Ff
  go_wp2_with fail
  rw [rounds_succ]
  go_wp2_with (at_builtin; refine wpList_append_own _ rfl (.tmp 65) (.tmp 69) 220 rfl w.heap.size 2 i0 (.int .i64 0) 1 8 Tryz.underlying220 hi hz0 hz1 hz2 rfl ahW _ _ _ rfl (eZ.alloc _) ⟨World.heap T8 |>.size, 0, none⟩ 1 1 [.int .i64 (xl.tdiv nh)] rfl rfl (cell_one_new _ _ _) ahX ahY ahU (CV.bu _) ?_; intro va1 T7 hown1 hgrow _)
  have CU := CV.grown (Nat.le_refl _) eZ hgrow
  obtain ⟨c1, c2, c3, c4, s1, s2⟩ := CU.cells
  clear hgrow eZ CV
  go_wp2_with fail
  rw [rounds_succ]
  go_wp2_with fail
  rw [rounds_succ]
  go_wp2_with fail
  refine wp_loop_rounds 3 ?_
  rw [rounds_succ]
  go_wp2_with (at_builtin; refine wpList_append_own _ rfl (.tmp 65) (.tmp 69) 220 rfl w.heap.size 2 i0 (.int .i64 0) 1 8 Tryz.underlying220 hi hz0 hz1 hz2 rfl ahW _ _ _ rfl (hown1.alloc _) ⟨World.heap T7 |>.size, 0, none⟩ 1 1 [.int .i64 (xh.tdiv yl)] rfl rfl (cell_one_new _ _ _) ahX ahY ahU (CU.bu _) ?_; intro va2 T6 hown2 hgrow _)
  have CT := CU.grown (Nat.le_refl _) hown1 hgrow
  obtain ⟨c1, c2, c3, c4, s1, s2⟩ := CT.cells
  clear hgrow hown1 CU
  go_wp2_with fail
  rw [rounds_succ]
  go_wp2_with (at_builtin; refine wpList_append_own _ rfl (.tmp 65) (.tmp 69) 220 rfl w.heap.size 2 i0 (.int .i64 0) 1 8 Tryz.underlying220 hi hz0 hz1 hz2 rfl ahW _ _ _ rfl (hown2.alloc _) ⟨World.heap T6 |>.size, 0, none⟩ 1 1 [.int .i64 (xh.tdiv nh)] rfl rfl (cell_one_new _ _ _) ahX ahY ahU (CT.bu _) ?_; intro va3 Wa3 fS hgrow _)
  have FI := CT.grown (Nat.le_refl _) hown2 hgrow
  obtain ⟨c1, c2, c3, c4, s1, s2⟩ := FI.cells
  clear hgrow hown2 CT
  go_wp2_with fail
  rw [rounds_succ]
  go_wp2_with fail
  rw [rounds_succ]
  go_wp2_with fail
  rw [rounds_succ]
  go_wp2_with fail
  obtain ⟨Wp1, q1, hW, hq, JP, yw⟩ := FI.part fS (pl) (yh)
  rw [hW, hq]
  clear hW hq FI fS
  obtain ⟨c1, c2, c3, c4, s1, s2⟩ := JP.cells
  refine (Calls.ext (eN (af _ _ _) Vm.out)).mono ?_
  rintro e _ ⟨rfl, y, rfl⟩
  obtain ⟨Wa, hW, CS, tT⟩ := JP.ext yw y
  rw [hW]
  clear hW JP yw
  obtain ⟨c1, c2, c3, c4, s1, s2⟩ := CS.cells
  go_wp2_with fail
  rw [rounds_succ]
  go_wp2_with fail
  obtain ⟨g, cap, hv, hg, hc⟩ := jJ (l := [xl.tdiv yl, xl.tdiv nh, xh.tdiv yl, xh.tdiv nh]) rfl (by simpa using tT) ahZ
  rw [hv]
  obtain ⟨r1, r2, r3, r4, r5⟩ := CS.result
  have kB := CS.below
  clear hv tT CS
  refine (Calls.ext (iU g cap [xl.tdiv yl, xl.tdiv nh, xh.tdiv yl, xh.tdiv nh] _ ahZ ahZ hg hc)).mono ?_
  rintro e _ ⟨rfl, y5, rfl⟩
  clear hc
  go_wp2
  all_goals
   refine bodyPost_ret (v := .agg #[.int .i32 (aK [xl.tdiv yl, xl.tdiv nh, xh.tdiv yl, xh.tdiv nh]).1, .int .i32 (aK [xl.tdiv yl, xl.tdiv nh, xh.tdiv yl, xh.tdiv nh]).2]) ?hr rfl ⟨rfl, ?aD⟩
   case hr =>
    simp [results, Tryz.results145, go_sem, r1, r2, r5]
   case aD =>
    exact aiT
theorem IB (xl xh yl yh : Int) (w : World) (hx1 : -2147483648 ≤ xl) (hx2 : xl ≤ 2147483647) (hx3 : -2147483648 ≤ xh) (hx4 : xh ≤ 2147483647) (hy1 : -2147483648 ≤ yl) (hy2 : yl ≤ 2147483647) (hy3 : -2147483648 ≤ yh) (hy4 : yh ≤ 2147483647) (nh pl : Int) (NH : Hid (min yh (-1) = nh)) (PL : Hid (max yl 1 = pl)) (Fw : Hid ((decide (xl ≤ -2147483648) && decide (-2147483648 ≤ xh)) = false) ∨ Hid ((decide (xl ≤ -2147483648) && decide (-2147483648 ≤ xh)) = true) ∧ Hid ((decide (yl ≤ -1) && decide (-1 ≤ yh)) = false)) (nz : (yl == 0 && yh == 0) = false) (n1 : -2147483648 ≤ nh) (n2 : nh ≤ 2147483647) (n3 : -2147483648 ≤ pl) (n4 : pl ≤ 2147483647) (q1 : nh < yl) (q2 : 1 ≤ pl) (q3 : pl ≤ yh) (Vn : Hid (decide (nh < yl) = true)) (Vm : Hid (decide (yh < pl) = false)) :
  Calls Tryz.prog 145 #[.agg #[.int .i32 xl, .int .i32 xh], .agg #[.int .i32 yl, .int .i32 yh]] w fun e w' => e = .returned (.agg #[.int .i32 (aK ([xl.tdiv pl, xl.tdiv yh, xh.tdiv pl, xh.tdiv yh])).1, .int .i32 (aK ([xl.tdiv pl, xl.tdiv yh, xh.tdiv pl, xh.tdiv yh])).2]) ∧ Below w.heap.size w w' := by
 obtain ⟨i0, hi, hz0, hz1, hz2⟩ := info_parts uN
 have SD := ix0
 have SC := ix1
 have j0f := OH
 have j1f := OG
 have e2 := ja
 have zpl : (pl == 0) = false := by simp; omega
 have TE := dN xl pl ahU ahU
 have TK := dN xh pl ahU ahU
 have zyh : (yh == 0) = false := by simp; omega
 have TD := dN xl yh ahU ahU
 have TJ := dN xh yh ahU ahU
 go_enter Tryz.func145, Tryz.ntmps145
 go_wp2_with fail
 refine aj ahV ahV ?_
 repeat (go_big_quiet_step ((go_at_call 130; exact Calls.ax (cj _ _))))
 refine wpQuiet_nil ?_
 rintro _ ⟨x1, rfl⟩
 rcases Fw with BX | ⟨BX, BY⟩
 all_goals
  go_wp2_with (first | (go_at_call 153; (first | (with_reducible refine (Calls.ax (eN (bS _ _ _ _) BX.out)).mono ?_) | (with_reducible refine (Calls.ax (eN (bS _ _ _ _) BY.out)).mono ?_)); rintro e _ ⟨rfl, y, rfl⟩))
  obtain ⟨W, hW, D⟩ := sD xl xh yl yh yl (min yh (-1)) (max yl 1) yh w y
  rw [hW]
  clear hW
  have hown : W.ownsRow w.heap.size 2 1 (.slice none 0 0) 0 [] := ⟨rfl, .inl ⟨rfl, rfl⟩⟩
  rw [NH.out, PL.out]
  refine wp_loop_rounds 3 ?_
  rw [rounds_succ]
  go_wp2_with fail
  obtain ⟨Wp0, q0, hW, hq, JQ, yx⟩ := D.part hown (yl) (nh)
  rw [hW, hq]
  clear hW hq D hown
  obtain ⟨c1, c2, c3, c4, s1, s2⟩ := JQ.cells
  refine (Calls.ext (eN (af _ _ _) Vn.out)).mono ?_
  rintro e _ ⟨rfl, y, rfl⟩
  obtain ⟨Wb, hW, Ff, tU⟩ := JQ.ext yx y
  rw [hW]
  clear hW JQ yx
  obtain ⟨c1, c2, c3, c4, s1, s2⟩ := Ff.cells
  go_wp2_with fail
  rw [rounds_succ]
  go_wp2_with fail
  obtain ⟨Wp1, q1, hW, hq, JP, yw⟩ := Ff.part tU (pl) (yh)
  rw [hW, hq]
  clear hW hq Ff tU
  obtain ⟨c1, c2, c3, c4, s1, s2⟩ := JP.cells
  refine (Calls.ext (eN (af _ _ _) Vm.out)).mono ?_
  rintro e _ ⟨rfl, y, rfl⟩
  obtain ⟨Wa, hW, CS, tT⟩ := JP.ext yw y
  rw [hW]
  clear hW JP yw
  obtain ⟨c1, c2, c3, c4, s1, s2⟩ := CS.cells
  go_wp2_with fail
  refine wp_loop_rounds 3 ?_
  rw [rounds_succ]
  go_wp2_with fail
  refine wp_loop_rounds 3 ?_
  rw [rounds_succ]
  go_wp2_with (at_builtin; refine wpList_append_own _ rfl (.tmp 65) (.tmp 69) 220 rfl w.heap.size 2 i0 (.int .i64 0) 1 8 Tryz.underlying220 hi hz0 hz1 hz2 rfl ahW _ _ _ rfl (tT.alloc _) ⟨World.heap Wa |>.size, 0, none⟩ 1 1 [.int .i64 (xl.tdiv pl)] rfl rfl (cell_one_new _ _ _) ahX ahY ahU (CS.bu _) ?_; intro va0 T8 eZ hgrow _)
  have CV := CS.grown (Nat.le_refl _) tT hgrow
  obtain ⟨c1, c2, c3, c4, s1, s2⟩ := CV.cells
  clear hgrow tT CS
  go_wp2_with fail
  rw [rounds_succ]
  go_wp2_with (at_builtin; refine wpList_append_own _ rfl (.tmp 65) (.tmp 69) 220 rfl w.heap.size 2 i0 (.int .i64 0) 1 8 Tryz.underlying220 hi hz0 hz1 hz2 rfl ahW _ _ _ rfl (eZ.alloc _) ⟨World.heap T8 |>.size, 0, none⟩ 1 1 [.int .i64 (xl.tdiv yh)] rfl rfl (cell_one_new _ _ _) ahX ahY ahU (CV.bu _) ?_; intro va1 T7 hown1 hgrow _)
  have CU := CV.grown (Nat.le_refl _) eZ hgrow
  obtain ⟨c1, c2, c3, c4, s1, s2⟩ := CU.cells
  clear hgrow eZ CV
  go_wp2_with fail
  rw [rounds_succ]
  go_wp2_with fail
  rw [rounds_succ]
  go_wp2_with fail
  refine wp_loop_rounds 3 ?_
  rw [rounds_succ]
  go_wp2_with (at_builtin; refine wpList_append_own _ rfl (.tmp 65) (.tmp 69) 220 rfl w.heap.size 2 i0 (.int .i64 0) 1 8 Tryz.underlying220 hi hz0 hz1 hz2 rfl ahW _ _ _ rfl (hown1.alloc _) ⟨World.heap T7 |>.size, 0, none⟩ 1 1 [.int .i64 (xh.tdiv pl)] rfl rfl (cell_one_new _ _ _) ahX ahY ahU (CU.bu _) ?_; intro va2 T6 hown2 hgrow _)
  have CT := CU.grown (Nat.le_refl _) hown1 hgrow
  obtain ⟨c1, c2, c3, c4, s1, s2⟩ := CT.cells
  clear hgrow hown1 CU
  go_wp2_with fail
  rw [rounds_succ]
  go_wp2_with (at_builtin; refine wpList_append_own _ rfl (.tmp 65) (.tmp 69) 220 rfl w.heap.size 2 i0 (.int .i64 0) 1 8 Tryz.underlying220 hi hz0 hz1 hz2 rfl ahW _ _ _ rfl (hown2.alloc _) ⟨World.heap T6 |>.size, 0, none⟩ 1 1 [.int .i64 (xh.tdiv yh)] rfl rfl (cell_one_new _ _ _) ahX ahY ahU (CT.bu _) ?_; intro va3 Wa3 fS hgrow _)
  have FI := CT.grown (Nat.le_refl _) hown2 hgrow
  obtain ⟨c1, c2, c3, c4, s1, s2⟩ := FI.cells
  clear hgrow hown2 CT
  go_wp2_with fail
  rw [rounds_succ]
  go_wp2_with fail
  rw [rounds_succ]
  go_wp2_with fail
  rw [rounds_succ]
  go_wp2_with fail
  obtain ⟨g, cap, hv, hg, hc⟩ := jJ (l := [xl.tdiv pl, xl.tdiv yh, xh.tdiv pl, xh.tdiv yh]) rfl (by simpa using fS) ahZ
  rw [hv]
  obtain ⟨r1, r2, r3, r4, r5⟩ := FI.result
  have kB := FI.below
  clear hv fS FI
  refine (Calls.ext (iU g cap [xl.tdiv pl, xl.tdiv yh, xh.tdiv pl, xh.tdiv yh] _ ahZ ahZ hg hc)).mono ?_
  rintro e _ ⟨rfl, y5, rfl⟩
  clear hc
  go_wp2
  all_goals
   refine bodyPost_ret (v := .agg #[.int .i32 (aK [xl.tdiv pl, xl.tdiv yh, xh.tdiv pl, xh.tdiv yh]).1, .int .i32 (aK [xl.tdiv pl, xl.tdiv yh, xh.tdiv pl, xh.tdiv yh]).2]) ?hr rfl ⟨rfl, ?aD⟩
   case hr =>
    simp [results, Tryz.results145, go_sem, r1, r2, r5]
   case aD =>
    exact aiT
theorem EF (xl xh yl yh : Int) (w : World) (hx1 : -2147483648 ≤ xl) (hx2 : xl ≤ 2147483647) (hx3 : -2147483648 ≤ xh) (hx4 : xh ≤ 2147483647) (hy1 : -2147483648 ≤ yl) (hy2 : yl ≤ 2147483647) (hy3 : -2147483648 ≤ yh) (hy4 : yh ≤ 2147483647) (nh pl : Int) (NH : Hid (min yh (-1) = nh)) (PL : Hid (max yl 1 = pl)) (Fw : Hid ((decide (xl ≤ -2147483648) && decide (-2147483648 ≤ xh)) = false) ∨ Hid ((decide (xl ≤ -2147483648) && decide (-2147483648 ≤ xh)) = true) ∧ Hid ((decide (yl ≤ -1) && decide (-1 ≤ yh)) = false)) (nz : (yl == 0 && yh == 0) = false) (n1 : -2147483648 ≤ nh) (n2 : nh ≤ 2147483647) (n3 : -2147483648 ≤ pl) (n4 : pl ≤ 2147483647) (q1 : yl ≤ nh) (q2 : nh ≤ -1) (q3 : 1 ≤ pl) (q4 : pl ≤ yh) (Vn : Hid (decide (nh < yl) = false)) (Vm : Hid (decide (yh < pl) = false)) :
  Calls Tryz.prog 145 #[.agg #[.int .i32 xl, .int .i32 xh], .agg #[.int .i32 yl, .int .i32 yh]] w fun e w' => e = .returned (.agg #[.int .i32 (aK ([xl.tdiv yl, xl.tdiv nh, xh.tdiv yl, xh.tdiv nh, xl.tdiv pl, xl.tdiv yh, xh.tdiv pl, xh.tdiv yh])).1, .int .i32 (aK ([xl.tdiv yl, xl.tdiv nh, xh.tdiv yl, xh.tdiv nh, xl.tdiv pl, xl.tdiv yh, xh.tdiv pl, xh.tdiv yh])).2]) ∧ Below w.heap.size w w' := by
 obtain ⟨i0, hi, hz0, hz1, hz2⟩ := info_parts uN
 have SD := ix0
 have SC := ix1
 have j0f := OH
 have j1f := OG
 have e2 := ja
 have zyl : (yl == 0) = false := by simp; omega
 have TC := dN xl yl ahU ahU
 have TG := dN xh yl ahU ahU
 have znh : (nh == 0) = false := by simp; omega
 have TF := dN xl nh ahU ahU
 have TL := dN xh nh ahU ahU
 have zpl : (pl == 0) = false := by simp; omega
 have TE := dN xl pl ahU ahU
 have TK := dN xh pl ahU ahU
 have zyh : (yh == 0) = false := by simp; omega
 have TD := dN xl yh ahU ahU
 have TJ := dN xh yh ahU ahU
 go_enter Tryz.func145, Tryz.ntmps145
 go_wp2_with fail
 refine aj ahV ahV ?_
 repeat (go_big_quiet_step ((go_at_call 130; exact Calls.ax (cj _ _))))
 refine wpQuiet_nil ?_
 rintro _ ⟨x1, rfl⟩
 rcases Fw with BX | ⟨BX, BY⟩
 all_goals
  go_wp2_with (first | (go_at_call 153; (first | (with_reducible refine (Calls.ax (eN (bS _ _ _ _) BX.out)).mono ?_) | (with_reducible refine (Calls.ax (eN (bS _ _ _ _) BY.out)).mono ?_)); rintro e _ ⟨rfl, y, rfl⟩))
  obtain ⟨W, hW, D⟩ := sD xl xh yl yh yl (min yh (-1)) (max yl 1) yh w y
  rw [hW]
  clear hW
  have hown : W.ownsRow w.heap.size 2 1 (.slice none 0 0) 0 [] := ⟨rfl, .inl ⟨rfl, rfl⟩⟩
  rw [NH.out, PL.out]
  refine wp_loop_rounds 3 ?_
  rw [rounds_succ]
  go_wp2_with fail
  obtain ⟨Wp0, q0, hW, hq, JQ, yx⟩ := D.part hown (yl) (nh)
  rw [hW, hq]
  clear hW hq D hown
  obtain ⟨c1, c2, c3, c4, s1, s2⟩ := JQ.cells
  refine (Calls.ext (eN (af _ _ _) Vn.out)).mono ?_
  rintro e _ ⟨rfl, y, rfl⟩
  obtain ⟨Wb, hW, Ff, tU⟩ := JQ.ext yx y
  rw [hW]
  clear hW JQ yx
  obtain ⟨c1, c2, c3, c4, s1, s2⟩ := Ff.cells
  go_wp2_with fail
  refine wp_loop_rounds 3 ?_
  rw [rounds_succ]
  go_wp2_with fail
  refine wp_loop_rounds 3 ?_
  rw [rounds_succ]
  go_wp2_with (at_builtin; refine wpList_append_own _ rfl (.tmp 65) (.tmp 69) 220 rfl w.heap.size 2 i0 (.int .i64 0) 1 8 Tryz.underlying220 hi hz0 hz1 hz2 rfl ahW _ _ _ rfl (tU.alloc _) ⟨World.heap Wb |>.size, 0, none⟩ 1 1 [.int .i64 (xl.tdiv yl)] rfl rfl (cell_one_new _ _ _) ahX ahY ahU (Ff.bu _) ?_; intro va0 T8 eZ hgrow _)
  have CV := Ff.grown (Nat.le_refl _) tU hgrow
  obtain ⟨c1, c2, c3, c4, s1, s2⟩ := CV.cells
  clear hgrow tU Ff
  go_wp2_with fail
  rw [rounds_succ]
  go_wp2_with (at_builtin; refine wpList_append_own _ rfl (.tmp 65) (.tmp 69) 220 rfl w.heap.size 2 i0 (.int .i64 0) 1 8 Tryz.underlying220 hi hz0 hz1 hz2 rfl ahW _ _ _ rfl (eZ.alloc _) ⟨World.heap T8 |>.size, 0, none⟩ 1 1 [.int .i64 (xl.tdiv nh)] rfl rfl (cell_one_new _ _ _) ahX ahY ahU (CV.bu _) ?_; intro va1 T7 hown1 hgrow _)
  have CU := CV.grown (Nat.le_refl _) eZ hgrow
  obtain ⟨c1, c2, c3, c4, s1, s2⟩ := CU.cells
  clear hgrow eZ CV
  go_wp2_with fail
  rw [rounds_succ]
  go_wp2_with fail
  rw [rounds_succ]
  go_wp2_with fail
  refine wp_loop_rounds 3 ?_
  rw [rounds_succ]
  go_wp2_with (at_builtin; refine wpList_append_own _ rfl (.tmp 65) (.tmp 69) 220 rfl w.heap.size 2 i0 (.int .i64 0) 1 8 Tryz.underlying220 hi hz0 hz1 hz2 rfl ahW _ _ _ rfl (hown1.alloc _) ⟨World.heap T7 |>.size, 0, none⟩ 1 1 [.int .i64 (xh.tdiv yl)] rfl rfl (cell_one_new _ _ _) ahX ahY ahU (CU.bu _) ?_; intro va2 T6 hown2 hgrow _)
  have CT := CU.grown (Nat.le_refl _) hown1 hgrow
  obtain ⟨c1, c2, c3, c4, s1, s2⟩ := CT.cells
  clear hgrow hown1 CU
  go_wp2_with fail
  rw [rounds_succ]
  go_wp2_with (at_builtin; refine wpList_append_own _ rfl (.tmp 65) (.tmp 69) 220 rfl w.heap.size 2 i0 (.int .i64 0) 1 8 Tryz.underlying220 hi hz0 hz1 hz2 rfl ahW _ _ _ rfl (hown2.alloc _) ⟨World.heap T6 |>.size, 0, none⟩ 1 1 [.int .i64 (xh.tdiv nh)] rfl rfl (cell_one_new _ _ _) ahX ahY ahU (CT.bu _) ?_; intro va3 Wa3 fS hgrow _)
  have FI := CT.grown (Nat.le_refl _) hown2 hgrow
  obtain ⟨c1, c2, c3, c4, s1, s2⟩ := FI.cells
  clear hgrow hown2 CT
  go_wp2_with fail
  rw [rounds_succ]
  go_wp2_with fail
  rw [rounds_succ]
  go_wp2_with fail
  rw [rounds_succ]
  go_wp2_with fail
  obtain ⟨Wp1, q1, hW, hq, JP, yw⟩ := FI.part fS (pl) (yh)
  rw [hW, hq]
  clear hW hq FI fS
  obtain ⟨c1, c2, c3, c4, s1, s2⟩ := JP.cells
  refine (Calls.ext (eN (af _ _ _) Vm.out)).mono ?_
  rintro e _ ⟨rfl, y, rfl⟩
  obtain ⟨Wa, hW, CS, tT⟩ := JP.ext yw y
  rw [hW]
  clear hW JP yw
  obtain ⟨c1, c2, c3, c4, s1, s2⟩ := CS.cells
  go_wp2_with fail
  refine wp_loop_rounds 3 ?_
  rw [rounds_succ]
  go_wp2_with fail
  refine wp_loop_rounds 3 ?_
  rw [rounds_succ]
  go_wp2_with (at_builtin; refine wpList_append_own _ rfl (.tmp 65) (.tmp 69) 220 rfl w.heap.size 2 i0 (.int .i64 0) 1 8 Tryz.underlying220 hi hz0 hz1 hz2 rfl ahW _ _ _ rfl (tT.alloc _) ⟨World.heap Wa |>.size, 0, none⟩ 1 1 [.int .i64 (xl.tdiv pl)] rfl rfl (cell_one_new _ _ _) ahX ahY ahU (CS.bu _) ?_; intro va4 Wa4 kK hgrow _)
  have Xc := CS.grown (Nat.le_refl _) tT hgrow
  obtain ⟨c1, c2, c3, c4, s1, s2⟩ := Xc.cells
  clear hgrow tT CS
  go_wp2_with fail
  rw [rounds_succ]
  go_wp2_with (at_builtin; refine wpList_append_own _ rfl (.tmp 65) (.tmp 69) 220 rfl w.heap.size 2 i0 (.int .i64 0) 1 8 Tryz.underlying220 hi hz0 hz1 hz2 rfl ahW _ _ _ rfl (kK.alloc _) ⟨World.heap Wa4 |>.size, 0, none⟩ 1 1 [.int .i64 (xl.tdiv yh)] rfl rfl (cell_one_new _ _ _) ahX ahY ahU (Xc.bu _) ?_; intro va5 Wa5 Ht hgrow _)
  have Xb := Xc.grown (Nat.le_refl _) kK hgrow
  obtain ⟨c1, c2, c3, c4, s1, s2⟩ := Xb.cells
  clear hgrow kK Xc
  go_wp2_with fail
  rw [rounds_succ]
  go_wp2_with fail
  rw [rounds_succ]
  go_wp2_with fail
  refine wp_loop_rounds 3 ?_
  rw [rounds_succ]
  go_wp2_with (at_builtin; refine wpList_append_own _ rfl (.tmp 65) (.tmp 69) 220 rfl w.heap.size 2 i0 (.int .i64 0) 1 8 Tryz.underlying220 hi hz0 hz1 hz2 rfl ahW _ _ _ rfl (Ht.alloc _) ⟨World.heap Wa5 |>.size, 0, none⟩ 1 1 [.int .i64 (xh.tdiv pl)] rfl rfl (cell_one_new _ _ _) ahX ahY ahU (Xb.bu _) ?_; intro va6 Wa6 Hs hgrow _)
  have Xa := Xb.grown (Nat.le_refl _) Ht hgrow
  obtain ⟨c1, c2, c3, c4, s1, s2⟩ := Xa.cells
  clear hgrow Ht Xb
  go_wp2_with fail
  rw [rounds_succ]
  go_wp2_with (at_builtin; refine wpList_append_own _ rfl (.tmp 65) (.tmp 69) 220 rfl w.heap.size 2 i0 (.int .i64 0) 1 8 Tryz.underlying220 hi hz0 hz1 hz2 rfl ahW _ _ _ rfl (Hs.alloc _) ⟨World.heap Wa6 |>.size, 0, none⟩ 1 1 [.int .i64 (xh.tdiv yh)] rfl rfl (cell_one_new _ _ _) ahX ahY ahU (Xa.bu _) ?_; intro va7 Wa7 M7 hgrow _)
  have WZ := Xa.grown (Nat.le_refl _) Hs hgrow
  obtain ⟨c1, c2, c3, c4, s1, s2⟩ := WZ.cells
  clear hgrow Hs Xa
  go_wp2_with fail
  rw [rounds_succ]
  go_wp2_with fail
  rw [rounds_succ]
  go_wp2_with fail
  rw [rounds_succ]
  go_wp2_with fail
  obtain ⟨g, cap, hv, hg, hc⟩ := jJ (l := [xl.tdiv yl, xl.tdiv nh, xh.tdiv yl, xh.tdiv nh, xl.tdiv pl, xl.tdiv yh, xh.tdiv pl, xh.tdiv yh]) rfl (by simpa using M7) ahZ
  rw [hv]
  obtain ⟨r1, r2, r3, r4, r5⟩ := WZ.result
  have kB := WZ.below
  clear hv M7 WZ
  refine (Calls.ext (iU g cap [xl.tdiv yl, xl.tdiv nh, xh.tdiv yl, xh.tdiv nh, xl.tdiv pl, xl.tdiv yh, xh.tdiv pl, xh.tdiv yh] _ ahZ ahZ hg hc)).mono ?_
  rintro e _ ⟨rfl, y5, rfl⟩
  clear hc
  go_wp2
  all_goals
   refine bodyPost_ret (v := .agg #[.int .i32 (aK [xl.tdiv yl, xl.tdiv nh, xh.tdiv yl, xh.tdiv nh, xl.tdiv pl, xl.tdiv yh, xh.tdiv pl, xh.tdiv yh]).1, .int .i32 (aK [xl.tdiv yl, xl.tdiv nh, xh.tdiv yl, xh.tdiv nh, xl.tdiv pl, xl.tdiv yh, xh.tdiv pl, xh.tdiv yh]).2]) ?hr rfl ⟨rfl, ?aD⟩
   case hr =>
    simp [results, Tryz.results145, go_sem, r1, r2, r5]
   case aD =>
    exact aiT
theorem yJ (xl xh yl yh : Int) (w : World) (nz : (yl == 0 && yh == 0) = true) (BX : True) (BY : True) :
  Calls Tryz.prog 145 #[.agg #[.int .i32 xl, .int .i32 xh], .agg #[.int .i32 yl, .int .i32 yh]] w fun e w' => e = .returned (.agg #[.int .i32 (1), .int .i32 (0)]) ∧ Below w.heap.size w w' := by
 have e2 := ja
 go_enter Tryz.func145, Tryz.ntmps145
 go_wp2_with fail
 refine aj ahV ahV ?_
 repeat (go_big_quiet_step ((go_at_call 130; exact Calls.ax (cj _ _))))
 refine wpQuiet_nil ?_
 rintro _ ⟨x1, rfl⟩
 go_wp2_with (first | (go_at_call 128; ((first | (with_reducible refine (Calls.ax (av _)).mono ?_) | (refine (Calls.ext (av _)).mono ?_)); rintro e _ ⟨rfl, y, rfl⟩)) | (go_at_call 133; ((first | (with_reducible refine (Calls.ax (aZ _)).mono ?_) | (refine (Calls.ext (aZ _)).mono ?_)); rintro e _ ⟨rfl, y, rfl⟩)) | (go_at_call 153; (first | (with_reducible refine (Calls.ax (eN (bS _ _ _ _) BX.out)).mono ?_) | (with_reducible refine (Calls.ax (eN (bS _ _ _ _) BY.out)).mono ?_)); rintro e _ ⟨rfl, y, rfl⟩))
 all_goals
  refine bodyPost_ret (v := .agg #[.int .i32 (1), .int .i32 (0)]) ?hr rfl ⟨rfl, ?aD⟩
  case hr =>
   simp [results, Tryz.results145, go_sem]
  case aD =>
   exact aiS
theorem yK (xl xh yl yh : Int) (w : World) (nz : (yl == 0 && yh == 0) = false) (BX : Hid ((decide (xl ≤ -2147483648) && decide (-2147483648 ≤ xh)) = true)) (BY : Hid ((decide (yl ≤ -1) && decide (-1 ≤ yh)) = true)) :
  Calls Tryz.prog 145 #[.agg #[.int .i32 xl, .int .i32 xh], .agg #[.int .i32 yl, .int .i32 yh]] w fun e w' => e = .returned (.agg #[.int .i32 (-2147483648), .int .i32 (2147483647)]) ∧ Below w.heap.size w w' := by
 have e2 := ja
 go_enter Tryz.func145, Tryz.ntmps145
 go_wp2_with fail
 refine aj ahV ahV ?_
 repeat (go_big_quiet_step ((go_at_call 130; exact Calls.ax (cj _ _))))
 refine wpQuiet_nil ?_
 rintro _ ⟨x1, rfl⟩
 go_wp2_with (first | (go_at_call 128; ((first | (with_reducible refine (Calls.ax (av _)).mono ?_) | (refine (Calls.ext (av _)).mono ?_)); rintro e _ ⟨rfl, y, rfl⟩)) | (go_at_call 133; ((first | (with_reducible refine (Calls.ax (aZ _)).mono ?_) | (refine (Calls.ext (aZ _)).mono ?_)); rintro e _ ⟨rfl, y, rfl⟩)) | (go_at_call 153; (first | (with_reducible refine (Calls.ax (eN (bS _ _ _ _) BX.out)).mono ?_) | (with_reducible refine (Calls.ax (eN (bS _ _ _ _) BY.out)).mono ?_)); rintro e _ ⟨rfl, y, rfl⟩))
 all_goals
  refine bodyPost_ret (v := .agg #[.int .i32 (-2147483648), .int .i32 (2147483647)]) ?hr rfl ⟨rfl, ?aD⟩
  case hr =>
   simp [results, Tryz.results145, go_sem]
  case aD =>
   exact aiS
theorem AV (xl xh yl yh : Int) (w : World) (hx1 : -2147483648 ≤ xl) (hx2 : xl ≤ 2147483647) (hx3 : -2147483648 ≤ xh) (hx4 : xh ≤ 2147483647) (hy1 : -2147483648 ≤ yl) (hy2 : yl ≤ 2147483647) (hy3 : -2147483648 ≤ yh) (hy4 : yh ≤ 2147483647) (he : xl ≤ xh) (he' : yl ≤ yh) :
  Calls Tryz.prog 145 #[.agg #[.int .i32 xl, .int .i32 xh], .agg #[.int .i32 yl, .int .i32 yh]] w fun e w' => e = .returned (.agg #[.int .i32 (wB (xl, xh) (yl, yh)).1, .int .i32 (wB (xl, xh) (yl, yh)).2]) ∧ Below w.heap.size w w' := by
 by_cases z : yl = 0 ∧ yh = 0
 ·refine (yJ xl xh yl yh w (by simpa using z) trivial trivial).mono fun e' w' ⟨q, hb⟩ => ⟨q.trans ?_, hb⟩
  rw [wB, if_pos z]
 ·have nz : (yl == 0 && yh == 0) = false := by simpa using z
  have nz' : yl < 0 ∨ 0 < yh := by omega
  by_cases b : (xl ≤ -2147483648 ∧ -2147483648 ≤ xh) ∧ (yl ≤ -1 ∧ -1 ≤ yh)
  ·refine (yK xl xh yl yh w nz (aiU (by simpa using b.1)) (aiU (by simpa using b.2))).mono fun e' w' ⟨q, hb⟩ => ⟨q.trans ?_, hb⟩
   rw [wB, if_neg z, if_pos b]
  ·have ev : wB (xl, xh) (yl, yh) = aK (ID (xl, xh) (yl, yh)) := by rw [wB, if_neg z, if_neg b]
   rw [ev]
   have Fw : Hid ((decide (xl ≤ -2147483648) && decide (-2147483648 ≤ xh)) = false) ∨ Hid ((decide (xl ≤ -2147483648) && decide (-2147483648 ≤ xh)) = true) ∧ Hid ((decide (yl ≤ -1) && decide (-1 ≤ yh)) = false) := by
    by_cases bx : xl ≤ -2147483648 ∧ -2147483648 ≤ xh
    ·have by' : ¬ (yl ≤ -1 ∧ -1 ≤ yh) := fun h => b ⟨bx, h⟩
     exact .inr ⟨aiU (by simpa using bx), aiU (by simpa using by')⟩
    ·exact .inl (aiU (by simpa using bx))
   by_cases c1 : yl < 0
   ·by_cases c2 : 0 < yh
    ·refine (EF xl xh yl yh w hx1 hx2 hx3 hx4 hy1 hy2 hy3 hy4 (min yh (-1)) (max yl 1) (aiU rfl) (aiU rfl) Fw nz ahU ahU ahU ahU ahU ahU ahU ahU (aiU aia) (aiU aia)).mono fun e' w' ⟨q, hb⟩ => ⟨q.trans (rF (congrArg aK ?_)), hb⟩
     simp [ID, divC, c1, c2]
    ·refine (IC xl xh yl yh w hx1 hx2 hx3 hx4 hy1 hy2 hy3 hy4 (min yh (-1)) (max yl 1) (aiU rfl) (aiU rfl) Fw nz ahU ahU ahU ahU ahU ahU ahU (aiU aia) (aiU aia)).mono fun e' w' ⟨q, hb⟩ => ⟨q.trans (rF (congrArg aK ?_)), hb⟩
     simp [ID, divC, c1, c2]
   ·have c2 : 0 < yh := by omega
    refine (IB xl xh yl yh w hx1 hx2 hx3 hx4 hy1 hy2 hy3 hy4 (min yh (-1)) (max yl 1) (aiU rfl) (aiU rfl) Fw nz ahU ahU ahU ahU ahU ahU ahU (aiU aia) (aiU aia)).mono fun e' w' ⟨q, hb⟩ => ⟨q.trans (rF (congrArg aK ?_)), hb⟩
    simp [ID, divC, c1, c2]
def l7 (op : Int) (x y : Int × Int) : Int × Int :=
 if op = 6 then aK [x.1 + y.1, x.1 + y.2, x.2 + y.1, x.2 + y.2] else if op = 7 then aK [x.1 - y.1, x.1 - y.2, x.2 - y.1, x.2 - y.2]
 else if op = 8 then aK [x.1 * y.1, x.1 * y.2, x.2 * y.1, x.2 * y.2] else if op = 9 then wB x y else if op = 10 then gT x y
 else if op ≤ 13 then s8 op x y else if op ≤ 15 then Fh op x y else if op ≤ 21 then IQ op x y else GL op x y
theorem E3 (op xl xh yl yh : Int) (w : World) (hx1 : -2147483648 ≤ xl) (hx2 : xl ≤ 2147483647) (hx3 : -2147483648 ≤ xh) (hx4 : xh ≤ 2147483647) (hy1 : -2147483648 ≤ yl) (hy2 : yl ≤ 2147483647) (hy3 : -2147483648 ≤ yh) (hy4 : yh ≤ 2147483647) (hop : op = 9 ∨ (11 ≤ op ∧ op ≤ 23)) (nO : xl ≤ xh) (pz : yl ≤ yh) (hs : ¬ (xl = xh ∧ yl = yh)) :
  Calls Tryz.prog 131 #[.int .u8 op, .agg #[.int .i32 xl, .int .i32 xh], .agg #[.int .i32 yl, .int .i32 yh]] w fun e w' => e = .returned (.agg #[.int .i32 (l7 op (xl, xh) (yl, yh)).1, .int .i32 (l7 op (xl, xh) (yl, yh)).2]) ∧ Below w.heap.size w w' := by
 obtain ⟨g1, hg1⟩ : ∃ g, (l7 op (xl, xh) (yl, yh)).1 = g := ⟨_, rfl⟩
 obtain ⟨g2, hg2⟩ : ∃ g, (l7 op (xl, xh) (yl, yh)).2 = g := ⟨_, rfl⟩
 have HD := aiU (fun (h : op = 9) (W : World) => show Calls Tryz.prog 145 #[.agg #[.int .i32 xl, .int .i32 xh], .agg #[.int .i32 yl, .int .i32 yh]] W fun e w' => e = .returned (.agg #[.int .i32 g1, .int .i32 g2]) ∧ Below W.heap.size W w' by
  have hc := AV xl xh yl yh W hx1 hx2 hx3 hx4 hy1 hy2 hy3 hy4 nO pz
  rw [show wB (xl, xh) (yl, yh) = l7 op (xl, xh) (yl, yh) by unfold l7; rw [if_neg ahU, if_neg ahU, if_neg ahU, if_pos h], hg1, hg2] at hc
  exact hc)
 have HB := aiU (fun (h : 11 ≤ op ∧ op ≤ 13) (W : World) => show Calls Tryz.prog 147 #[.int .u8 op, .agg #[.int .i32 xl, .int .i32 xh], .agg #[.int .i32 yl, .int .i32 yh]] W fun e w' => e = .returned (.agg #[.int .i32 g1, .int .i32 g2]) ∧ Below W.heap.size W w' by
  have hc := yZ op xl xh yl yh W hx3 hx4 hy3 hy4 h.1 h.2 nO pz
  rw [show s8 op (xl, xh) (yl, yh) = l7 op (xl, xh) (yl, yh) by unfold l7; rw [if_neg ahU, if_neg ahU, if_neg ahU, if_neg ahU, if_neg ahU, if_pos ahU], hg1, hg2] at hc
  exact hc)
 have HS := aiU (fun (h : 14 ≤ op ∧ op ≤ 15) (W : World) => show Calls Tryz.prog 148 #[.int .u8 op, .agg #[.int .i32 xl, .int .i32 xh], .agg #[.int .i32 yl, .int .i32 yh]] W fun e w' => e = .returned (.agg #[.int .i32 g1, .int .i32 g2]) ∧ Below W.heap.size W w' by
  have hc := Ds op xl xh yl yh W hx1 hx2 hx3 hx4 hy1 hy2 h.1 h.2
  rw [show Fh op (xl, xh) (yl, yh) = l7 op (xl, xh) (yl, yh) by unfold l7; rw [if_neg ahU, if_neg ahU, if_neg ahU, if_neg ahU, if_neg ahU, if_neg ahU, if_pos ahU], hg1, hg2] at hc
  exact hc)
 have HC := aiU (fun (h : 16 ≤ op ∧ op ≤ 21) (W : World) => show Calls Tryz.prog 150 #[.int .u8 op, .agg #[.int .i32 xl, .int .i32 xh], .agg #[.int .i32 yl, .int .i32 yh]] W fun e w' => e = .returned (.agg #[.int .i32 g1, .int .i32 g2]) ∧ Below W.heap.size W w' by
  have hc := yM op xl xh yl yh W h.1 h.2
  rw [show IQ op (xl, xh) (yl, yh) = l7 op (xl, xh) (yl, yh) by unfold l7; rw [if_neg ahU, if_neg ahU, if_neg ahU, if_neg ahU, if_neg ahU, if_neg ahU, if_neg ahU, if_pos ahU], hg1, hg2] at hc
  exact hc)
 have HL := aiU (fun (h : 22 ≤ op ∧ op ≤ 23) (W : World) => show Calls Tryz.prog 149 #[.int .u8 op, .agg #[.int .i32 xl, .int .i32 xh], .agg #[.int .i32 yl, .int .i32 yh]] W fun e w' => e = .returned (.agg #[.int .i32 g1, .int .i32 g2]) ∧ Below W.heap.size W w' by
  have hc := Ea op xl xh yl yh W h.1 h.2
  rw [show GL op (xl, xh) (yl, yh) = l7 op (xl, xh) (yl, yh) by unfold l7; rw [if_neg ahU, if_neg ahU, if_neg ahU, if_neg ahU, if_neg ahU, if_neg ahU, if_neg ahU, if_neg ahU], hg1, hg2] at hc
  exact hc)
 have zb := aiU hg1
 have MA := aiU hg2
 have d1 : decide (xh < xl) = false := by simp; omega
 have d2 : decide (yh < yl) = false := by simp; omega
 have hq : (xl == xh) = false ∨ ((xl == xh) = true ∧ (yl == yh) = false) := by simp; omega
 have h13 : op = 9 ∨ op = 11 ∨ op = 12 ∨ op = 13 ∨ op = 14 ∨ op = 15 ∨ op = 16 ∨ op = 17 ∨ op = 18 ∨ op = 19 ∨ op = 20 ∨ op = 21 ∨ op = 22 ∨ op = 23 := by omega
 clear hg1 hg2 nO pz hs hop
 rcases h13 with rfl | rfl | rfl | rfl | rfl | rfl | rfl | rfl | rfl | rfl | rfl | rfl | rfl | rfl <;> rcases hq with hq | ⟨hq, hq2⟩
 all_goals
  go_enter Tryz.func131, Tryz.ntmps131
  go_wp2_with (first | (go_at_call 127; ((first | (with_reducible refine (Calls.ax (af _ _ _)).mono ?_) | (refine (Calls.ext (af _ _ _)).mono ?_)); rintro e _ ⟨rfl, y, rfl⟩)) | (go_at_call 143; ((first | (with_reducible refine (Calls.ax (aH _ _ _)).mono ?_) | (refine (Calls.ext (aH _ _ _)).mono ?_)); rintro e _ ⟨rfl, y, rfl⟩)) | (go_at_call 145; ((first | (with_reducible refine (Calls.ax (HD.out ahW _)).mono ?_) | (refine (Calls.ext (HD.out ahW _)).mono ?_)); rintro e _ ⟨rfl, y, rfl⟩)) | (go_at_call 147; ((first | (with_reducible refine (Calls.ax (HB.out ahW _)).mono ?_) | (refine (Calls.ext (HB.out ahW _)).mono ?_)); rintro e _ ⟨rfl, y, rfl⟩)) | (go_at_call 148; ((first | (with_reducible refine (Calls.ax (HS.out ahW _)).mono ?_) | (refine (Calls.ext (HS.out ahW _)).mono ?_)); rintro e _ ⟨rfl, y, rfl⟩)) | (go_at_call 150; ((first | (with_reducible refine (Calls.ax (HC.out ahW _)).mono ?_) | (refine (Calls.ext (HC.out ahW _)).mono ?_)); rintro e _ ⟨rfl, y, rfl⟩)) | (go_at_call 149; ((first | (with_reducible refine (Calls.ax (HL.out ahW _)).mono ?_) | (refine (Calls.ext (HL.out ahW _)).mono ?_)); rintro e _ ⟨rfl, y, rfl⟩)))
  all_goals
   refine bodyPost_ret (v := .agg #[.int .i32 g1, .int .i32 g2]) ?hr rfl ⟨by rw [zb.out, MA.out], ?aD⟩
   case hr =>
    simp [results, Tryz.results131, go_sem]
   case aD =>
    exact aiS
theorem wN (op xl xh yl yh : Int) (w : World) (h : op < 6) :
  Calls Tryz.prog 131 #[.int .u8 op, .agg #[.int .i32 xl, .int .i32 xh], .agg #[.int .i32 yl, .int .i32 yh]] w fun e w' => e = .returned (.agg #[.int .i32 (-2147483648), .int .i32 2147483647]) ∧ Below w.heap.size w w' := by
 have d1 : decide (op < 6) = true := by simpa using h
 go_enter Tryz.func131, Tryz.ntmps131
 go_wp2_with (first | (go_at_call 133; ((first | (with_reducible refine (Calls.ax (aZ _)).mono ?_) | (refine (Calls.ext (aZ _)).mono ?_)); rintro e _ ⟨rfl, y, rfl⟩)))
 all_goals
  refine bodyPost_ret (v := .agg #[.int .i32 (-2147483648), .int .i32 2147483647]) ?hr rfl ⟨rfl, ?aD⟩
  case hr =>
   simp [results, Tryz.results131, go_sem]
  case aD =>
   exact aiS
theorem wO (op xl xh yl yh : Int) (w : World) (h : 23 < op) :
  Calls Tryz.prog 131 #[.int .u8 op, .agg #[.int .i32 xl, .int .i32 xh], .agg #[.int .i32 yl, .int .i32 yh]] w fun e w' => e = .returned (.agg #[.int .i32 (-2147483648), .int .i32 2147483647]) ∧ Below w.heap.size w w' := by
 have d1 : decide (op < 6) = false := by simp; omega
 have d2 : decide (23 < op) = true := by simpa using h
 go_enter Tryz.func131, Tryz.ntmps131
 go_wp2_with (first | (go_at_call 133; ((first | (with_reducible refine (Calls.ax (aZ _)).mono ?_) | (refine (Calls.ext (aZ _)).mono ?_)); rintro e _ ⟨rfl, y, rfl⟩)))
 all_goals
  refine bodyPost_ret (v := .agg #[.int .i32 (-2147483648), .int .i32 2147483647]) ?hr rfl ⟨rfl, ?aD⟩
  case hr =>
   simp [results, Tryz.results131, go_sem]
  case aD =>
   exact aiS
theorem y8 (op xl xh yl yh : Int) (w : World) (h1 : 6 ≤ op) (h2 : op ≤ 23) (h : xh < xl) :
  Calls Tryz.prog 131 #[.int .u8 op, .agg #[.int .i32 xl, .int .i32 xh], .agg #[.int .i32 yl, .int .i32 yh]] w fun e w' => e = .returned (.agg #[.int .i32 1, .int .i32 0]) ∧ Below w.heap.size w w' := by
 have d1 : decide (op < 6) = false := by simp; omega
 have d2 : decide (23 < op) = false := by simp; omega
 have d3 : decide (xh < xl) = true := by simpa using h
 go_enter Tryz.func131, Tryz.ntmps131
 go_wp2_with (first | (go_at_call 127; ((first | (with_reducible refine (Calls.ax (af _ _ _)).mono ?_) | (refine (Calls.ext (af _ _ _)).mono ?_)); rintro e _ ⟨rfl, y, rfl⟩)) | (go_at_call 128; ((first | (with_reducible refine (Calls.ax (av _)).mono ?_) | (refine (Calls.ext (av _)).mono ?_)); rintro e _ ⟨rfl, y, rfl⟩)))
 all_goals
  refine bodyPost_ret (v := .agg #[.int .i32 1, .int .i32 0]) ?hr rfl ⟨rfl, ?aD⟩
  case hr =>
   simp [results, Tryz.results131, go_sem]
  case aD =>
   exact aiS
theorem y7 (op xl xh yl yh : Int) (w : World) (h1 : 6 ≤ op) (h2 : op ≤ 23) (h : ¬ xh < xl) (h' : yh < yl) :
  Calls Tryz.prog 131 #[.int .u8 op, .agg #[.int .i32 xl, .int .i32 xh], .agg #[.int .i32 yl, .int .i32 yh]] w fun e w' => e = .returned (.agg #[.int .i32 1, .int .i32 0]) ∧ Below w.heap.size w w' := by
 have d1 : decide (op < 6) = false := by simp; omega
 have d2 : decide (23 < op) = false := by simp; omega
 have d3 : decide (xh < xl) = false := by simpa using h
 have d4 : decide (yh < yl) = true := by simpa using h'
 go_enter Tryz.func131, Tryz.ntmps131
 go_wp2_with (first | (go_at_call 127; ((first | (with_reducible refine (Calls.ax (af _ _ _)).mono ?_) | (refine (Calls.ext (af _ _ _)).mono ?_)); rintro e _ ⟨rfl, y, rfl⟩)) | (go_at_call 128; ((first | (with_reducible refine (Calls.ax (av _)).mono ?_) | (refine (Calls.ext (av _)).mono ?_)); rintro e _ ⟨rfl, y, rfl⟩)))
 all_goals
  refine bodyPost_ret (v := .agg #[.int .i32 1, .int .i32 0]) ?hr rfl ⟨rfl, ?aD⟩
  case hr =>
   simp [results, Tryz.results131, go_sem]
  case aD =>
   exact aiS
theorem qC (op n m : Int) (w : World) (h1 : 6 ≤ op) (h2 : op ≤ 23) (hn : bg n) (hm : bg m) (we0 : (we op m != 0) = false) :
  Calls Tryz.prog 131 #[.int .u8 op, .agg #[.int .i32 n, .int .i32 n], .agg #[.int .i32 m, .int .i32 m]] w fun e w' => e = .returned (.agg #[.int .i32 (wv op n m), .int .i32 (wv op n m)]) ∧ Below w.heap.size w w' := by
 have d1 : decide (op < 6) = false := by simp; omega
 have d2 : decide (23 < op) = false := by simp; omega
 have d3 : decide (n < n) = false := by simp
 have d4 : decide (m < m) = false := by simp
 have d5 : (n == n) = true := by simp
 have d6 : (m == m) = true := by simp
 have we1 : (we op m == 0) = true := by simpa using we0
 go_enter Tryz.func131, Tryz.ntmps131
 go_wp2_with (first | (go_at_call 127; ((first | (with_reducible refine (Calls.ax (af _ _ _)).mono ?_) | (refine (Calls.ext (af _ _ _)).mono ?_)); rintro e _ ⟨rfl, y, rfl⟩)) | (go_at_call 143; ((first | (with_reducible refine (Calls.ax (aH _ _ _)).mono ?_) | (refine (Calls.ext (aH _ _ _)).mono ?_)); rintro e _ ⟨rfl, y, rfl⟩)) | (go_at_call 128; ((first | (with_reducible refine (Calls.ax (av _)).mono ?_) | (refine (Calls.ext (av _)).mono ?_)); rintro e _ ⟨rfl, y, rfl⟩)) | (go_at_call 130; ((first | (with_reducible refine (Calls.ax (cj _ _)).mono ?_) | (refine (Calls.ext (cj _ _)).mono ?_)); rintro e _ ⟨rfl, y, rfl⟩)) | (go_at_call 95; refine (Calls.iE (qX _ _ _ _ hn hm)).mono ?_; rintro e _ ⟨rfl, y, rfl⟩))
 all_goals
  refine bodyPost_ret (v := .agg #[.int .i32 (wv op n m), .int .i32 (wv op n m)]) ?hr rfl ⟨rfl, ?aD⟩
  case hr =>
   simp [results, Tryz.results131, go_sem]
  case aD =>
   exact aiS
theorem qD (op n m : Int) (w : World) (h1 : 6 ≤ op) (h2 : op ≤ 23) (hn : bg n) (hm : bg m) (we0 : (we op m != 0) = true) :
  Calls Tryz.prog 131 #[.int .u8 op, .agg #[.int .i32 n, .int .i32 n], .agg #[.int .i32 m, .int .i32 m]] w fun e w' => e = .returned (.agg #[.int .i32 1, .int .i32 0]) ∧ Below w.heap.size w w' := by
 have d1 : decide (op < 6) = false := by simp; omega
 have d2 : decide (23 < op) = false := by simp; omega
 have d3 : decide (n < n) = false := by simp
 have d4 : decide (m < m) = false := by simp
 have d5 : (n == n) = true := by simp
 have d6 : (m == m) = true := by simp
 have we1 : (we op m == 0) = false := by simpa using we0
 go_enter Tryz.func131, Tryz.ntmps131
 go_wp2_with (first | (go_at_call 127; ((first | (with_reducible refine (Calls.ax (af _ _ _)).mono ?_) | (refine (Calls.ext (af _ _ _)).mono ?_)); rintro e _ ⟨rfl, y, rfl⟩)) | (go_at_call 143; ((first | (with_reducible refine (Calls.ax (aH _ _ _)).mono ?_) | (refine (Calls.ext (aH _ _ _)).mono ?_)); rintro e _ ⟨rfl, y, rfl⟩)) | (go_at_call 128; ((first | (with_reducible refine (Calls.ax (av _)).mono ?_) | (refine (Calls.ext (av _)).mono ?_)); rintro e _ ⟨rfl, y, rfl⟩)) | (go_at_call 130; ((first | (with_reducible refine (Calls.ax (cj _ _)).mono ?_) | (refine (Calls.ext (cj _ _)).mono ?_)); rintro e _ ⟨rfl, y, rfl⟩)) | (go_at_call 95; refine (Calls.iE (qX _ _ _ _ hn hm)).mono ?_; rintro e _ ⟨rfl, y, rfl⟩))
 all_goals
  refine bodyPost_ret (v := .agg #[.int .i32 1, .int .i32 0]) ?hr rfl ⟨rfl, ?aD⟩
  case hr =>
   simp [results, Tryz.results131, go_sem]
  case aD =>
   exact aiS
def cJ (op : Int) (x y : Int × Int) : Int × Int :=
 if op < 6 ∨ 23 < op then (-2147483648, 2147483647) else if x.2 < x.1 ∨ y.2 < y.1 then (1, 0)
 else if x.1 = x.2 ∧ y.1 = y.2 then (if we op y.1 = 0 then (wv op x.1 y.1, wv op x.1 y.1) else (1, 0))
 else l7 op x y
theorem pM (op xl xh yl yh : Int) (w : World) (hx1 : -2147483648 ≤ xl) (hx2 : xl ≤ 2147483647) (hx3 : -2147483648 ≤ xh) (hx4 : xh ≤ 2147483647) (hy1 : -2147483648 ≤ yl) (hy2 : yl ≤ 2147483647) (hy3 : -2147483648 ≤ yh) (hy4 : yh ≤ 2147483647) :
  Calls Tryz.prog 131 #[.int .u8 op, .agg #[.int .i32 xl, .int .i32 xh], .agg #[.int .i32 yl, .int .i32 yh]] w fun e w' => e = .returned (.agg #[.int .i32 (cJ op (xl, xh) (yl, yh)).1, .int .i32 (cJ op (xl, xh) (yl, yh)).2]) ∧ Below w.heap.size w w' := by
 by_cases o1 : op < 6
 ·refine (wN op xl xh yl yh w o1).mono fun e w' ⟨q, hb⟩ => ⟨q.trans ?_, hb⟩
  rw [cJ, if_pos (.inl o1)]
 by_cases o2 : 23 < op
 ·refine (wO op xl xh yl yh w o2).mono fun e w' ⟨q, hb⟩ => ⟨q.trans ?_, hb⟩
  rw [cJ, if_pos (.inr o2)]
 have no : ¬ (op < 6 ∨ 23 < op) := by omega
 by_cases e1 : xh < xl
 ·refine (y8 op xl xh yl yh w ahU ahU e1).mono fun e w' ⟨q, hb⟩ => ⟨q.trans ?_, hb⟩
  rw [cJ, if_neg no, if_pos (.inl e1)]
 by_cases e2 : yh < yl
 ·refine (y7 op xl xh yl yh w ahU ahU e1 e2).mono fun e w' ⟨q, hb⟩ => ⟨q.trans ?_, hb⟩
  rw [cJ, if_neg no, if_pos (.inr e2)]
 have ne : ¬ (xh < xl ∨ yh < yl) := by omega
 by_cases s : xl = xh ∧ yl = yh
 ·obtain ⟨rfl, rfl⟩ := s
  by_cases k : we op yl = 0
  ·refine (qC op xl yl w ahU ahU ⟨hx1, hx2⟩ ⟨hy1, hy2⟩ (by simpa using k)).mono fun e w' ⟨q, hb⟩ => ⟨q.trans ?_, hb⟩
   rw [cJ, if_neg no, if_neg ne, if_pos ⟨rfl, rfl⟩, if_pos k]
  ·refine (qD op xl yl w ahU ahU ⟨hx1, hx2⟩ ⟨hy1, hy2⟩ (by simpa using k)).mono fun e w' ⟨q, hb⟩ => ⟨q.trans ?_, hb⟩
   rw [cJ, if_neg no, if_neg ne, if_pos ⟨rfl, rfl⟩, if_neg k]
 ·have ev : cJ op (xl, xh) (yl, yh) = l7 op (xl, xh) (yl, yh) := by rw [cJ, if_neg no, if_neg ne, if_neg s]
  rw [ev]
  by_cases hm : op = 9 ∨ (11 ≤ op ∧ op ≤ 23)
  ·exact E3 op xl xh yl yh w hx1 hx2 hx3 hx4 hy1 hy2 hy3 hy4 hm ahU ahU s
  have h4 : op = 6 ∨ op = 7 ∨ op = 8 ∨ op = 10 := by omega
  rcases h4 with rfl | rfl | rfl | rfl
  ·exact Mm xl xh yl yh w hx1 hx2 hx3 hx4 hy1 hy2 hy3 hy4 ahU ahU s
  ·exact Ml xl xh yl yh w hx1 hx2 hx3 hx4 hy1 hy2 hy3 hy4 ahU ahU s
  ·exact Mk xl xh yl yh w hx1 hx2 hx3 hx4 hy1 hy2 hy3 hy4 ahU ahU s
  ·exact Jm xl xh yl yh w hx1 hx2 hx3 hx4 hy1 hy2 hy3 hy4 ahU ahU s
end
section
open Go.RowKit
open Go.RowKit
open Go.RowKit
theorem Ak (x y : Int × Int) : (x.2 < x.1 ∧ y.2 < y.1 ∧ bH x y = (1, 0)) ∨ (x.2 < x.1 ∧ ¬ y.2 < y.1 ∧ bH x y = y) ∨ (¬ x.2 < x.1 ∧ y.2 < y.1 ∧ bH x y = x) ∨ (¬ x.2 < x.1 ∧ ¬ y.2 < y.1 ∧ bH x y = (min x.1 y.1, max x.2 y.2)) := by
 by_cases h1 : x.2 < x.1 <;> by_cases h2 : y.2 < y.1 <;> simp [bH, emp, h1, h2]
theorem within_iff (x y : Int × Int) : vw x y = true ↔ (x.2 < x.1 ∨ (y.1 ≤ x.1 ∧ x.2 ≤ y.2)) := by
 simp [vw, emp]
theorem Eh (x y : Int × Int) : vw x (bH x y) = true := by
 rw [within_iff]
 rcases Ak x y with ⟨h1, h2, h⟩ | ⟨h1, h2, h⟩ | ⟨h1, h2, h⟩ | ⟨h1, h2, h⟩ <;> rw [h] <;> (try dsimp only) <;> omega
def Mem (v : Int) (z : Int × Int) : Prop := z.1 ≤ v ∧ v ≤ z.2
def Ry (v : Int) (l : List Int) : Prop := ∃ p q, p ∈ l ∧ q ∈ l ∧ p ≤ v ∧ v ≤ q
theorem pR (v : Int) : bg (wrap32 v) := by unfold bg wrap32; omega
theorem wm (l : List Int) : ∀ a : Int, l.foldl min a ≤ a ∧ ∀ x ∈ l, l.foldl min a ≤ x := by
 induction l with
 | nil => intro a; exact ⟨Int.le_refl _, fun x h => by cases h⟩
 | cons y l ih =>
  intro a
  have h := ih (min a y)
  simp only [List.foldl_cons]
  refine ⟨by omega, fun x hx => ?_⟩
  rcases List.mem_cons.1 hx with rfl | hx
  ·omega
  ·exact h.2 x hx
theorem vO (l : List Int) : ∀ a : Int, a ≤ l.foldl max a ∧ ∀ x ∈ l, x ≤ l.foldl max a := by
 induction l with
 | nil => intro a; exact ⟨Int.le_refl _, fun x h => by cases h⟩
 | cons y l ih =>
  intro a
  have h := ih (max a y)
  simp only [List.foldl_cons]
  refine ⟨by omega, fun x hx => ?_⟩
  rcases List.mem_cons.1 hx with rfl | hx
  ·omega
  ·exact h.2 x hx
theorem nW {l : List Int} (h : l ≠ []) : nth l 0 ∈ l := by
 cases l with
 | nil => exact absurd rfl h
 | cons a l => simp [nth]
theorem Oz {l : List Int} {x : Int} (h : x ∈ l) : Fj l ≤ x := (wm l _).2 x h
theorem OA {l : List Int} {x : Int} (h : x ∈ l) : x ≤ r9 l := (vO l _).2 x h
theorem Ap (l : List Int) : aK l = (-2147483648, 2147483647) ∨ (aK l = (Fj l, r9 l) ∧ -2147483648 ≤ Fj l ∧ r9 l ≤ 2147483647) := by
 unfold aK
 split
 ·exact .inl rfl
 ·exact .inr ⟨rfl, by omega, by omega⟩
theorem Ry.left {v : Int} {l m : List Int} (h : Ry v l) : Ry v (l ++ m) := by
 obtain ⟨p, q, hp, hq, h⟩ := h
 exact ⟨p, q, List.mem_append_left _ hp, List.mem_append_left _ hq, h⟩
theorem Ry.right {v : Int} {l m : List Int} (h : Ry v m) : Ry v (l ++ m) := by
 obtain ⟨p, q, hp, hq, h⟩ := h
 exact ⟨p, q, List.mem_append_right _ hp, List.mem_append_right _ hq, h⟩
theorem Gn (n : Nat) : (0 : Int) < 2 ^ n := by have := (vH n n (Nat.le_refl _)).1; omega
theorem Ob (a : Int) (n : Nat) : (0 ≤ a → 0 ≤ a / 2 ^ n ∧ a / 2 ^ n ≤ a) ∧ (a < 0 → a ≤ a / 2 ^ n ∧ a / 2 ^ n < 0) := by
 have hp := Gn n
 constructor
 ·intro h
  exact ⟨Int.ediv_nonneg h ahU, Int.ediv_le_self _ h⟩
 ·intro h
  refine ⟨?_, Int.ediv_neg_of_neg_of_pos h hp⟩
  rw [Int.le_ediv_iff_mul_le hp]
  have := Int.mul_le_mul_of_nonpos_left (a := a) (b := 2 ^ n) (c := 1) ahU ahU
  rw [Int.mul_one] at this
  exact this
theorem Hh (op : BinOp) (a b : Int) : bits op .i32 a b = wrap32 ((match op with
  | .and => BitVec.ofInt 32 a &&& BitVec.ofInt 32 b
  | .or => BitVec.ofInt 32 a ||| BitVec.ofInt 32 b
  | .xor => BitVec.ofInt 32 a ^^^ BitVec.ofInt 32 b
  | _ => BitVec.ofInt 32 a &&& ~~~(BitVec.ofInt 32 b)).toNat : Nat) := by
 have w : ∀ n : Int, IntKind.i32.wrap n = wrap32 n := fun n => by rw [IntKind.wrap_i32, wrap32]
 rw [← w]
 cases op <;> rfl
theorem lT : ∀ (f x : Nat), x < 2 ^ f → x < 2 ^ Lib.bitLenAux f x := by
 intro f
 induction f with
 | zero => intro x h; simpa [Lib.bitLenAux] using h
 | succ f ih =>
  intro x h
  unfold Lib.bitLenAux
  split
  ·rename_i e; subst e; exact Nat.one_pos
  ·have := ih (x / 2) (by rw [Nat.pow_succ] at h; omega)
   rw [Nat.add_comm, Nat.pow_succ]
   omega
theorem sZ : ∀ (f x y : Nat), x ≤ y → Lib.bitLenAux f x ≤ Lib.bitLenAux f y := by
 intro f
 induction f with
 | zero => intro x y _; exact Nat.le_refl _
 | succ f ih =>
  intro x y h
  unfold Lib.bitLenAux
  by_cases hx : x = 0
  ·rw [if_pos hx]; exact Nat.zero_le _
  ·rw [if_neg hx, if_neg ahU]
   have := ih (x / 2) (y / 2) (Nat.div_le_div_right h)
   omega
theorem GU {n : Int} (h0 : 0 ≤ n) (h1 : n ≤ 2147483647) : n ≤ iT n := by
 have := lT 64 n.toNat ahU
 unfold iT Lib.bitLen
 have e : ((2 ^ Lib.bitLenAux 64 n.toNat : Nat) : Int) = 2 ^ Lib.bitLenAux 64 n.toNat := by simp
 omega
theorem Ac {n m : Int} (h : n ≤ m) : iT n ≤ iT m := by
 have := (vH _ _ (sZ 64 n.toNat m.toNat ahU)).2
 unfold iT Lib.bitLen
 omega
theorem EW (op : BinOp) (a b : Int) : bg (bits op .i32 a b) := by rw [Hh]; exact pR _
def Sub (x y : Int × Int) : Prop := x.2 < x.1 ∨ (y.1 ≤ x.1 ∧ x.2 ≤ y.2)
section
variable {x y x' y' : Int × Int} (hx : x.1 ≤ x.2) (hy : y.1 ≤ y.2) (sx : x'.1 ≤ x.1 ∧ x.2 ≤ x'.2) (sy : y'.1 ≤ y.1 ∧ y.2 ≤ y'.2)
include hx hy sx sy
end
end
section
open Go.RowKit
theorem aB {w : World} {b : Nat} {o : Obj} (h : w.heap[b]? = some o) : b < w.heap.size := (Array.getElem?_eq_some_iff.1 h).1
structure Fr (S : Nat → Prop) (w w' : World) : Prop where
 os : w'.os = w.os
 tape : w'.tape = w.tape
 output : w'.output = w.output
 size : w.heap.size ≤ w'.heap.size
 block : ∀ k, k < w.heap.size → ¬ S k → w'.heap[k]? = w.heap[k]?
theorem Fr.refl (S : Nat → Prop) (w : World) : Fr S w w := ⟨rfl, rfl, rfl, Nat.le_refl _, fun _ _ _ => rfl⟩
theorem Fr.trans {S : Nat → Prop} {a b c : World} (h : Fr S a b) (k : Fr S b c) : Fr S a c :=
 ⟨k.os.trans h.os, k.tape.trans h.tape, k.output.trans h.output, Nat.le_trans h.size k.size, fun i h1 h2 => (k.block i (Nat.lt_of_lt_of_le h1 h.size) h2).trans (h.block i h1 h2)⟩
theorem Fr.of {S : Nat → Prop} {w w' : World} (h : Below w.heap.size w w') : Fr S w w' := ⟨h.os, h.tape, h.output, h.size, fun k h1 _ => h.block k h1⟩
theorem Fr.mono {S S' : Nat → Prop} {w w' : World} (h : Fr S w w') (i : ∀ k, k < w.heap.size → S k → S' k) : Fr S' w w' := ⟨h.os, h.tape, h.output, h.size, fun k h1 h2 => h.block k h1 (fun h3 => h2 (i k h1 h3))⟩
theorem Fr.below {S : Nat → Prop} {w w' : World} {B : Nat} (h : Fr S w w') (hB : B ≤ w.heap.size) (hS : ∀ k, S k → B ≤ k) : Below B w w' :=
 ⟨h.os, h.tape, h.output, h.size, fun k hk => h.block k (Nat.lt_of_lt_of_le hk hB) (fun h3 => by have := hS k h3; omega)⟩
theorem Fr.since {S S' : Nat → Prop} {w0 w w' : World} (h0 : Fr S w0 w) (h : Fr S' w w') (i : ∀ k, S' k → S k ∨ w0.heap.size ≤ k) : Fr S w0 w' :=
 ⟨h.os.trans h0.os, h.tape.trans h0.tape, h.output.trans h0.output, Nat.le_trans h0.size h.size, fun k h1 h2 => (h.block k (Nat.lt_of_lt_of_le h1 h0.size) (fun h3 => by rcases i k h3 with h4 | h4; exact h2 h4; omega)).trans (h0.block k h1 h2)⟩
theorem Fr.cell {S : Nat → Prop} {w w' : World} (h : Fr S w w') {b : Nat} (o : Nat) (hb : b < w.heap.size) (hn : ¬ S b) : w'.cell? ⟨b, o, none⟩ = w.cell? ⟨b, o, none⟩ := World.cell?_of_block (h.block b hb hn)
theorem Fr.set {S : Nat → Prop} {w w' : World} {b o : Nat} (h : Fr S w w') (v : Value) (hp : S b ∨ w.heap.size ≤ b) : Fr S w (w'.setCell ⟨b, o, none⟩ v) :=
 ⟨h.os, h.tape, h.output, by simpa using h.size, fun k h1 h2 => by
  rw [Below.heap_setCell _ _ _ _ (by show k ≠ b; rintro rfl; rcases hp with hp | hp; exact h2 hp; omega)]
  exact h.block k h1 h2⟩
theorem Fr.alloc {S : Nat → Prop} {w w' : World} (h : Fr S w w') (o : Obj) : Fr S w (w'.alloc o) :=
 h.trans (Fr.of ((Below.refl _ _).alloc (Nat.le_refl _) _))
theorem Fr.drew {S : Nat → Prop} {w w' : World} (h : Fr S w w') : Fr S w w'.drew := h.trans (Fr.of (Below.drew (Below.refl _ _)))
theorem Fr.own {S : Nat → Prop} {w w' : World} (h : Fr S w w') {B n size : Nat} {e : TypeId} {v : Value} {xs : List Value} (ho : w.ownsRow B e size v n xs) (hn : ∀ q, v.ownBlock = some q → ¬ S q) : w'.ownsRow B e size v n xs := by
 refine ⟨ho.1, ?_⟩
 rcases ho.2 with h0 | ⟨g, cap, cur, rfl, hb, hk, hr⟩
 ·exact .inl h0
 ·exact .inr ⟨g, cap, cur, rfl, hb, (h.block g (aB hk) (hn g rfl)).trans hk, hr⟩
structure St where
 pc : Int
 r : List Int
 d : Value
 hal : Bool
 held : Int
def St.cells (s : St) : Array Value := (Value.int .i64 s.pc :: (s.r.map (Value.int .i32) ++ [s.d, .bool s.hal, .int .i64 s.held])).toArray
structure lz (w : World) (sb : Nat) (s : St) : Prop where
 blk : w.heap[sb]? = some (.cells s.cells 82 (0, 0))
 len : s.r.length = 16
 wd : ∀ x ∈ s.r, bg x
section
variable {w : World} {sb : Nat} {s : St}
theorem lz.lt (h : lz w sb s) : sb < w.heap.size := aB h.blk
theorem lz.keep {w' : World} (h : lz w sb s) (e : w'.heap[sb]? = w.heap[sb]?) : lz w' sb s := ⟨e.trans h.blk, h.len, h.wd⟩
theorem St.PW (hl : s.r.length = 16) {k : Nat} (hk : k < 16) : s.cells[1 + k]? = some (.int .i32 (s.r.getD k 0)) := by
 unfold St.cells
 rw [List.getElem?_toArray, Nat.add_comm, List.getElem?_cons_succ, List.getElem?_append_left ah3, List.getElem?_map]
 simp [List.getD, List.getElem?_eq_getElem (show k < s.r.length by omega)]
theorem St.CJ (hl : s.r.length = 16) (k : Nat) : s.cells[17 + k]? = [s.d, .bool s.hal, .int .i64 s.held][k]? := by
 unfold St.cells
 rw [List.getElem?_toArray, show 17 + k = (16 + k) + 1 by omega, List.getElem?_cons_succ, List.getElem?_append_right ah3]
 simp [hl]
theorem lz.pc (h : lz w sb s) : w.cell? ⟨sb, 0, none⟩ = some (.int .i64 s.pc) := by simp [World.cell?, h.blk, St.cells]
theorem lz.aO (h : lz w sb s) {k : Nat} (hk : k < 16) : w.cell? ⟨sb, 1 + k, none⟩ = some (.int .i32 (s.r.getD k 0)) := by
 have := St.PW h.len hk
 simpa [World.cell?, h.blk] using this
theorem lz.hal (h : lz w sb s) : w.cell? ⟨sb, 18, none⟩ = some (.bool s.hal) := by have := St.CJ h.len 1; simpa [World.cell?, h.blk] using this
theorem lz.held (h : lz w sb s) : w.cell? ⟨sb, 19, none⟩ = some (.int .i64 s.held) := by have := St.CJ h.len 2; simpa [World.cell?, h.blk] using this
theorem lz.fz (h : lz w sb s) (o : Nat) : w.frozen? ⟨sb, o, none⟩ = false := by simp [World.frozen?, h.blk]
end
theorem lz.drew {w : World} {sb : Nat} {s : St} (h : lz w sb s) : lz w.drew sb s := h.keep rfl
end
end Go.Proofs.YtlmgkipmfgijiaaGreatDoor
