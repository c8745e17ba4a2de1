/-
  What is proved here: parts vRef6, vRef7, vRef8, vRapA.
-/
import Derived.Test.YtebklpnkcicpjaaGreatDoorYa
import Derived.Test.YtebklpnkcicpjaaGreatDoorYn
import Derived.Deep.DeepCutAuto
namespace Go.Proofs.YtebklpnkcicpjaaGreatDoor
set_option linter.unusedVariables false
set_option linter.unusedSimpArgs false
set_option maxRecDepth 100000
set_option maxHeartbeats 8000000
section
open Go.RowKit
def jU (l : List Int) (w : World) (e : Ending) (w' : World) : Prop :=
 ∃ g cap, e = .returned (.slice (some ⟨g, 0, none⟩) l.length cap) ∧ w.heap.size ≤ g ∧ g < w'.heap.size ∧ (∀ i, i < l.length → w'.cell? ⟨g, i, none⟩ = some (.int .i64 (nth l i))) ∧ Below w.heap.size w w'
theorem iF {V W : World} (h : Below V.heap.size V W) {n m : Nat} {a b c d : Value} (z1 : n < V.heap.size) (z2 : m < V.heap.size) (c1 : V.cell? ⟨n, 0, none⟩ = some a) (c2 : V.cell? ⟨n, 1, none⟩ = some b) (c3 : V.cell? ⟨m, 0, none⟩ = some c) (c4 : V.cell? ⟨m, 1, none⟩ = some d) :
  W.cell? ⟨n, 0, none⟩ = some a ∧ W.cell? ⟨n, 1, none⟩ = some b ∧ W.cell? ⟨m, 0, none⟩ = some c ∧ W.cell? ⟨m, 1, none⟩ = some d ∧ n < W.heap.size ∧ m < W.heap.size := by
 have e : ∀ k j, k < V.heap.size → W.cell? ⟨k, j, none⟩ = V.cell? ⟨k, j, none⟩ := fun k j hk => h.cell (p := ⟨k, j, none⟩) hk
 refine ⟨(e _ _ z1).trans c1, (e _ _ z1).trans c2, (e _ _ z2).trans c3, (e _ _ z2).trans c4, Nat.lt_of_lt_of_le z1 h.size, Nat.lt_of_lt_of_le z2 h.size⟩
theorem jQ {V W W' : World} (x : Ext W) (h : Below V.heap.size V W) {e : TypeId} {size n : Nat} {v : Value} {xs : List Value} {o : Obj} (hown : x.w.ownsRow V.heap.size e size v n xs) (hg : (x.w.alloc o).grownBy W' v.ownBlock) : Below V.heap.size V W' := by
 have hs := h.size
 have hx := x.h.size
 refine ((h.trans (x.h.mono hs)).alloc TX o).grown hg Uc ?_
 intro k hk
 rcases hown.2 with ⟨rfl, _⟩ | ⟨g, cap, cur, rfl, hb, _⟩
 ·cases hk
 ·cases hk; exact hb
theorem zK {w : World} {B Ds : Nat} {v : Value} {l : List Int} (hcap : Ds = l.length) (h : w.ownsRow B 2 1 v Ds (l.map (Value.int .i64))) (hl : 1 ≤ l.length) :
  ∃ g cap, v = .slice (some ⟨g, 0, none⟩) l.length cap ∧ B ≤ g ∧ g < w.heap.size ∧ ∀ i, i < l.length → w.cell? ⟨g, i, none⟩ = some (.int .i64 (nth l i)) := by
 obtain ⟨g, cap, hv, hg, hc⟩ := eM hcap h hl
 refine ⟨g, cap, hv, ?_, hg, hc⟩
 rcases h.2 with ⟨e, _⟩ | ⟨g', cap', cur, e, hb, _⟩
 ·rw [hv] at e; cases e
 ·rw [hv] at e; cases e; exact hb
theorem gF {V W : World} (x : Ext W) (h : Below V.heap.size V W) (o : Obj) : V.heap.size ≤ (x.w.alloc o).heap.size := by
 have := h.size; have := x.h.size; rw [World.size_alloc]; omega
theorem Dk (xl xh yl yh : Int) (w : World) : ∃ V : World, ((((w.alloc (Obj.cells #[Value.int IntKind.i32 xl, Value.int IntKind.i32 xh] 58)).alloc (Obj.cells #[Value.int IntKind.i32 yl, Value.int IntKind.i32 yh] 58)).alloc (Obj.cells #[Value.int IntKind.i64 xl, Value.int IntKind.i64 xh] 2)).alloc (Obj.cells #[Value.int IntKind.i64 yl, Value.int IntKind.i64 yh] 2)) = V ∧ Below w.heap.size w V ∧ w.heap.size + 1 + 1 < V.heap.size ∧ w.heap.size + 1 + 1 + 1 < V.heap.size ∧ V.cell? ⟨w.heap.size + 1 + 1, 0, none⟩ = some (.int .i64 xl) ∧ V.cell? ⟨w.heap.size + 1 + 1, 1, none⟩ = some (.int .i64 xh) ∧ V.cell? ⟨w.heap.size + 1 + 1 + 1, 0, none⟩ = some (.int .i64 yl) ∧ V.cell? ⟨w.heap.size + 1 + 1 + 1, 1, none⟩ = some (.int .i64 yh) := by
 refine ⟨_, rfl, ?_, by simp, by simp, ?_, ?_, ?_, ?_⟩
 ·(repeat (first | exact Below.refl _ _ | refine Below.setCell ?_ ?_ _ | refine Ext.below ?_ ?_ _ | refine Below.alloc ?_ ?_ _)) <;> (first | (simp; done) | (simp; omega) | omega | (simp only [World.size_setCell, World.size_alloc]; refine Nat.le_trans ?_ (Below.size (Ext.h _)); simp only [World.size_setCell, World.size_alloc]; omega))
 all_goals (go_simp; done)
def Ao (op a b : Int) : Int := if op = 6 then a + b else if op = 7 then a - b else if op = 8 then a * b else a.tdiv b
theorem iL (op a b : Int) (w : World) (ha1 : -2147483648 ≤ a) (ha2 : a ≤ 2147483647) (hb1 : -2147483648 ≤ b) (hb2 : b ≤ 2147483647) (h : op = 6 ∨ op = 7 ∨ op = 8 ∨ (op = 9 ∧ ¬ b = 0)) : Calls Tryz.prog 114 #[.int .u8 op, .int .i64 a, .int .i64 b] w fun e w' => e = .returned (.int .i64 (Ao op a b)) ∧ w = w' := by
 rcases h with rfl | rfl | rfl | ⟨rfl, h⟩
 ·exact Cb a b w ha1 ha2 hb1 hb2
 ·exact Ca a b w ha1 ha2 hb1 hb2
 ·exact B9 a b w ha1 ha2 hb1 hb2
 ·exact B8 a b w ha1 ha2 hb1 hb2 h
theorem fP (op xl xh yl yh : Int) (w : World) (hx1 : -2147483648 ≤ xl) (hx2 : xl ≤ 2147483647) (hx3 : -2147483648 ≤ xh) (hx4 : xh ≤ 2147483647) (hy1 : -2147483648 ≤ yl) (hy2 : yl ≤ 2147483647) (hy3 : -2147483648 ≤ yh) (hy4 : yh ≤ 2147483647) (h1 : op = 6 ∨ op = 7 ∨ op = 8 ∨ (op = 9 ∧ ¬ yl = 0)) (h2 : op = 6 ∨ op = 7 ∨ op = 8 ∨ (op = 9 ∧ ¬ yh = 0)) :
  Calls Tryz.prog 87 #[.int .u8 op, .agg #[.int .i32 xl, .int .i32 xh], .agg #[.int .i32 yl, .int .i32 yh]] w (jU [Ao op xl yl, Ao op xl yh, Ao op xh yl, Ao op xh yh] w) := by
 obtain ⟨i0, hi, hz0, hz1, hz2⟩ := info_parts kf
 go_enter Tryz.func87, Tryz.ntmps87
 go_wp2_with fail
 obtain ⟨V, hV, kB, z1, z2, d1, d2, d3, d4⟩ := Dk xl xh yl yh w
 rw [hV]
 have cL : V.ownsRow V.heap.size 2 1 (.slice none 0 0) 0 [] := ⟨rfl, .inl ⟨rfl, rfl⟩⟩
 have bV : Below V.heap.size V V := Below.refl _ _
 have NK : w.heap.size ≤ V.heap.size := kB.size
 clear hV
 obtain ⟨c1, c2, c3, c4, s1, s2⟩ := iF bV z1 z2 d1 d2 d3 d4
 refine wp_loop_rounds 3 ?_
 rw [rounds_succ]
 go_wp2_with fail
 refine wp_loop_rounds 3 ?_
 rw [rounds_succ]
 go_wp2_with fail
 refine bP 11 14 _ 7 _ rfl rfl rfl rfl TY rfl TY TY TY ?_
 simp only [Act.put, U5, U6, U7, U8, List.take_zero, U9, List.drop_zero, Nat.reduceSub]
 repeat (go_big_quiet_step ((go_at_call 114; exact Calls.bO (iL _ _ _ _ Um Um Um Um Um))))
 refine wpQuiet_nil ?_
 rintro _ ⟨x0, rfl⟩
 have ho := ey x0 cL
 go_wp2_with (at_builtin; refine wpList_append_own _ rfl (.tmp 34) (.tmp 45) 153 rfl V.heap.size 2 i0 (.int .i64 0) 1 8 Tryz.underlying153 hi hz0 hz1 hz2 rfl T1 _ _ _ rfl (ho.alloc _) ⟨x0.w.heap.size, 0, none⟩ 1 1 [.int .i64 (Ao op xl yl)] rfl rfl (cell_one_new _ _ _) T2 T3 TX (gF x0 bV _) ?_; intro v1 W1 hown1 hgrow _)
 refine NoPanic.normal ?_
 have kS := jQ x0 bV ho hgrow
 obtain ⟨c1, c2, c3, c4, s1, s2⟩ := iF kS z1 z2 d1 d2 d3 d4
 clear hgrow ho cL bV
 have bV := kS
 clear kS
 go_wp2_with fail
 rw [rounds_succ]
 go_wp2_with fail
 refine bP 11 14 _ 7 _ rfl rfl rfl rfl TY rfl TY TY TY ?_
 simp only [Act.put, U5, U6, U7, U8, List.take_zero, U9, List.drop_zero, Nat.reduceSub]
 repeat (go_big_quiet_step ((go_at_call 114; exact Calls.bO (iL _ _ _ _ Um Um Um Um Um))))
 refine wpQuiet_nil ?_
 rintro _ ⟨x1, rfl⟩
 have ho := ey x1 hown1
 go_wp2_with (at_builtin; refine wpList_append_own _ rfl (.tmp 34) (.tmp 45) 153 rfl V.heap.size 2 i0 (.int .i64 0) 1 8 Tryz.underlying153 hi hz0 hz1 hz2 rfl T1 _ _ _ rfl (ho.alloc _) ⟨x1.w.heap.size, 0, none⟩ 1 1 [.int .i64 (Ao op xl yh)] rfl rfl (cell_one_new _ _ _) T2 T3 TX (gF x1 bV _) ?_; intro v2 W2 hown2 hgrow _)
 refine NoPanic.normal ?_
 have kS := jQ x1 bV ho hgrow
 obtain ⟨c1, c2, c3, c4, s1, s2⟩ := iF kS z1 z2 d1 d2 d3 d4
 clear hgrow ho hown1 bV
 have bV := kS
 clear kS
 go_wp2_with fail
 rw [rounds_succ]
 go_wp2_with fail
 rw [rounds_succ]
 go_wp2_with fail
 refine wp_loop_rounds 3 ?_
 rw [rounds_succ]
 go_wp2_with fail
 refine bP 11 14 _ 7 _ rfl rfl rfl rfl TY rfl TY TY TY ?_
 simp only [Act.put, U5, U6, U7, U8, List.take_zero, U9, List.drop_zero, Nat.reduceSub]
 repeat (go_big_quiet_step ((go_at_call 114; exact Calls.bO (iL _ _ _ _ Um Um Um Um Um))))
 refine wpQuiet_nil ?_
 rintro _ ⟨x2, rfl⟩
 have ho := ey x2 hown2
 go_wp2_with (at_builtin; refine wpList_append_own _ rfl (.tmp 34) (.tmp 45) 153 rfl V.heap.size 2 i0 (.int .i64 0) 1 8 Tryz.underlying153 hi hz0 hz1 hz2 rfl T1 _ _ _ rfl (ho.alloc _) ⟨x2.w.heap.size, 0, none⟩ 1 1 [.int .i64 (Ao op xh yl)] rfl rfl (cell_one_new _ _ _) T2 T3 TX (gF x2 bV _) ?_; intro v3 W3 eo hgrow _)
 refine NoPanic.normal ?_
 have kS := jQ x2 bV ho hgrow
 obtain ⟨c1, c2, c3, c4, s1, s2⟩ := iF kS z1 z2 d1 d2 d3 d4
 clear hgrow ho hown2 bV
 have bV := kS
 clear kS
 go_wp2_with fail
 rw [rounds_succ]
 go_wp2_with fail
 refine bP 11 14 _ 7 _ rfl rfl rfl rfl TY rfl TY TY TY ?_
 simp only [Act.put, U5, U6, U7, U8, List.take_zero, U9, List.drop_zero, Nat.reduceSub]
 repeat (go_big_quiet_step ((go_at_call 114; exact Calls.bO (iL _ _ _ _ Um Um Um Um Um))))
 refine wpQuiet_nil ?_
 rintro _ ⟨x3, rfl⟩
 have ho := ey x3 eo
 go_wp2_with (at_builtin; refine wpList_append_own _ rfl (.tmp 34) (.tmp 45) 153 rfl V.heap.size 2 i0 (.int .i64 0) 1 8 Tryz.underlying153 hi hz0 hz1 hz2 rfl T1 _ _ _ rfl (ho.alloc _) ⟨x3.w.heap.size, 0, none⟩ 1 1 [.int .i64 (Ao op xh yh)] rfl rfl (cell_one_new _ _ _) T2 T3 TX (gF x3 bV _) ?_; intro v4 W4 gC hgrow _)
 refine NoPanic.normal ?_
 have kS := jQ x3 bV ho hgrow
 obtain ⟨c1, c2, c3, c4, s1, s2⟩ := iF kS z1 z2 d1 d2 d3 d4
 clear hgrow ho eo bV
 have bV := kS
 clear kS
 go_wp2_with fail
 rw [rounds_succ]
 go_wp2_with fail
 rw [rounds_succ]
 go_wp2_with fail
 obtain ⟨g, cap, hv, hB, hg, hc⟩ := zK (l := [Ao op xl yl, Ao op xl yh, Ao op xh yl, Ao op xh yh]) rfl (by simpa using gC) T4
 go_ret
 exact ⟨g, cap, by rw [hv]; rfl, by omega, hg, hc, kB.trans (bV.mono NK)⟩
theorem wk (xl xh yl yh : Int) (w : World) (hx1 : -2147483648 ≤ xl) (hx2 : xl ≤ 2147483647) (hx3 : -2147483648 ≤ xh) (hx4 : xh ≤ 2147483647) (hy1 : -2147483648 ≤ yl) (hy2 : yl ≤ 2147483647) (hy3 : -2147483648 ≤ yh) (hy4 : yh ≤ 2147483647) :
  Calls Tryz.prog 87 #[.int .u8 6, .agg #[.int .i32 xl, .int .i32 xh], .agg #[.int .i32 yl, .int .i32 yh]] w (jU [xl + yl, xl + yh, xh + yl, xh + yh] w) :=
 fP 6 xl xh yl yh w hx1 hx2 hx3 hx4 hy1 hy2 hy3 hy4 (.inl rfl) (.inl rfl)
theorem wj (xl xh yl yh : Int) (w : World) (hx1 : -2147483648 ≤ xl) (hx2 : xl ≤ 2147483647) (hx3 : -2147483648 ≤ xh) (hx4 : xh ≤ 2147483647) (hy1 : -2147483648 ≤ yl) (hy2 : yl ≤ 2147483647) (hy3 : -2147483648 ≤ yh) (hy4 : yh ≤ 2147483647) :
  Calls Tryz.prog 87 #[.int .u8 7, .agg #[.int .i32 xl, .int .i32 xh], .agg #[.int .i32 yl, .int .i32 yh]] w (jU [xl - yl, xl - yh, xh - yl, xh - yh] w) :=
 fP 7 xl xh yl yh w hx1 hx2 hx3 hx4 hy1 hy2 hy3 hy4 (.inr (.inl rfl)) (.inr (.inl rfl))
theorem wh (xl xh yl yh : Int) (w : World) (hx1 : -2147483648 ≤ xl) (hx2 : xl ≤ 2147483647) (hx3 : -2147483648 ≤ xh) (hx4 : xh ≤ 2147483647) (hy1 : -2147483648 ≤ yl) (hy2 : yl ≤ 2147483647) (hy3 : -2147483648 ≤ yh) (hy4 : yh ≤ 2147483647) :
  Calls Tryz.prog 87 #[.int .u8 8, .agg #[.int .i32 xl, .int .i32 xh], .agg #[.int .i32 yl, .int .i32 yh]] w (jU [xl * yl, xl * yh, xh * yl, xh * yh] w) :=
 fP 8 xl xh yl yh w hx1 hx2 hx3 hx4 hy1 hy2 hy3 hy4 (.inr (.inr (.inl rfl))) (.inr (.inr (.inl rfl)))
theorem iN (xl xh yl yh : Int) (w : World) (hx1 : -2147483648 ≤ xl) (hx2 : xl ≤ 2147483647) (hx3 : -2147483648 ≤ xh) (hx4 : xh ≤ 2147483647) (hy1 : -2147483648 ≤ yl) (hy2 : yl ≤ 2147483647) (hy3 : -2147483648 ≤ yh) (hy4 : yh ≤ 2147483647) (n1 : ¬ yl = 0) (n2 : ¬ yh = 0) :
  Calls Tryz.prog 87 #[.int .u8 9, .agg #[.int .i32 xl, .int .i32 xh], .agg #[.int .i32 yl, .int .i32 yh]] w (jU [xl.tdiv yl, xl.tdiv yh, xh.tdiv yl, xh.tdiv yh] w) :=
 fP 9 xl xh yl yh w hx1 hx2 hx3 hx4 hy1 hy2 hy3 hy4 (.inr (.inr (.inr ⟨rfl, n1⟩))) (.inr (.inr (.inr ⟨rfl, n2⟩)))
end
section
open Go.RowKit
theorem oh {W : World} {g : Nat} {l : List Int} (hc : ∀ i, i < l.length → W.cell? ⟨g, i, none⟩ = some (.int .i64 (nth l i))) : ∀ (j : Nat) (u : Value), (l.map (Value.int .i64))[j]? = some u → W.cell? ((⟨g, 0, none⟩ : Addr).add j) = some u := by
 intro j u h
 have hj : j < l.length := by
  rcases Nat.lt_or_ge j l.length with h' | h'
  ·exact h'
  ·rw [List.getElem?_eq_none (by simpa using h')] at h; cases h
 have e : (⟨g, 0, none⟩ : Addr).add j = ⟨g, j, none⟩ := by simp [Addr.add]; exact fun h => h.symm
 rw [e, hc j hj]
 simp [hj] at h
 rw [← h]
 simp [nth, List.getD, hj]
theorem lz (l : List Int) : ∀ u ∈ l.map (Value.int .i64), u.oneCell' = true := by
 intro u hu
 obtain ⟨z, _, rfl⟩ := List.mem_map.1 hu
 rfl
structure DC (w V : World) (xl xh yl yh : Int) : Prop where
 below : Below w.heap.size w V
 s1 : w.heap.size < V.heap.size
 s2 : w.heap.size + 1 < V.heap.size
 s3 : w.heap.size + 1 + 1 < V.heap.size
 c1 : V.cell? ⟨w.heap.size, 0, none⟩ = some (.int .i32 xl)
 c2 : V.cell? ⟨w.heap.size, 1, none⟩ = some (.int .i32 xh)
 c3 : V.cell? ⟨w.heap.size + 1, 0, none⟩ = some (.int .i32 yl)
 c4 : V.cell? ⟨w.heap.size + 1, 1, none⟩ = some (.int .i32 yh)
 c5 : V.cell? ⟨w.heap.size + 1 + 1, 0, none⟩ = some (.int .i32 0)
 c6 : V.cell? ⟨w.heap.size + 1 + 1, 1, none⟩ = some (.int .i32 0)
 f5 : V.frozen? ⟨w.heap.size + 1 + 1, 0, none⟩ = false
 f6 : V.frozen? ⟨w.heap.size + 1 + 1, 1, none⟩ = false
theorem DC.later {w V W : World} {xl xh yl yh : Int} (D : DC w V xl xh yl yh) (h : Below V.heap.size V W) : DC w W xl xh yl yh := by
 have e : ∀ k j, k < V.heap.size → W.cell? ⟨k, j, none⟩ = V.cell? ⟨k, j, none⟩ := fun k j hk => h.cell (p := ⟨k, j, none⟩) hk
 have e' : ∀ k j, k < V.heap.size → W.frozen? ⟨k, j, none⟩ = V.frozen? ⟨k, j, none⟩ := fun k j hk => h.frozen (p := ⟨k, j, none⟩) hk
 have hs := h.size
 have s1 := D.s1
 have s2 := D.s2
 have s3 := D.s3
 exact ⟨D.below.trans (h.mono TX), by omega, by omega, by omega, (e _ _ s1).trans D.c1, (e _ _ s1).trans D.c2, (e _ _ s2).trans D.c3, (e _ _ s2).trans D.c4, (e _ _ s3).trans D.c5, (e _ _ s3).trans D.c6, (e' _ _ s3).trans D.f5, (e' _ _ s3).trans D.f6⟩
theorem dc (xl xh yl yh : Int) (w : World) (y : Ext (((w.alloc (Obj.cells #[Value.int IntKind.i32 xl, Value.int IntKind.i32 xh] 58)).alloc (Obj.cells #[Value.int IntKind.i32 yl, Value.int IntKind.i32 yh] 58)).alloc (Obj.cells #[Value.int IntKind.i32 0, Value.int IntKind.i32 0] 58))) : ∃ V, y.w = V ∧ DC w V xl xh yl yh := by
 have hs : w.heap.size + 1 + 1 + 1 ≤ y.w.heap.size := CL y.h
 refine ⟨_, rfl, ?_, by omega, by omega, by omega, ?_, ?_, ?_, ?_, ?_, ?_, ?_, ?_⟩
 ·(repeat (first | exact Below.refl _ _ | refine Below.setCell ?_ ?_ _ | refine Ext.below ?_ ?_ _ | refine Below.alloc ?_ ?_ _)) <;> (first | (simp; done) | (simp; omega) | omega | (simp only [World.size_setCell, World.size_alloc]; refine Nat.le_trans ?_ (Below.size (Ext.h _)); simp only [World.size_setCell, World.size_alloc]; omega))
 all_goals (go_simp; done)
theorem iM {V W W2 W' : World} (x : Ext W) (h : Below V.heap.size V W) (hb : Below x.w.heap.size x.w W2) {e : TypeId} {size n : Nat} {v : Value} {xs : List Value} (hown : W2.ownsRow V.heap.size e size v n xs) (hg : W2.grownBy W' v.ownBlock) : Below V.heap.size V W' := by
 have hs := h.size
 have hx := x.h.size
 have h2 := hb.size
 refine (((h.trans (x.h.mono hs)).trans (hb.mono TX))).grown hg TX ?_
 intro k hk
 rcases hown.2 with ⟨rfl, _⟩ | ⟨g, cap, cur, rfl, hb', _⟩
 ·cases hk
 ·cases hk; exact hb'
theorem ED {P : Program} {f : FuncId} {args : Array Value} {w : World} {p q : Int} (h : Calls P f args w fun e w' => e = .returned (.int .i64 p) ∧ w = w') (hp : p = q) :
  Calls P f args w fun e w' => e = .returned (.int .i64 q) ∧ w = w' := hp ▸ h
theorem za (xl xh yl yh : Int) (w : World) (hx1 : -2147483648 ≤ xl) (hx2 : xl ≤ 2147483647) (hx3 : -2147483648 ≤ xh) (hx4 : xh ≤ 2147483647) (hy1 : -2147483648 ≤ yl) (hy2 : yl ≤ 2147483647) (hy3 : -2147483648 ≤ yh) (hy4 : yh ≤ 2147483647) (nh pl : Int) (NH : Hid (min yh (-1) = nh)) (PL : Hid (max yl 1 = pl)) (HH : Hid ((decide (xl ≤ -2147483648) && decide (-2147483648 ≤ xh)) = false) ∨ (Hid ((decide (xl ≤ -2147483648) && decide (-2147483648 ≤ xh)) = true) ∧ Hid ((decide (yl ≤ -1) && decide (-1 ≤ yh)) = false))) (d1 : decide (yl < 0) = true) (d2 : decide (0 < yh) = false) (q1 : yl ≤ nh) (q2 : nh ≤ -1) :
  Calls Tryz.prog 88 #[.agg #[.int .i32 xl, .int .i32 xh], .agg #[.int .i32 yl, .int .i32 yh]] w fun e w' => e = .returned (.agg #[.int .i32 (aA [xl.tdiv yl, xl.tdiv nh, xh.tdiv yl, xh.tdiv nh]).1, .int .i32 (aA [xl.tdiv yl, xl.tdiv nh, xh.tdiv yl, xh.tdiv nh]).2]) ∧ Below w.heap.size w w' := by
 obtain ⟨i0, hi, hz0, hz1, hz2⟩ := info_parts kf
 rcases HH with BX | ⟨BX, BY⟩
 all_goals
  go_enter Tryz.func88, Tryz.ntmps88
  go_wp2_with fail
  refine (Calls.ext (ct (dG _ _ _ _) BX.out)).mono ?_
  rintro e _ ⟨rfl, y, rfl⟩
 rotate_left 1
 focus
  go_wp2_with fail
  refine (Calls.au (ct (dG _ _ _ _) BY.out)).mono ?_
  rintro e _ ⟨rfl, y, rfl⟩
 all_goals
  go_wp2_with fail
  obtain ⟨V, hV, D⟩ := dc xl xh yl yh w y
  rw [hV]
  clear hV
  have hown : V.ownsRow V.heap.size 2 1 (.slice none 0 0) 0 [] := ⟨rfl, .inl ⟨rfl, rfl⟩⟩
  have bV : Below V.heap.size V V := Below.refl _ _
  obtain ⟨kB, s1, s2, s3, c1, c2, c3, c4, c5, c6, f5, f6⟩ := D.later bV
  go_wp2_with fail
  refine bP 10 13 _ 5 _ rfl rfl rfl rfl TY rfl TY TY TY ?_
  simp only [Act.put, U5, U6, U7, U8, List.take_zero, U9, List.drop_zero, Nat.reduceSub]
  repeat (go_big_quiet_step ((go_at_call 112; exact Calls.bO (ED (fY _ _ _) NH.out))))
  refine wpQuiet_nil ?_
  rintro _ ⟨x0, rfl⟩
  have ho := ey x0 hown
  go_wp2_with fail
  refine (iN xl xh yl nh _ hx1 hx2 hx3 hx4 TX TX TX TX TX TX).mono ?_
  rintro e W2 ⟨g, cap, rfl, hge, hg, hc, hb⟩
  have ho2 := ey ⟨W2, hb⟩ ho
  go_wp2_with (at_builtin; refine wpList_append_own _ rfl (.tmp 16) (.tmp 26) 153 rfl V.heap.size 2 i0 (.int .i64 0) 1 8 Tryz.underlying153 hi hz0 hz1 hz2 rfl T1 _ _ _ rfl ho2 ⟨g, 0, none⟩ 4 cap ([xl.tdiv yl, xl.tdiv nh, xh.tdiv yl, xh.tdiv nh].map (Value.int .i64)) rfl rfl (oh hc) (lz _) T3 TX UB ?_; intro v0 W0 cL hgrow _)
  refine NoPanic.normal ?_
  have kS := iM x0 bV hb ho2 hgrow
  obtain ⟨kB, s1, s2, s3, c1, c2, c3, c4, c5, c6, f5, f6⟩ := D.later kS
  clear hgrow ho ho2 hown bV hc hg hge hb
  have bV := kS
  clear kS
  go_wp2_with fail
  obtain ⟨g, cap, hv, hg, hc⟩ := eM (l := [xl.tdiv yl, xl.tdiv nh, xh.tdiv yl, xh.tdiv nh]) rfl (by simpa using cL) T4
  rw [hv]
  clear hv cL
  refine (Calls.ext (gX g cap [xl.tdiv yl, xl.tdiv nh, xh.tdiv yl, xh.tdiv nh] _ T4 T4 hg hc)).mono ?_
  rintro e _ ⟨rfl, y5, rfl⟩
  clear hc
  go_wp2
  all_goals
   refine bodyPost_ret (v := .agg #[.int .i32 (aA [xl.tdiv yl, xl.tdiv nh, xh.tdiv yl, xh.tdiv nh]).1, .int .i32 (aA [xl.tdiv yl, xl.tdiv nh, xh.tdiv yl, xh.tdiv nh]).2]) ?hr rfl ⟨rfl, ?aB⟩
   case hr =>
    simp [results, Tryz.results88, go_sem, c5, c6, s3]
   case aB =>
    exact Below.setCell (Below.setCell (Ext.below kB TX y5) T9 _) T9 _
theorem y9 (xl xh yl yh : Int) (w : World) (hx1 : -2147483648 ≤ xl) (hx2 : xl ≤ 2147483647) (hx3 : -2147483648 ≤ xh) (hx4 : xh ≤ 2147483647) (hy1 : -2147483648 ≤ yl) (hy2 : yl ≤ 2147483647) (hy3 : -2147483648 ≤ yh) (hy4 : yh ≤ 2147483647) (nh pl : Int) (NH : Hid (min yh (-1) = nh)) (PL : Hid (max yl 1 = pl)) (HH : Hid ((decide (xl ≤ -2147483648) && decide (-2147483648 ≤ xh)) = false) ∨ (Hid ((decide (xl ≤ -2147483648) && decide (-2147483648 ≤ xh)) = true) ∧ Hid ((decide (yl ≤ -1) && decide (-1 ≤ yh)) = false))) (d1 : decide (yl < 0) = false) (d2 : decide (0 < yh) = true) (q1 : 1 ≤ pl) (q2 : pl ≤ yh) :
  Calls Tryz.prog 88 #[.agg #[.int .i32 xl, .int .i32 xh], .agg #[.int .i32 yl, .int .i32 yh]] w fun e w' => e = .returned (.agg #[.int .i32 (aA [xl.tdiv pl, xl.tdiv yh, xh.tdiv pl, xh.tdiv yh]).1, .int .i32 (aA [xl.tdiv pl, xl.tdiv yh, xh.tdiv pl, xh.tdiv yh]).2]) ∧ Below w.heap.size w w' := by
 obtain ⟨i0, hi, hz0, hz1, hz2⟩ := info_parts kf
 rcases HH with BX | ⟨BX, BY⟩
 all_goals
  go_enter Tryz.func88, Tryz.ntmps88
  go_wp2_with fail
  refine (Calls.ext (ct (dG _ _ _ _) BX.out)).mono ?_
  rintro e _ ⟨rfl, y, rfl⟩
 rotate_left 1
 focus
  go_wp2_with fail
  refine (Calls.au (ct (dG _ _ _ _) BY.out)).mono ?_
  rintro e _ ⟨rfl, y, rfl⟩
 all_goals
  go_wp2_with fail
  obtain ⟨V, hV, D⟩ := dc xl xh yl yh w y
  rw [hV]
  clear hV
  have hown : V.ownsRow V.heap.size 2 1 (.slice none 0 0) 0 [] := ⟨rfl, .inl ⟨rfl, rfl⟩⟩
  have bV : Below V.heap.size V V := Below.refl _ _
  obtain ⟨kB, s1, s2, s3, c1, c2, c3, c4, c5, c6, f5, f6⟩ := D.later bV
  go_wp2_with fail
  refine bP 10 13 _ 5 _ rfl rfl rfl rfl TY rfl TY TY TY ?_
  simp only [Act.put, U5, U6, U7, U8, List.take_zero, U9, List.drop_zero, Nat.reduceSub]
  repeat (go_big_quiet_step ((go_at_call 113; exact Calls.bO (ED (gW _ _ _) PL.out))))
  refine wpQuiet_nil ?_
  rintro _ ⟨x0, rfl⟩
  have ho := ey x0 hown
  go_wp2_with fail
  refine (iN xl xh pl yh _ hx1 hx2 hx3 hx4 TX TX TX TX TX TX).mono ?_
  rintro e W2 ⟨g, cap, rfl, hge, hg, hc, hb⟩
  have ho2 := ey ⟨W2, hb⟩ ho
  go_wp2_with (at_builtin; refine wpList_append_own _ rfl (.tmp 31) (.tmp 41) 153 rfl V.heap.size 2 i0 (.int .i64 0) 1 8 Tryz.underlying153 hi hz0 hz1 hz2 rfl T1 _ _ _ rfl ho2 ⟨g, 0, none⟩ 4 cap ([xl.tdiv pl, xl.tdiv yh, xh.tdiv pl, xh.tdiv yh].map (Value.int .i64)) rfl rfl (oh hc) (lz _) T3 TX UB ?_; intro v0 W0 cL hgrow _)
  refine NoPanic.normal ?_
  have kS := iM x0 bV hb ho2 hgrow
  obtain ⟨kB, s1, s2, s3, c1, c2, c3, c4, c5, c6, f5, f6⟩ := D.later kS
  clear hgrow ho ho2 hown bV hc hg hge hb
  have bV := kS
  clear kS
  go_wp2_with fail
  obtain ⟨g, cap, hv, hg, hc⟩ := eM (l := [xl.tdiv pl, xl.tdiv yh, xh.tdiv pl, xh.tdiv yh]) rfl (by simpa using cL) T4
  rw [hv]
  clear hv cL
  refine (Calls.ext (gX g cap [xl.tdiv pl, xl.tdiv yh, xh.tdiv pl, xh.tdiv yh] _ T4 T4 hg hc)).mono ?_
  rintro e _ ⟨rfl, y5, rfl⟩
  clear hc
  go_wp2
  all_goals
   refine bodyPost_ret (v := .agg #[.int .i32 (aA [xl.tdiv pl, xl.tdiv yh, xh.tdiv pl, xh.tdiv yh]).1, .int .i32 (aA [xl.tdiv pl, xl.tdiv yh, xh.tdiv pl, xh.tdiv yh]).2]) ?hr rfl ⟨rfl, ?aB⟩
   case hr =>
    simp [results, Tryz.results88, go_sem, c5, c6, s3]
   case aB =>
    exact Below.setCell (Below.setCell (Ext.below kB TX y5) T9 _) T9 _
theorem vZ (xl xh yl yh : Int) (w : World) (hx1 : -2147483648 ≤ xl) (hx2 : xl ≤ 2147483647) (hx3 : -2147483648 ≤ xh) (hx4 : xh ≤ 2147483647) (hy1 : -2147483648 ≤ yl) (hy2 : yl ≤ 2147483647) (hy3 : -2147483648 ≤ yh) (hy4 : yh ≤ 2147483647) (nh pl : Int) (NH : Hid (min yh (-1) = nh)) (PL : Hid (max yl 1 = pl)) (HH : Hid ((decide (xl ≤ -2147483648) && decide (-2147483648 ≤ xh)) = false) ∨ (Hid ((decide (xl ≤ -2147483648) && decide (-2147483648 ≤ xh)) = true) ∧ Hid ((decide (yl ≤ -1) && decide (-1 ≤ yh)) = false))) (d1 : decide (yl < 0) = true) (d2 : decide (0 < yh) = true) (q1 : yl ≤ nh) (q2 : nh ≤ -1) (q3 : 1 ≤ pl) (q4 : pl ≤ yh) :
  Calls Tryz.prog 88 #[.agg #[.int .i32 xl, .int .i32 xh], .agg #[.int .i32 yl, .int .i32 yh]] w fun e w' => e = .returned (.agg #[.int .i32 (aA [xl.tdiv yl, xl.tdiv nh, xh.tdiv yl, xh.tdiv nh, xl.tdiv pl, xl.tdiv yh, xh.tdiv pl, xh.tdiv yh]).1, .int .i32 (aA [xl.tdiv yl, xl.tdiv nh, xh.tdiv yl, xh.tdiv nh, xl.tdiv pl, xl.tdiv yh, xh.tdiv pl, xh.tdiv yh]).2]) ∧ Below w.heap.size w w' := by
 obtain ⟨i0, hi, hz0, hz1, hz2⟩ := info_parts kf
 rcases HH with BX | ⟨BX, BY⟩
 all_goals
  go_enter Tryz.func88, Tryz.ntmps88
  go_wp2_with fail
  refine (Calls.ext (ct (dG _ _ _ _) BX.out)).mono ?_
  rintro e _ ⟨rfl, y, rfl⟩
 rotate_left 1
 focus
  go_wp2_with fail
  refine (Calls.au (ct (dG _ _ _ _) BY.out)).mono ?_
  rintro e _ ⟨rfl, y, rfl⟩
 all_goals
  go_wp2_with fail
  obtain ⟨V, hV, D⟩ := dc xl xh yl yh w y
  rw [hV]
  clear hV
  have hown : V.ownsRow V.heap.size 2 1 (.slice none 0 0) 0 [] := ⟨rfl, .inl ⟨rfl, rfl⟩⟩
  have bV : Below V.heap.size V V := Below.refl _ _
  obtain ⟨kB, s1, s2, s3, c1, c2, c3, c4, c5, c6, f5, f6⟩ := D.later bV
  go_wp2_with fail
  refine bP 10 13 _ 5 _ rfl rfl rfl rfl TY rfl TY TY TY ?_
  simp only [Act.put, U5, U6, U7, U8, List.take_zero, U9, List.drop_zero, Nat.reduceSub]
  repeat (go_big_quiet_step ((go_at_call 112; exact Calls.bO (ED (fY _ _ _) NH.out))))
  refine wpQuiet_nil ?_
  rintro _ ⟨x0, rfl⟩
  have ho := ey x0 hown
  go_wp2_with fail
  refine (iN xl xh yl nh _ hx1 hx2 hx3 hx4 TX TX TX TX TX TX).mono ?_
  rintro e W2 ⟨g, cap, rfl, hge, hg, hc, hb⟩
  have ho2 := ey ⟨W2, hb⟩ ho
  go_wp2_with (at_builtin; refine wpList_append_own _ rfl (.tmp 16) (.tmp 26) 153 rfl V.heap.size 2 i0 (.int .i64 0) 1 8 Tryz.underlying153 hi hz0 hz1 hz2 rfl T1 _ _ _ rfl ho2 ⟨g, 0, none⟩ 4 cap ([xl.tdiv yl, xl.tdiv nh, xh.tdiv yl, xh.tdiv nh].map (Value.int .i64)) rfl rfl (oh hc) (lz _) T3 TX UB ?_; intro v0 W0 cL hgrow _)
  refine NoPanic.normal ?_
  have kS := iM x0 bV hb ho2 hgrow
  obtain ⟨kB, s1, s2, s3, c1, c2, c3, c4, c5, c6, f5, f6⟩ := D.later kS
  clear hgrow ho ho2 hown bV hc hg hge hb
  have bV := kS
  clear kS
  go_wp2_with fail
  refine bP 10 13 _ 5 _ rfl rfl rfl rfl TY rfl TY TY TY ?_
  simp only [Act.put, U5, U6, U7, U8, List.take_zero, U9, List.drop_zero, Nat.reduceSub]
  repeat (go_big_quiet_step ((go_at_call 113; exact Calls.bO (ED (gW _ _ _) PL.out))))
  refine wpQuiet_nil ?_
  rintro _ ⟨x1, rfl⟩
  have ho := ey x1 cL
  go_wp2_with fail
  refine (iN xl xh pl yh _ hx1 hx2 hx3 hx4 TX TX TX TX TX TX).mono ?_
  rintro e W2 ⟨g, cap, rfl, hge, hg, hc, hb⟩
  have ho2 := ey ⟨W2, hb⟩ ho
  go_wp2_with (at_builtin; refine wpList_append_own _ rfl (.tmp 31) (.tmp 41) 153 rfl V.heap.size 2 i0 (.int .i64 0) 1 8 Tryz.underlying153 hi hz0 hz1 hz2 rfl T1 _ _ _ rfl ho2 ⟨g, 0, none⟩ 4 cap ([xl.tdiv pl, xl.tdiv yh, xh.tdiv pl, xh.tdiv yh].map (Value.int .i64)) rfl rfl (oh hc) (lz _) T3 TX (by have := bV.size; have := x1.h.size; have := hb.size; omega) ?_; intro v1 W1 hown1 hgrow _)
  refine NoPanic.normal ?_
  have kS := iM x1 bV hb ho2 hgrow
  obtain ⟨kB, s1, s2, s3, c1, c2, c3, c4, c5, c6, f5, f6⟩ := D.later kS
  clear hgrow ho ho2 cL bV hc hg hge hb
  have bV := kS
  clear kS
  go_wp2_with fail
  obtain ⟨g, cap, hv, hg, hc⟩ := eM (l := [xl.tdiv yl, xl.tdiv nh, xh.tdiv yl, xh.tdiv nh, xl.tdiv pl, xl.tdiv yh, xh.tdiv pl, xh.tdiv yh]) rfl (by simpa using hown1) T4
  rw [hv]
  clear hv hown1
  refine (Calls.ext (gX g cap [xl.tdiv yl, xl.tdiv nh, xh.tdiv yl, xh.tdiv nh, xl.tdiv pl, xl.tdiv yh, xh.tdiv pl, xh.tdiv yh] _ T4 T4 hg hc)).mono ?_
  rintro e _ ⟨rfl, y5, rfl⟩
  clear hc
  go_wp2
  all_goals
   refine bodyPost_ret (v := .agg #[.int .i32 (aA [xl.tdiv yl, xl.tdiv nh, xh.tdiv yl, xh.tdiv nh, xl.tdiv pl, xl.tdiv yh, xh.tdiv pl, xh.tdiv yh]).1, .int .i32 (aA [xl.tdiv yl, xl.tdiv nh, xh.tdiv yl, xh.tdiv nh, xl.tdiv pl, xl.tdiv yh, xh.tdiv pl, xh.tdiv yh]).2]) ?hr rfl ⟨rfl, ?aB⟩
   case hr =>
    simp [results, Tryz.results88, go_sem, c5, c6, s3]
   case aB =>
    exact Below.setCell (Below.setCell (Ext.below kB TX y5) T9 _) T9 _
theorem sr (xl xh yl yh : Int) (w : World) (BX : Hid ((decide (xl ≤ -2147483648) && decide (-2147483648 ≤ xh)) = true)) (BY : Hid ((decide (yl ≤ -1) && decide (-1 ≤ yh)) = true)) :
  Calls Tryz.prog 88 #[.agg #[.int .i32 xl, .int .i32 xh], .agg #[.int .i32 yl, .int .i32 yh]] w fun e w' => e = .returned (.agg #[.int .i32 (-2147483648), .int .i32 2147483647]) ∧ Below w.heap.size w w' := by
 go_enter Tryz.func88, Tryz.ntmps88
 go_wp2_with (first | (go_at_call 46; ((first | (with_reducible refine (Calls.au (cH _)).mono ?_) | (refine (Calls.ext (cH _)).mono ?_)); rintro e _ ⟨rfl, y, rfl⟩)) | (go_at_call 93; (first | (with_reducible refine (Calls.au (ct (dG _ _ _ _) BX.out)).mono ?_) | (with_reducible refine (Calls.ext (ct (dG _ _ _ _) BX.out)).mono ?_) | (with_reducible refine (Calls.au (ct (dG _ _ _ _) BY.out)).mono ?_)); rintro e _ ⟨rfl, y, rfl⟩))
 all_goals
  refine bodyPost_ret (v := .agg #[.int .i32 (-2147483648), .int .i32 2147483647]) ?hr rfl ⟨rfl, ?aB⟩
  case hr =>
   simp [results, Tryz.results88, go_sem]
  case aB =>
   exact UX
theorem ud (xl xh yl yh : Int) (w : World) (hx1 : -2147483648 ≤ xl) (hx2 : xl ≤ 2147483647) (hx3 : -2147483648 ≤ xh) (hx4 : xh ≤ 2147483647) (hy1 : -2147483648 ≤ yl) (hy2 : yl ≤ 2147483647) (hy3 : -2147483648 ≤ yh) (hy4 : yh ≤ 2147483647) (he : xl ≤ xh) (he' : yl ≤ yh) (z : ¬ (yl = 0 ∧ yh = 0)) :
  Calls Tryz.prog 88 #[.agg #[.int .i32 xl, .int .i32 xh], .agg #[.int .i32 yl, .int .i32 yh]] w fun e w' => e = .returned (.agg #[.int .i32 (j5 (xl, xh) (yl, yh)).1, .int .i32 (j5 (xl, xh) (yl, yh)).2]) ∧ Below w.heap.size w w' := by
 have Q9 : yl < 0 ∨ 0 < yh := by omega
 by_cases b : (xl ≤ -2147483648 ∧ -2147483648 ≤ xh) ∧ (yl ≤ -1 ∧ -1 ≤ yh)
 ·refine (sr xl xh yl yh w (UZ (by simpa using b.1)) (UZ (by simpa using b.2))).mono fun e' w' ⟨q, hb⟩ => ⟨q.trans ?_, hb⟩
  rw [j5, if_neg z, if_pos b]
 ·have ev : j5 (xl, xh) (yl, yh) = aA (sO (xl, xh) (yl, yh)) := by rw [j5, if_neg z, if_neg b]
  rw [ev]
  have HH : Hid ((decide (xl ≤ -2147483648) && decide (-2147483648 ≤ xh)) = false) ∨ (Hid ((decide (xl ≤ -2147483648) && decide (-2147483648 ≤ xh)) = true) ∧ Hid ((decide (yl ≤ -1) && decide (-1 ≤ yh)) = false)) := by
   by_cases bx : xl ≤ -2147483648 ∧ -2147483648 ≤ xh
   ·exact .inr ⟨UZ (by simpa using bx), UZ (by simpa using fun h1 h2 => b ⟨bx, h1, h2⟩)⟩
   ·exact .inl (UZ (by simpa using bx))
  by_cases c1 : yl < 0
  ·by_cases c2 : 0 < yh
   ·refine (vZ xl xh yl yh w hx1 hx2 hx3 hx4 hy1 hy2 hy3 hy4 (min yh (-1)) (max yl 1) (UZ rfl) (UZ rfl) HH (by simpa using c1) (by simpa using c2) TX TX TX TX).mono fun e' w' ⟨q, hb⟩ => ⟨q.trans (gY (congrArg aA ?_)), hb⟩
    simp [sO, divC, c1, c2]
   ·refine (za xl xh yl yh w hx1 hx2 hx3 hx4 hy1 hy2 hy3 hy4 (min yh (-1)) (max yl 1) (UZ rfl) (UZ rfl) HH (by simpa using c1) (by simpa using c2) TX TX).mono fun e' w' ⟨q, hb⟩ => ⟨q.trans (gY (congrArg aA ?_)), hb⟩
    simp [sO, divC, c1, c2]
  ·have c2 : 0 < yh := by omega
   refine (y9 xl xh yl yh w hx1 hx2 hx3 hx4 hy1 hy2 hy3 hy4 (min yh (-1)) (max yl 1) (UZ rfl) (UZ rfl) HH (by simpa using c1) (by simpa using c2) TX TX).mono fun e' w' ⟨q, hb⟩ => ⟨q.trans (gY (congrArg aA ?_)), hb⟩
   simp [sO, divC, c1, c2]
end
section
open Go.RowKit
theorem iw {V : World} {ob : Obj} (y : Ext (V.alloc ob)) : ∃ y' : Ext V, y.w = y'.w :=
 ⟨⟨y.w, Ext.below (Below.alloc (Below.refl _ _) (Nat.le_refl _) ob) Uc y⟩, rfl⟩
theorem BQ (xl xh yl yh : Int) (w : World) (hx1 : -2147483648 ≤ xl) (hx2 : xl ≤ 2147483647) (hx3 : -2147483648 ≤ xh) (hx4 : xh ≤ 2147483647) (hy1 : -2147483648 ≤ yl) (hy2 : yl ≤ 2147483647) (hy3 : -2147483648 ≤ yh) (hy4 : yh ≤ 2147483647) (hy : yl ≤ yh) (z : ¬ (yl = 0 ∧ yh = 0)) :
  Calls Tryz.prog 89 #[.agg #[.int .i32 xl, .int .i32 xh], .agg #[.int .i32 yl, .int .i32 yh]] w fun e w' => e = .returned (.agg #[.int .i32 (eJ (xl, xh) (yl, yh)).1, .int .i32 (eJ (xl, xh) (yl, yh)).2]) ∧ Below w.heap.size w w' := by
 have hm : qu (yl, yh) = max (0 - yl) yh - 1 := by unfold qu; simp only; omega
 have hd : ∃ p q, eJ (xl, xh) (yl, yh) = (p, q) ∧ ((xl < 0 ∧ p = max xl (0 - (max (0 - yl) yh - 1))) ∨ (¬ xl < 0 ∧ p = 0)) ∧ ((0 < xh ∧ q = min xh (max (0 - yl) yh - 1)) ∨ (¬ 0 < xh ∧ q = 0)) := by
  refine ⟨(eJ (xl, xh) (yl, yh)).1, (eJ (xl, xh) (yl, yh)).2, rfl, ?_, ?_⟩ <;> rw [eJ, if_neg z, hm] <;> simp only <;> split <;> omega
 obtain ⟨p, q, e, hp, hq⟩ := hd
 rw [e]
 clear e hm z
 rcases hp with ⟨ha, rfl⟩ | ⟨ha, rfl⟩ <;> rcases hq with ⟨hb, rfl⟩ | ⟨hb, rfl⟩
 all_goals
  (first | have d1 := decide_eq_true ha | have d1 := decide_eq_false ha)
  (first | have d2 := decide_eq_true hb | have d2 := decide_eq_false hb)
  go_enter Tryz.func89, Tryz.ntmps89
  go_wp2_with (first | (go_at_call 112; refine (fY _ _ _).mono ?_; rintro e _ ⟨rfl, rfl⟩) | (go_at_call 113; refine (gW _ _ _).mono ?_; rintro e _ ⟨rfl, rfl⟩))
  all_goals
   refine bodyPost_ret (v := _) ?hr rfl ⟨rfl, ?aB⟩
   case hr =>
    simp [results, Tryz.results89, go_sem]
   case aB =>
    exact UX
theorem nL {a b : Nat} (h : 2 ^ a < 2 ^ b) : a < b := by
 rcases Nat.lt_or_ge a b with h' | h'
 ·exact h'
 ·have := Nat.pow_le_pow_right (n := 2) TX h'; omega
theorem yZ (n : Int) (w : World) (h0 : 0 ≤ n) (h1 : n ≤ 2147483647) :
  Calls Tryz.prog 115 #[.int .i32 n] w fun e w' => e = .returned (.int .i32 (eV n)) ∧ w = w' := by
 have HL := UZ (fE 64 n.toNat TX)
 have HB := UZ (fun k (h : n.toNat < 2 ^ k) => bitLenAux_le 64 k n.toNat h)
 have Td := bitLen_le h0 h1
 unfold Lib.bitLen at Td
 have EV := UZ (show eV n = 2 ^ Lib.bitLenAux 64 n.toNat - 1 from rfl)
 generalize Lib.bitLenAux 64 n.toNat = B at *
 go_enter Tryz.func115, Tryz.ntmps115
 go_wp2
 go_loop [3] (fun p => ∃ k : Nat, k ≤ B ∧ p = .int .i64 (2 ^ k)) (fun p => (4294967296 - intOf p).toNat)
 case atStart => exact ⟨0, by omega, rfl⟩
 case round =>
  obtain ⟨k, hk, rfl⟩ := hrel
  have hp := iQ k 31 TX
  have e31 : (2 : Int) ^ 31 = 2147483648 := by decide
  rw [e31] at hp
  obtain ⟨p1, p2⟩ := hp
  have ec : ((2 ^ k : Nat) : Int) = 2 ^ k := by simp
  have EC := UZ ec
  have P2 := UZ (show (2 : Int) * 2 ^ k = 2 ^ (k + 1) by rw [Int.pow_succ]; omega)
  clear ec e31
  by_cases hlt : (2 : Int) ^ k - 1 < n
  ·have Nk : k < B := nL (by have := HL.out; have := EC.out; omega)
   have d := decide_eq_true hlt
   obtain ⟨p, hp⟩ : ∃ p, (2 : Int) ^ k = p := ⟨_, rfl⟩
   rw [hp] at p1 p2 P2 hlt d ⊢
   clear hp EC
   go_wp2
   go_round
   case rel => exact ⟨k + 1, by omega, int_eq P2.out⟩
   case measure => simp [intOf]; omega
  ·have Nk : k = B := by
    have h := HB.out k (by have := EC.out; omega)
    omega
   have d := decide_eq_false hlt
   have E2 := UZ Nk
   obtain ⟨p, hp⟩ : ∃ p, (2 : Int) ^ k = p := ⟨_, rfl⟩
   have HP := UZ hp
   rw [hp] at p1 p2 hlt d ⊢
   clear hp EC P2 Nk
   go_wp2
   go_ret
   exact ⟨fj (by rw [EV.out, ← E2.out, HP.out]), rfl⟩
theorem Ch (op xl xh yl yh zl zh : Int) (w : World) (hx1 : -2147483648 ≤ xl) (hx2 : xl ≤ 2147483647) (hx3 : -2147483648 ≤ xh) (hx4 : xh ≤ 2147483647) (hy1 : -2147483648 ≤ yl) (hy2 : yl ≤ 2147483647) (hy3 : -2147483648 ≤ yh) (hy4 : yh ≤ 2147483647) (he : xl ≤ xh) (he' : yl ≤ yh) (hop : (op = 11 ∧ (0 ≤ xl) ∧ (0 ≤ yl) ∧ zl = 0 ∧ zh = min xh yh) ∨ (op = 11 ∧ (0 ≤ xl) ∧ (¬ 0 ≤ yl) ∧ zl = 0 ∧ zh = xh) ∨ (op = 11 ∧ (¬ 0 ≤ xl) ∧ (0 ≤ yl) ∧ zl = 0 ∧ zh = yh) ∨ (op = 11 ∧ (¬ 0 ≤ xl) ∧ (¬ 0 ≤ yl) ∧ zl = -2147483648 ∧ zh = 2147483647) ∨ (op = 12 ∧ (¬ 0 ≤ xl) ∧ (xh < 0) ∧ (yh < 0) ∧ zl = max xl yl ∧ zh = -1) ∨ (op = 12 ∧ (¬ 0 ≤ xl) ∧ (¬ xh < 0) ∧ zl = -2147483648 ∧ zh = 2147483647) ∨ (op = 12 ∧ (¬ 0 ≤ xl) ∧ (xh < 0) ∧ (¬ yh < 0) ∧ zl = -2147483648 ∧ zh = 2147483647) ∨ (op = 12 ∧ (0 ≤ xl) ∧ (¬ 0 ≤ yl) ∧ (¬ xh < 0) ∧ zl = -2147483648 ∧ zh = 2147483647) ∨ (op = 13 ∧ (0 ≤ xl) ∧ (0 ≤ yl) ∧ zl = 0 ∧ zh = eV (max xh yh)) ∨ (op = 13 ∧ (¬ 0 ≤ xl) ∧ zl = -2147483648 ∧ zh = 2147483647) ∨ (op = 13 ∧ (0 ≤ xl) ∧ (¬ 0 ≤ yl) ∧ zl = -2147483648 ∧ zh = 2147483647) ∨ (op = 12 ∧ (0 ≤ xl) ∧ (0 ≤ yl) ∧ zl = max xl yl ∧ zh = eV (max xh yh))) :
  Calls Tryz.prog 90 #[.int .u8 op, .agg #[.int .i32 xl, .int .i32 xh], .agg #[.int .i32 yl, .int .i32 yh]] w fun e w' => e = .returned (.agg #[.int .i32 zl, .int .i32 zh]) ∧ Below w.heap.size w w' := by
 rcases hop with ⟨rfl, k0, k1, rfl, rfl⟩ | ⟨rfl, k0, k1, rfl, rfl⟩ | ⟨rfl, k0, k1, rfl, rfl⟩ | ⟨rfl, k0, k1, rfl, rfl⟩ | ⟨rfl, k0, k1, k2, rfl, rfl⟩ | ⟨rfl, k0, k1, rfl, rfl⟩ | ⟨rfl, k0, k1, k2, rfl, rfl⟩ | ⟨rfl, k0, k1, k2, rfl, rfl⟩ | ⟨rfl, k0, k1, rfl, rfl⟩ | ⟨rfl, k0, rfl, rfl⟩ | ⟨rfl, k0, k1, rfl, rfl⟩ | ⟨rfl, k0, k1, rfl, rfl⟩
 all_goals
  (first | have p0 := decide_eq_true k0 | have p0 := decide_eq_false k0)
  (try (first | have p1 := decide_eq_true k1 | have p1 := decide_eq_false k1))
  (try (first | have p2 := decide_eq_true k2 | have p2 := decide_eq_false k2))
  go_enter Tryz.func90, Tryz.ntmps90
  go_wp2_with (first | (go_at_call 112; refine (fY _ _ _).mono ?_; rintro e _ ⟨rfl, rfl⟩) | (go_at_call 113; refine (gW _ _ _).mono ?_; rintro e _ ⟨rfl, rfl⟩) | (go_at_call 115; refine (yZ _ _ TX TX).mono ?_; rintro e _ ⟨rfl, rfl⟩) | (go_at_call 46; ((first | (with_reducible refine (Calls.au (cH _)).mono ?_) | (refine (Calls.ext (cH _)).mono ?_)); rintro e _ ⟨rfl, y, rfl⟩)))
  all_goals
   refine bodyPost_ret (v := _) ?hr rfl ⟨rfl, ?aB⟩
   case hr =>
    simp [results, Tryz.results90, go_sem]
   case aB =>
    exact UX
theorem iO (op xl xh yl yh : Int) (w : World) (hx1 : -2147483648 ≤ xl) (hx2 : xl ≤ 2147483647) (hx3 : -2147483648 ≤ xh) (hx4 : xh ≤ 2147483647) (hy1 : -2147483648 ≤ yl) (hy2 : yl ≤ 2147483647) (hy3 : -2147483648 ≤ yh) (hy4 : yh ≤ 2147483647) (h1 : 11 ≤ op) (h2 : op ≤ 13) (he : xl ≤ xh) (he' : yl ≤ yh) :
  Calls Tryz.prog 90 #[.int .u8 op, .agg #[.int .i32 xl, .int .i32 xh], .agg #[.int .i32 yl, .int .i32 yh]] w fun e w' => e = .returned (.agg #[.int .i32 (ni op (xl, xh) (yl, yh)).1, .int .i32 (ni op (xl, xh) (yl, yh)).2]) ∧ Below w.heap.size w w' := by
 obtain ⟨zl, zh, e, h⟩ := rL op xl xh yl yh h1 h2 he he'
 rw [e]
 exact Ch op xl xh yl yh zl zh w hx1 hx2 hx3 hx4 hy1 hy2 hy3 hy4 he he' h
theorem tS (xl xh yl yh : Int) (w : World) (hx1 : -2147483648 ≤ xl) (hx2 : xl ≤ 2147483647) (hx3 : -2147483648 ≤ xh) (hx4 : xh ≤ 2147483647) (hy1 : -2147483648 ≤ yl) (hy2 : yl ≤ 2147483647) (hy3 : -2147483648 ≤ yh) (hy4 : yh ≤ 2147483647) (hs : (yl == yh) = true) :
  Calls Tryz.prog 91 #[.int .u8 15, .agg #[.int .i32 xl, .int .i32 xh], .agg #[.int .i32 yl, .int .i32 yh]] w fun e w' => e = .returned (.agg #[.int .i32 (wv 15 xl yl), .int .i32 (wv 15 xh yl)]) ∧ Below w.heap.size w w' := by
 go_enter Tryz.func91, Tryz.ntmps91
 go_wp2_with (first | (go_at_call 84; ((first | (with_reducible refine (Calls.au (aN _ _ _)).mono ?_) | (refine (Calls.ext (aN _ _ _)).mono ?_)); rintro e _ ⟨rfl, y, rfl⟩)) | (go_at_call 46; ((first | (with_reducible refine (Calls.au (cH _)).mono ?_) | (refine (Calls.ext (cH _)).mono ?_)); rintro e _ ⟨rfl, y, rfl⟩)) | (go_at_call 85; refine (kH _ _ _ _ ⟨by assumption, by assumption⟩ ⟨by assumption, by assumption⟩).mono ?_; rintro e _ ⟨rfl, rfl⟩))
 all_goals
  refine bodyPost_ret (v := .agg #[.int .i32 (wv 15 xl yl), .int .i32 (wv 15 xh yl)]) ?hr rfl ⟨rfl, ?aB⟩
  case hr =>
   simp [results, Tryz.results91, go_sem]
  case aB =>
   exact UX
theorem yY (xl xh yl yh zl zh : Int) (w : World) (hx1 : -2147483648 ≤ xl) (hx2 : xl ≤ 2147483647) (hx3 : -2147483648 ≤ xh) (hx4 : xh ≤ 2147483647) (hy1 : -2147483648 ≤ yl) (hy2 : yl ≤ 2147483647) (hy3 : -2147483648 ≤ yh) (hy4 : yh ≤ 2147483647) (hs : (yl == yh) = false) (hz : (0 ≤ xl ∧ zl = 0) ∨ (¬ 0 ≤ xl ∧ xl = zl)) (hz' : (xh < 0 ∧ zh = -1) ∨ (¬ xh < 0 ∧ xh = zh)) :
  Calls Tryz.prog 91 #[.int .u8 15, .agg #[.int .i32 xl, .int .i32 xh], .agg #[.int .i32 yl, .int .i32 yh]] w fun e w' => e = .returned (.agg #[.int .i32 zl, .int .i32 zh]) ∧ Below w.heap.size w w' := by
 rcases hz with ⟨k0, rfl⟩ | ⟨k0, rfl⟩ <;> rcases hz' with ⟨k1, rfl⟩ | ⟨k1, rfl⟩
 all_goals
  (first | have p0 := decide_eq_true k0 | have p0 := decide_eq_false k0)
  (first | have p1 := decide_eq_true k1 | have p1 := decide_eq_false k1)
  go_enter Tryz.func91, Tryz.ntmps91
  go_wp2_with fail
  refine (Calls.ext (aN _ _ _)).mono ?_
  rintro e _ ⟨rfl, y, rfl⟩
  obtain ⟨V, hV, D⟩ := dc xl xh yl yh w y
  rw [hV]
  clear hV
  obtain ⟨kB, s1, s2, s3, c1, c2, c3, c4, c5, c6, f5, f6⟩ := D
  go_wp2
  all_goals
   refine bodyPost_ret (v := _) ?hr rfl ⟨rfl, ?aB⟩
   case hr =>
    simp [results, Tryz.results91, go_sem, c5, c6, s3]
   case aB =>
    (repeat (first | exact kB | refine Below.setCell ?_ ?_ _ | refine Below.alloc ?_ ?_ _)) <;> (first | omega | (simp; done) | (simp; omega))
theorem tU (xl xh yl yh : Int) (w : World) (hx1 : -2147483648 ≤ xl) (hx2 : xl ≤ 2147483647) (hx3 : -2147483648 ≤ xh) (hx4 : xh ≤ 2147483647) (hy1 : -2147483648 ≤ yl) (hy2 : yl ≤ 2147483647) (hy3 : -2147483648 ≤ yh) (hy4 : yh ≤ 2147483647) (hs : (yl == yh) = false) :
  Calls Tryz.prog 91 #[.int .u8 14, .agg #[.int .i32 xl, .int .i32 xh], .agg #[.int .i32 yl, .int .i32 yh]] w fun e w' => e = .returned (.agg #[.int .i32 (-2147483648), .int .i32 (2147483647)]) ∧ Below w.heap.size w w' := by
 go_enter Tryz.func91, Tryz.ntmps91
 go_wp2_with (first | (go_at_call 84; ((first | (with_reducible refine (Calls.au (aN _ _ _)).mono ?_) | (refine (Calls.ext (aN _ _ _)).mono ?_)); rintro e _ ⟨rfl, y, rfl⟩)) | (go_at_call 46; ((first | (with_reducible refine (Calls.au (cH _)).mono ?_) | (refine (Calls.ext (cH _)).mono ?_)); rintro e _ ⟨rfl, y, rfl⟩)) | (go_at_call 85; refine (kH _ _ _ _ ⟨by assumption, by assumption⟩ ⟨by assumption, by assumption⟩).mono ?_; rintro e _ ⟨rfl, rfl⟩))
 all_goals
  refine bodyPost_ret (v := .agg #[.int .i32 (-2147483648), .int .i32 (2147483647)]) ?hr rfl ⟨rfl, ?aB⟩
  case hr =>
   simp [results, Tryz.results91, go_sem]
  case aB =>
   exact UX
theorem tT (xl xh yl yh : Int) (w : World) (hx1 : -2147483648 ≤ xl) (hx2 : xl ≤ 2147483647) (hx3 : -2147483648 ≤ xh) (hx4 : xh ≤ 2147483647) (hy1 : -2147483648 ≤ yl) (hy2 : yl ≤ 2147483647) (hy3 : -2147483648 ≤ yh) (hy4 : yh ≤ 2147483647) (hs : (yl == yh) = true) :
  Calls Tryz.prog 91 #[.int .u8 14, .agg #[.int .i32 xl, .int .i32 xh], .agg #[.int .i32 yl, .int .i32 yh]] w fun e w' => e = .returned (.agg #[.int .i32 (aA [xl * 2 ^ (yl % 32).toNat, xh * 2 ^ (yl % 32).toNat]).1, .int .i32 (aA [xl * 2 ^ (yl % 32).toNat, xh * 2 ^ (yl % 32).toNat]).2]) ∧ Below w.heap.size w w' := by
 go_enter Tryz.func91, Tryz.ntmps91
 go_wp2_with fail
 refine (Calls.ext (aN _ _ _)).mono ?_
 rintro e _ ⟨rfl, y, rfl⟩
 have HF := UZ (count_eq yl)
 have hb : -32 < yl.tmod 32 ∧ yl.tmod 32 < 32 := by rcases count_eq yl with h | h <;> omega
 obtain ⟨b1, b2⟩ := hb
 obtain ⟨r, hr⟩ : ∃ r, yl.tmod 32 = r := ⟨_, rfl⟩
 have HR := UZ hr
 go_wp2_with fail
 refine (Calls.au (aN _ _ _)).mono ?_
 rintro e _ ⟨rfl, y2, rfl⟩
 obtain ⟨V, hV, D⟩ := dc xl xh yl yh w y2
 rw [hV]
 clear hV
 obtain ⟨kB, s1, s2, s3, c1, c2, c3, c4, c5, c6, f5, f6⟩ := D
 by_cases hneg : r < 0
 all_goals
  (first | have dn := decide_eq_true hneg | have dn := decide_eq_false hneg)
  go_wp2_with fail
  go_loop [13, 14] (fun p i => ∃ k : Nat, k ≤ (yl % 32).toNat ∧ i = .int .i64 k ∧ p = .int .i64 (2 ^ k)) (fun _ i => (yl % 32).toNat - (intOf i).toNat)
  case atStart => exact ⟨0, by omega, rfl, rfl⟩
  case round =>
   obtain ⟨k, hk, rfl, rfl⟩ := hrel
   have hp := iQ k 31 TX
   have e31 : (2 : Int) ^ 31 = 2147483648 := by decide
   rw [e31] at hp
   obtain ⟨p1, p2⟩ := hp
   have P2 := UZ (show (2 : Int) * 2 ^ k = 2 ^ (k + 1) by rw [Int.pow_succ]; omega)
   have hn := HF.out
   have hr' := HR.out
   clear e31
   by_cases hlt : k < (yl % 32).toNat
   ·(first | (have hlt' : (k : Int) < r := by omega) | (have hlt' : (k : Int) < r + 32 := by omega))
    clear hn hr'
    obtain ⟨p, hp⟩ : ∃ p, (2 : Int) ^ k = p := ⟨_, rfl⟩
    rw [hp] at p1 p2 P2 ⊢
    clear hp
    go_wp2_with fail
    go_round
    case rel => exact ⟨k + 1, by omega, by go_num, int_eq P2.out⟩
    case measure => simp [intOf]; omega
   ·(first | (have hge : ¬ (k : Int) < r + 32 := by omega) | (have hge : ¬ (k : Int) < r := by omega))
    clear hn hr'
    have ek : k = (yl % 32).toNat := by omega
    subst ek
    have M1 := oa xl yl hx1 hx2
    have M2 := oa xh yl hx3 hx4
    have m1 := fD (x := xl) (y := 2 ^ (yl % 32).toNat - 1) hx1 hx2 TX TX
    go_wp2_with fail
    refine (Calls.ext (gX _ 2 [xl * 2 ^ (yl % 32).toNat, xh * 2 ^ (yl % 32).toNat] _ T4 T4 T4 ?_)).mono ?_
    ·intro i hi
     simp only [List.length_cons, List.length_nil] at hi
     have : i = 0 ∨ i = 1 := by omega
     rcases this with rfl | rfl <;> (simp [nth, go_sem])
    rintro e _ ⟨rfl, y5, rfl⟩
    obtain ⟨y6, h6⟩ := iw y5
    rw [h6]
    clear h6 y5
    go_wp2
    all_goals
     refine bodyPost_ret (v := .agg #[.int .i32 (aA [xl * 2 ^ (yl % 32).toNat, xh * 2 ^ (yl % 32).toNat]).1, .int .i32 (aA [xl * 2 ^ (yl % 32).toNat, xh * 2 ^ (yl % 32).toNat]).2]) ?hr rfl ⟨rfl, ?aB⟩
     case hr =>
      simp [results, Tryz.results91, go_sem, c5, c6, s3]
     case aB =>
      exact Below.setCell (Below.setCell (Ext.below kB TX y6) T9 _) T9 _
theorem oM (op xl xh yl yh : Int) (w : World) (hx1 : -2147483648 ≤ xl) (hx2 : xl ≤ 2147483647) (hx3 : -2147483648 ≤ xh) (hx4 : xh ≤ 2147483647) (hy1 : -2147483648 ≤ yl) (hy2 : yl ≤ 2147483647) (hy3 : -2147483648 ≤ yh) (hy4 : yh ≤ 2147483647) (h1 : 14 ≤ op) (h2 : op ≤ 15) :
  Calls Tryz.prog 91 #[.int .u8 op, .agg #[.int .i32 xl, .int .i32 xh], .agg #[.int .i32 yl, .int .i32 yh]] w fun e w' => e = .returned (.agg #[.int .i32 (rZ op (xl, xh) (yl, yh)).1, .int .i32 (rZ op (xl, xh) (yl, yh)).2]) ∧ Below w.heap.size w w' := by
 have h : op = 14 ∨ op = 15 := by omega
 by_cases e : yl = yh
 ·rcases h with rfl | rfl
  ·refine (tT xl xh yl yh w hx1 hx2 hx3 hx4 hy1 hy2 hy3 hy4 (by simpa using e)).mono fun e' w' ⟨q, hb⟩ => ⟨q.trans ?_, hb⟩
   simp [rZ, e]
  ·refine (tS xl xh yl yh w hx1 hx2 hx3 hx4 hy1 hy2 hy3 hy4 (by simpa using e)).mono fun e' w' ⟨q, hb⟩ => ⟨q.trans ?_, hb⟩
   rw [show wv 15 xl yl = xl / 2 ^ (yl % 32).toNat from rfl, show wv 15 xh yl = xh / 2 ^ (yl % 32).toNat from rfl]
   simp [rZ, e]
 ·have hs : (yl == yh) = false := by simpa using e
  rcases h with rfl | rfl
  ·refine (tU xl xh yl yh w hx1 hx2 hx3 hx4 hy1 hy2 hy3 hy4 hs).mono fun e' w' ⟨q, hb⟩ => ⟨q.trans ?_, hb⟩
   simp [rZ, e]
  ·exact yY xl xh yl yh _ _ w hx1 hx2 hx3 hx4 hy1 hy2 hy3 hy4 hs (by simp only [rZ, if_neg e]; split <;> omega) (by simp only [rZ, if_neg e]; split <;> omega)
end
section
open Go.RowKit
theorem Fy (d : Nat) (a b c e : Int) (w : World) : (Op.equalIn (d + 1 + 1) 58 (.agg #[.int .i32 a, .int .i32 b]) (.agg #[.int .i32 c, .int .i32 e])).run Tryz.prog w = .ok (a == c && b == e) w := by
 rw [Op.equalIn]
 simp [run_underlying Tryz.underlying58, uR d Tryz.underlying21, F9, F8, Sem.run_bind]
 by_cases h1 : a = c <;> by_cases h2 : b = e <;> simp [h1, h2]
theorem ye (a b c d : Int) (w : World) : (binOp .eql 58 (.agg #[.int .i32 a, .int .i32 b]) (.agg #[.int .i32 c, .int .i32 d])).run Tryz.prog w = .ok (.bool (a == c && b == d)) w := by
 simp only [binOp]
 simp [Op.equal, Op.maxDepth, Fy 9998]
def bz (xl xh yl yh : Int) : Bool := decide (xh < yl) || decide (yh < xl)
theorem AY (xl xh yl yh : Int) (hx : xl ≤ xh) (hy : yl ≤ yh) : bz xl xh yl yh = emp (aH (xl, xh) (yl, yh)) := by
 unfold bz
 rcases oZ (xl, xh) (yl, yh) with ⟨c, e⟩ | ⟨c1, c2, c3, e⟩
 ·rw [e, Bool.eq_iff_iff]; simp only at c; simp [emp]; omega
 ·rw [e, Bool.eq_iff_iff]; simp only at c1 c2 c3; simp only [emp, Bool.or_eq_true, decide_eq_true_eq]; omega
theorem EG (op xl xh yl yh : Int) (d1 : Bool) (w : World) (hd : (decide (op < 6) = true ∧ d1 = true) ∨ (decide (op < 6) = false ∧ decide (23 < op) = true ∧ d1 = true)) :
  Calls Tryz.prog 43 #[.int .u8 op, .agg #[.int .i32 xl, .int .i32 xh], .agg #[.int .i32 yl, .int .i32 yh]] w fun e w' => e = .returned (.agg #[.int .i32 (-2147483648), .int .i32 2147483647]) ∧ Below w.heap.size w w' := by
 rcases hd with ⟨h1, rfl⟩ | ⟨h1, h2, rfl⟩
 all_goals
  go_enter Tryz.func43, Tryz.ntmps43
  go_wp2_with (go_at_call 46; ((first | (with_reducible refine (Calls.au (cH _)).mono ?_) | (refine (Calls.ext (cH _)).mono ?_)); rintro e _ ⟨rfl, y, rfl⟩))
  refine bodyPost_ret (v := .agg #[.int .i32 (-2147483648), .int .i32 2147483647]) ?hr rfl ⟨rfl, ?aB⟩
  case hr =>
   simp [results, Tryz.results43, go_sem]
  case aB =>
   exact UX
theorem EI (op xl xh yl yh : Int) (d : Bool) (w : World) (h1 : 6 ≤ op) (h2 : op ≤ 23) (hd : (decide (xh < xl) = true ∧ d = true) ∨ (decide (xh < xl) = false ∧ decide (yh < yl) = true ∧ d = true)) :
  Calls Tryz.prog 43 #[.int .u8 op, .agg #[.int .i32 xl, .int .i32 xh], .agg #[.int .i32 yl, .int .i32 yh]] w fun e w' => e = .returned (.agg #[.int .i32 1, .int .i32 0]) ∧ Below w.heap.size w w' := by
 have d1 : decide (op < 6) = false := by simp; omega
 have d2 : decide (23 < op) = false := by simp; omega
 rcases hd with ⟨h1, rfl⟩ | ⟨h1, h2, rfl⟩
 all_goals
  go_enter Tryz.func43, Tryz.ntmps43
  go_wp2_with (first | (go_at_call 83; ((first | (with_reducible refine (Calls.au (bJ _ _ _)).mono ?_) | (refine (Calls.ext (bJ _ _ _)).mono ?_)); rintro e _ ⟨rfl, y, rfl⟩)) | (go_at_call 51; ((first | (with_reducible refine (Calls.au (cF _)).mono ?_) | (refine (Calls.ext (cF _)).mono ?_)); rintro e _ ⟨rfl, y, rfl⟩)))
  refine bodyPost_ret (v := .agg #[.int .i32 1, .int .i32 0]) ?hr rfl ⟨rfl, ?aB⟩
  case hr =>
   simp [results, Tryz.results43, go_sem]
  case aB =>
   exact UX
theorem oT (op n m zl zh : Int) (w : World) (h1 : 6 ≤ op) (h2 : op ≤ 23) (hn : aK n) (hm : aK m) (hd : ((we op m != 0) = false ∧ zl = wv op n m ∧ zh = wv op n m) ∨ ((we op m != 0) = true ∧ zl = 1 ∧ zh = 0)) :
  Calls Tryz.prog 43 #[.int .u8 op, .agg #[.int .i32 n, .int .i32 n], .agg #[.int .i32 m, .int .i32 m]] w fun e w' => e = .returned (.agg #[.int .i32 zl, .int .i32 zh]) ∧ Below w.heap.size w w' := by
 have d1 : decide (op < 6) = false := by simp; omega
 have d2 : decide (23 < op) = false := by simp; omega
 have d3 : decide (n < n) = false := by simp
 have d4 : decide (m < m) = false := by simp
 have d5 : (n == n) = true := by simp
 have d6 : (m == m) = true := by simp
 rcases hd with ⟨we0, rfl, rfl⟩ | ⟨we0, rfl, rfl⟩
 all_goals
  obtain ⟨q, hq⟩ : ∃ q, (we op m == 0) = q := ⟨_, rfl⟩
  have hq2 : q = !(we op m != 0) := by rw [← hq]; simp [bne]
  rw [we0] at hq2
  subst hq2
  go_enter Tryz.func43, Tryz.ntmps43
  go_wp2_with (first | (go_at_call 83; ((first | (with_reducible refine (Calls.au (bJ _ _ _)).mono ?_) | (refine (Calls.ext (bJ _ _ _)).mono ?_)); rintro e _ ⟨rfl, y, rfl⟩)) | (go_at_call 84; ((first | (with_reducible refine (Calls.au (aN _ _ _)).mono ?_) | (refine (Calls.ext (aN _ _ _)).mono ?_)); rintro e _ ⟨rfl, y, rfl⟩)) | (go_at_call 51; ((first | (with_reducible refine (Calls.au (cF _)).mono ?_) | (refine (Calls.ext (cF _)).mono ?_)); rintro e _ ⟨rfl, y, rfl⟩)) | (go_at_call 85; refine (Calls.bO (kH _ _ _ _ hn hm)).mono ?_; rintro e _ ⟨rfl, y, rfl⟩))
  refine bodyPost_ret (v := _) ?hr rfl ⟨rfl, ?aB⟩
  case hr =>
   simp [results, Tryz.results43, go_sem]
  case aB =>
   exact UX
theorem oJ (w V : World) (xl xh yl yh : Int) (D : DC w V xl xh yl yh) : ∃ (W : World) (g : Nat), V.alloc (Obj.cells #[Value.int IntKind.i32 0, Value.int IntKind.i32 0] 58) = W ∧ V.heap.size = g ∧ Below w.heap.size w W ∧ w.heap.size < W.heap.size ∧ w.heap.size + 1 < W.heap.size ∧ w.heap.size + 1 + 1 < W.heap.size ∧ g < W.heap.size ∧
  W.cell? ⟨w.heap.size, 0, none⟩ = some (.int .i32 xl) ∧ W.cell? ⟨w.heap.size, 1, none⟩ = some (.int .i32 xh) ∧ W.cell? ⟨w.heap.size + 1, 0, none⟩ = some (.int .i32 yl) ∧ W.cell? ⟨w.heap.size + 1, 1, none⟩ = some (.int .i32 yh) ∧ W.cell? ⟨w.heap.size + 1 + 1, 0, none⟩ = some (.int .i32 0) ∧ W.cell? ⟨w.heap.size + 1 + 1, 1, none⟩ = some (.int .i32 0) ∧ W.cell? ⟨g, 0, none⟩ = some (.int .i32 0) ∧ W.cell? ⟨g, 1, none⟩ = some (.int .i32 0) ∧ W.frozen? ⟨w.heap.size + 1 + 1, 0, none⟩ = false ∧ W.frozen? ⟨w.heap.size + 1 + 1, 1, none⟩ = false := by
 obtain ⟨kB, s1, s2, s3, c1, c2, c3, c4, c5, c6, f5, f6⟩ := D
 refine ⟨_, _, rfl, rfl, Below.alloc kB TX _, by rw [World.size_alloc]; omega, by rw [World.size_alloc]; omega, by rw [World.size_alloc]; omega, by rw [World.size_alloc]; omega, ?_, ?_, ?_, ?_, ?_, ?_, ?_, ?_, ?_, ?_⟩
 all_goals (go_simp; done)
theorem oU (op xl xh yl yh p q r s : Int) (w : World) (hop : op = 6 ∨ op = 7 ∨ op = 8) (hx1 : -2147483648 ≤ xl) (hx2 : xl ≤ 2147483647) (hx3 : -2147483648 ≤ xh) (hx4 : xh ≤ 2147483647) (hy1 : -2147483648 ≤ yl) (hy2 : yl ≤ 2147483647) (hy3 : -2147483648 ≤ yh) (hy4 : yh ≤ 2147483647) (gw : xl ≤ xh) (fN : yl ≤ yh) (hs : (xl == xh) = false ∨ ((xl == xh) = true ∧ (yl == yh) = false)) (HC : Hid (∀ W, Calls Tryz.prog 87 #[.int .u8 op, .agg #[.int .i32 xl, .int .i32 xh], .agg #[.int .i32 yl, .int .i32 yh]] W (jU [p, q, r, s] W))) :
  Calls Tryz.prog 43 #[.int .u8 op, .agg #[.int .i32 xl, .int .i32 xh], .agg #[.int .i32 yl, .int .i32 yh]] w fun e w' => e = .returned (.agg #[.int .i32 (aA [p, q, r, s]).1, .int .i32 (aA [p, q, r, s]).2]) ∧ Below w.heap.size w w' := by
 have d3 : decide (xh < xl) = false := by simp; omega
 have d4 : decide (yh < yl) = false := by simp; omega
 rcases hop with rfl | rfl | rfl <;> rcases hs with hs | ⟨hs, hs'⟩
 all_goals
  go_enter Tryz.func43, Tryz.ntmps43
  go_upto_region 10 with (first | (go_at_call 83; ((first | (with_reducible refine (Calls.au (bJ _ _ _)).mono ?_) | (refine (Calls.ext (bJ _ _ _)).mono ?_)); rintro e _ ⟨rfl, y, rfl⟩)) | (go_at_call 84; ((first | (with_reducible refine (Calls.au (aN _ _ _)).mono ?_) | (refine (Calls.ext (aN _ _ _)).mono ?_)); rintro e _ ⟨rfl, y, rfl⟩)))
  obtain ⟨V, hV, D⟩ := dc xl xh yl yh w y
  rw [hV]
  clear hV
  obtain ⟨kB, s1, s2, s3, c1, c2, c3, c4, c5, c6, f5, f6⟩ := D
  go_cut [9] (fun s wx => s = .bool (bz xl xh yl yh) ∧ wx = V)
  case first =>
   by_cases ha : xh < yl
   ·have HA := UZ (show bz xl xh yl yh = true by simp [bz, ha])
    have da := decide_eq_true ha
    go_wp2_with fail
    go_meet
    exact ⟨by rw [HA.out], rfl⟩
   ·have HA := UZ (show bz xl xh yl yh = decide (yh < xl) by simp [bz, ha])
    have da := decide_eq_false ha
    go_wp2_with fail
    go_meet
    exact ⟨by rw [HA.out], rfl⟩
  case rest =>
   obtain ⟨rfl, hwc⟩ := hcut
   rw [hwc]
   clear hwc
   as_aux_lemma =>
    go_wp2_with fail
    refine (HC.out _).mono ?_
    rintro e W2 ⟨g, cap, rfl, hge, hg, hc, hb⟩
    go_wp2_with fail
    refine (Calls.ext (gX g cap [p, q, r, s] _ T4 T4 hg hc)).mono ?_
    rintro e _ ⟨rfl, y4, rfl⟩
    obtain ⟨y5, hm⟩ : ∃ y5 : Ext V, y4.w = y5.w := ⟨⟨y4.w, ((Below.alloc (Below.refl V.heap.size V) (Nat.le_refl _) _).trans (hb.mono Uc)).trans (y4.h.mono (by have := hb.size; rw [World.size_alloc] at this; omega))⟩, rfl⟩
    rw [hm]
    clear hm y4 hc hg hge hb
    go_wp2
    all_goals
     refine bodyPost_ret (v := .agg #[.int .i32 (aA [p, q, r, s]).1, .int .i32 (aA [p, q, r, s]).2]) ?hr rfl ⟨rfl, ?aB⟩
     case hr =>
      simp [results, Tryz.results43, go_sem, c5, c6, s3]
     case aB =>
      exact Below.setCell (Below.setCell (Ext.below kB TX y5) T9 _) T9 _
end
end Go.Proofs.YtebklpnkcicpjaaGreatDoor
