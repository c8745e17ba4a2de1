/-
  What is proved here: the law IntervalMonotone returns true for every input.
-/
import Derived.Test.YtjkjcnamlankoaaIvMonoPlain
import Derived.Test.YtjkjcnamlankoaaIvOpen
import Derived.Deep.RegionHeld3
import Derived.Deep.DeepCutAuto
namespace Go.Proofs.Ytjkjcnamlankoaa
open Go.ChangeShapes Go.WideShapes Go.ChangeAt Go.RowKit
set_option linter.unusedVariables false
set_option linter.unusedSimpArgs false

theorem join_word {x y : Int × Int} (hx : WI x) (hy : WI y) : WI (joinI x y) := by
  unfold WI W32 at *
  rcases join_forms x y with ⟨_, _, h⟩ | ⟨_, _, h⟩ | ⟨_, _, h⟩ | ⟨_, _, h⟩ <;> rw [h] <;> (try simp only) <;> omega
theorem meet_word {x y : Int × Int} (hx : WI x) (hy : WI y) : WI (meetI x y) := by
  unfold WI W32 at *
  rcases meet_forms x y with ⟨_, h⟩ | ⟨_, _, _, h⟩ <;> rw [h] <;> (try simp only) <;> omega
theorem meet_sub (x y : Int × Int) : Sub (meetI x y) x := by
  rcases meet_forms x y with ⟨_, h⟩ | ⟨_, _, _, h⟩ <;> rw [h]
  · exact .inl (by decide)
  · exact .inr ⟨by simp only; omega, by simp only; omega⟩
theorem mono_one {op : Int} {x y u v : Int × Int} (hx : WI x) (hy : WI y) (hu : WI u) (hv : WI v) : withinI (applyI op x y) (applyI op (joinI x u) (joinI y v)) = true := by
  rw [sub_iff]
  exact apply_sub hx hy (join_word hx hu) (join_word hy hv) ((sub_iff _ _).1 (join_left x u)) ((sub_iff _ _).1 (join_left y v))
theorem mono_two {op : Int} {x y u : Int × Int} (hx : WI x) (hy : WI y) (hu : WI u) : withinI (applyI op (meetI x u) y) (applyI op x y) = true := by
  rw [sub_iff]
  exact apply_sub (meet_word hx hu) hy hx hy (meet_sub x u) (.inr ⟨Int.le_refl _, Int.le_refl _⟩)

theorem four_base (xl xh yl yh ul uh vl vh : Int) (w : World) :
    ∃ W : World, ((((w.alloc (Obj.cells #[Value.int IntKind.i32 xl, Value.int IntKind.i32 xh] 23)).alloc (Obj.cells #[Value.int IntKind.i32 yl, Value.int IntKind.i32 yh] 23)).alloc (Obj.cells #[Value.int IntKind.i32 ul, Value.int IntKind.i32 uh] 23)).alloc (Obj.cells #[Value.int IntKind.i32 vl, Value.int IntKind.i32 vh] 23)) = W ∧ Below w.heap.size w W ∧ w.heap.size < W.heap.size ∧ w.heap.size + 1 < W.heap.size ∧ w.heap.size + 1 + 1 < W.heap.size ∧ w.heap.size + 1 + 1 + 1 < W.heap.size ∧ W.cell? ⟨w.heap.size, 0, none⟩ = some (.int .i32 xl) ∧ W.cell? ⟨w.heap.size, 1, none⟩ = some (.int .i32 xh) ∧ W.cell? ⟨w.heap.size + 1, 0, none⟩ = some (.int .i32 yl) ∧ W.cell? ⟨w.heap.size + 1, 1, none⟩ = some (.int .i32 yh) ∧ W.cell? ⟨w.heap.size + 1 + 1, 0, none⟩ = some (.int .i32 ul) ∧ W.cell? ⟨w.heap.size + 1 + 1, 1, none⟩ = some (.int .i32 uh) ∧ W.cell? ⟨w.heap.size + 1 + 1 + 1, 0, none⟩ = some (.int .i32 vl) ∧ W.cell? ⟨w.heap.size + 1 + 1 + 1, 1, none⟩ = some (.int .i32 vh) := by
  refine ⟨_, rfl, ?_, by simp <;> omega, by simp <;> omega, by simp <;> omega, by simp, ?_, ?_, ?_, ?_, ?_, ?_, ?_, ?_⟩
  · (repeat (first | exact Below.refl _ _ | refine Below.setCell ?_ ?_ _ | refine Ext.below ?_ ?_ _ | refine Below.alloc ?_ ?_ _)) <;> (first | (simp; done) | (simp; omega) | omega | (simp only [World.size_setCell, World.size_alloc]; refine Nat.le_trans ?_ (Below.size (Ext.h _)); simp only [World.size_setCell, World.size_alloc]; omega))
  all_goals (go_simp; done)

set_option maxRecDepth 100000 in
set_option maxHeartbeats 8000000 in
theorem monotone_in (op xl xh yl yh ul uh vl vh : Int) (w : World) (hx1 : -2147483648 ≤ xl) (hx2 : xl ≤ 2147483647) (hx3 : -2147483648 ≤ xh) (hx4 : xh ≤ 2147483647) (hy1 : -2147483648 ≤ yl) (hy2 : yl ≤ 2147483647) (hy3 : -2147483648 ≤ yh) (hy4 : yh ≤ 2147483647) (hu1 : -2147483648 ≤ ul) (hu2 : ul ≤ 2147483647) (hu3 : -2147483648 ≤ uh) (hu4 : uh ≤ 2147483647) (hv1 : -2147483648 ≤ vl) (hv2 : vl ≤ 2147483647) (hv3 : -2147483648 ≤ vh) (hv4 : vh ≤ 2147483647) :
    Calls Try.prog 8 #[.int .u8 op, .agg #[.int .i32 xl, .int .i32 xh], .agg #[.int .i32 yl, .int .i32 yh], .agg #[.int .i32 ul, .int .i32 uh], .agg #[.int .i32 vl, .int .i32 vh]] w fun e w' => e = .returned (.bool true) ∧ Below w.heap.size w w' := by
  go_enter Try.func8, Try.ntmps8
  go_wp2_with fail
  obtain ⟨W, hW, kB, z1, z2, z3, z4, x1, x2, y1, y2, u1, u2, v1, v2⟩ := four_base xl xh yl yh ul uh vl vh w
  rw [hW]
  clear hW
  go_upto_region 1 with fail
  go_cut [11, 12] (fun s11 s12 wx => ∃ (g h : Nat) (v : Ext W), s11 = .pointer (some ⟨g, 0, none⟩) ∧ s12 = .pointer (some ⟨h, 0, none⟩) ∧ wx = v.w ∧ v.w.cell? ⟨g, 0, none⟩ = some (.int .i32 (joinI (xl, xh) (ul, uh)).1) ∧ v.w.cell? ⟨g, 1, none⟩ = some (.int .i32 (joinI (xl, xh) (ul, uh)).2) ∧ v.w.cell? ⟨h, 0, none⟩ = some (.int .i32 (joinI (yl, yh) (vl, vh)).1) ∧ v.w.cell? ⟨h, 1, none⟩ = some (.int .i32 (joinI (yl, yh) (vl, vh)).2) ∧ g < v.w.heap.size ∧ h < v.w.heap.size)
  case first =>
    as_aux_lemma =>
      have K0 : Keeps W W := Below.refl _ _
      go_region_held3 (fun w' => (∀ b o, b < W.heap.size → w'.cell? ⟨b, o, none⟩ = W.cell? ⟨b, o, none⟩) ∧ Keeps W w') ((refine keeps_both rfl ?_; (repeat (first | (with_reducible assumption) | (with_reducible refine Keeps.alloc ?_ _) | (with_reducible refine Keeps.ext ?_ _) | (with_reducible refine Keeps.set ?_ (by first | omega | (simp; done) | (simp; omega)) _) | (with_reducible refine Keeps.drew ?_)))))
        (first | (go_at_call 25; (first | (with_reducible refine (Calls.extq (join_any _ _ _ _ _)).mono ?_) | (with_reducible refine (Calls.ext (join_any _ _ _ _ _)).mono ?_)); rintro e _ ⟨rfl, y, rfl⟩; have KK : Keeps W y.w := (by (repeat (first | (with_reducible assumption) | (with_reducible refine Keeps.alloc ?_ _) | (with_reducible refine Keeps.ext ?_ _) | (with_reducible refine Keeps.set ?_ (by first | omega | (simp; done) | (simp; omega)) _) | (with_reducible refine Keeps.drew ?_)))); have KS : W.heap.size ≤ y.w.heap.size := KK.size; (have KZ := Below.size (Ext.h y)); (try simp only [World.size_alloc, World.size_drew] at KZ); (try have KM : W.heap.size < y.w.heap.size := (by omega))))
      all_goals (go_wp2_with fail; go_meet; refine cut_of ?_ ?_ ?_ ?_ ?_ ?_ ?_)
      all_goals first
        | (with_reducible show Keeps _ _; (repeat (first | (with_reducible assumption) | (with_reducible refine Keeps.alloc ?_ _) | (with_reducible refine Keeps.ext ?_ _) | (with_reducible refine Keeps.set ?_ (by first | omega | (simp; done) | (simp; omega)) _) | (with_reducible refine Keeps.drew ?_))); done)
        | (simp; done)
        | (simp; omega)
        | (go_simp; done)
        | (simp; refine World.cell?_setCell_same _ _ _ (u := .int .i32 0) ?_; go_simp; done)
        | (go_simp; refine World.cell?_setCell_same _ _ _ (u := .int .i32 0) ?_; go_simp; done)
  case rest =>
    obtain ⟨g, h, v, rfl, rfl, rfl, c1, c2, c3, c4, g1, g2⟩ := hcut
    rw [← v.cell _ _ z1] at x1 x2
    rw [← v.cell _ _ z2] at y1 y2
    rw [← v.cell _ _ z3] at u1 u2
    rw [← v.cell _ _ z4] at v1 v2
    replace kB : Below w.heap.size w v.w := Ext.below kB (by omega) v
    replace z1 := Nat.lt_of_lt_of_le z1 v.h.size
    replace z2 := Nat.lt_of_lt_of_le z2 v.h.size
    replace z3 := Nat.lt_of_lt_of_le z3 v.h.size
    replace z4 := Nat.lt_of_lt_of_le z4 v.h.size
    generalize v.w = W2 at *
    clear v W
    have wx : WI (xl, xh) := ⟨⟨hx1, hx2⟩, ⟨hx3, hx4⟩⟩
    have wy : WI (yl, yh) := ⟨⟨hy1, hy2⟩, ⟨hy3, hy4⟩⟩
    have wu : WI (ul, uh) := ⟨⟨hu1, hu2⟩, ⟨hu3, hu4⟩⟩
    have wv' : WI (vl, vh) := ⟨⟨hv1, hv2⟩, ⟨hv3, hv4⟩⟩
    have M1 := mono_one (op := op) wx wy wu wv'
    have M2 := mono_two (op := op) wx wy wu
    have w1 := join_word wx wu
    have w2 := join_word wy wv'
    have w3 := meet_word wx wu
    obtain ⟨ml, mh, T1⟩ : ∃ a b, meetI (xl, xh) (ul, uh) = (a, b) := ⟨_, _, rfl⟩
    rw [T1] at M2 w3
    generalize joinI (xl, xh) (ul, uh) = J1 at *
    generalize joinI (yl, yh) (vl, vh) = J2 at *
    obtain ⟨al, ah⟩ := J1
    obtain ⟨bl, bh⟩ := J2
    dsimp only at c1 c2 c3 c4
    obtain ⟨r1l, r1h, T2⟩ : ∃ a b, applyI op (xl, xh) (yl, yh) = (a, b) := ⟨_, _, rfl⟩
    obtain ⟨r2l, r2h, T3⟩ : ∃ a b, applyI op (al, ah) (bl, bh) = (a, b) := ⟨_, _, rfl⟩
    obtain ⟨r3l, r3h, T4⟩ : ∃ a b, applyI op (ml, mh) (yl, yh) = (a, b) := ⟨_, _, rfl⟩
    rw [T2, T3] at M1
    rw [T4, T2] at M2
    have N1 := Lib.hid M1
    have N2 := Lib.hid M2
    have T1' := Lib.hid T1
    have T2' := Lib.hid T2
    have T3' := Lib.hid T3
    have T4' := Lib.hid T4
    clear M1 M2 T1 T2 T3 T4 wx wy wu wv'
    obtain ⟨⟨ha1, ha2⟩, ⟨ha3, ha4⟩⟩ := w1
    obtain ⟨⟨hb1, hb2⟩, ⟨hb3, hb4⟩⟩ := w2
    obtain ⟨⟨hm1, hm2⟩, ⟨hm3, hm4⟩⟩ := w3
    dsimp only at ha1 ha2 ha3 ha4 hb1 hb2 hb3 hb4 hm1 hm2 hm3 hm4
    as_aux_lemma =>
      go_wp2_with fail
      refine wp_region_ext (by kernel_rfl) (by kernel_rfl) ?_
      repeat (go_big_quiet_step (first | (go_at_call 14; exact Calls.extq (awake_any _)) | (go_at_call 26; (with_reducible exact Calls.extq (pair_of (meet_any _ _ _ _ _) T1'.out))) | (go_at_call 11; (first | (with_reducible exact Calls.extq (pair_of (apply_any _ _ _ _ _ _ hx1 hx2 hx3 hx4 hy1 hy2 hy3 hy4) T2'.out)) | (with_reducible exact Calls.extq (pair_of (apply_any op al ah bl bh _ ha1 ha2 ha3 ha4 hb1 hb2 hb3 hb4) T3'.out)) | (with_reducible exact Calls.extq (pair_of (apply_any op ml mh yl yh _ hm1 hm2 hm3 hm4 hy1 hy2 hy3 hy4) T4'.out)))) | (go_at_call 24; (first | (with_reducible exact Calls.extq (lit_of (within_any _ _ _ _ _) N1.out)) | (with_reducible exact Calls.extq (lit_of (within_any _ _ _ _ _) N2.out))))))
      refine wpQuiet_nil ?_
      rintro _ ⟨x1, rfl⟩
      go_wp2
      all_goals
        go_ret
        refine ⟨by simp, ?_⟩
        (repeat (first | assumption | refine Below.setCell ?_ ?_ _ | refine Ext.below ?_ ?_ _ | refine Below.alloc ?_ ?_ _)) <;> (first | (simp; done) | (simp; omega) | omega | (simp only [World.size_setCell, World.size_alloc]; refine Nat.le_trans ?_ (Below.size (Ext.h _)); simp only [World.size_setCell, World.size_alloc]; omega))

set_option maxRecDepth 100000 in
theorem intervalMonotone_lifted (os : Os) (started : os.Started) (H : Type) (enc : TypeId × Value → H) :
    ReturnsInHanded {} Try.checked os 8 .any (Rows.intervalMonotoneSpec.pre6 enc Try.prog Try.f8 Rows.intervalMonotoneRow.domain false) (Rows.intervalMonotoneSpec.post enc Try.prog Try.f8 false true false false) := by
  refine returnsInHanded_of_change (C := Try.checked) own started (by kernel_rfl) Try.func8
    (ChangeSpec.witness6 (enc := enc) (C := Try.checked) false ⟨#[], #[.int .u8 0, .agg #[.int .i32 0, .int .i32 0], .agg #[.int .i32 0, .int .i32 0], .agg #[.int .i32 0, .int .i32 0], .agg #[.int .i32 0, .int .i32 0]], []⟩ 8 (by kernel_rfl) (by kernel_rfl) (by kernel_rfl) (by kernel_rfl)) ?_
  intro W base args ds gs before hval0 hW hcnd _
  have hval : ∀ (j : Nat) t v, Try.f8.params[j]? = some t → args[j]? = some v → Value.okWide Try.prog W .any base t v := hval0
  have hW' := hW
  obtain ⟨p, q, hA0, hV, rfl, hfz, hnd⟩ := hW
  have hA : DataW.TrodAll enc Try.prog W 0 (fun _ => true) true Try.f8.params.toList args.toList ds p := hA0
  rw [Try.params8] at hA hval
  obtain ⟨v0, vs0, d0, ds0, p0, q0, hargs, rfl, rfl, h0, r0⟩ := trodAll_cons hA
  obtain ⟨v1, vs1, d1, ds1, p1, q1, rfl, rfl, rfl, h1, r1⟩ := trodAll_cons r0
  obtain ⟨v2, vs2, d2, ds2, p2, q2, rfl, rfl, rfl, h2, r2⟩ := trodAll_cons r1
  obtain ⟨v3, vs3, d3, ds3, p3, q3, rfl, rfl, rfl, h3, r3⟩ := trodAll_cons r2
  obtain ⟨v4, vs4, d4, ds4, p4, q4, rfl, rfl, rfl, h4, r4⟩ := trodAll_cons r3
  obtain ⟨rfl, rfl, rfl⟩ := trodAll_nil r4
  obtain rfl : args = #[v0, v1, v2, v3, v4] := by cases args; simp_all
  obtain ⟨rfl, rfl⟩ := trodVars_none hV
  have k0 := h0
  have lt0 : ∀ x ∈ p0, x.block < W.heap.size := by obtain ⟨m, hm⟩ := k0; exact DataW.trod_lt m _ _ _ hm
  have ok0 := hval 0 5 v0 rfl rfl
  have k1 := h1
  have lt1 : ∀ x ∈ p1, x.block < W.heap.size := by obtain ⟨m, hm⟩ := k1; exact DataW.trod_lt m _ _ _ hm
  have ok1 := hval 1 23 v1 rfl rfl
  have k2 := h2
  have lt2 : ∀ x ∈ p2, x.block < W.heap.size := by obtain ⟨m, hm⟩ := k2; exact DataW.trod_lt m _ _ _ hm
  have ok2 := hval 2 23 v2 rfl rfl
  have k3 := h3
  have lt3 : ∀ x ∈ p3, x.block < W.heap.size := by obtain ⟨m, hm⟩ := k3; exact DataW.trod_lt m _ _ _ hm
  have ok3 := hval 3 23 v3 rfl rfl
  have k4 := h4
  have lt4 : ∀ x ∈ p4, x.block < W.heap.size := by obtain ⟨m, hm⟩ := k4; exact DataW.trod_lt m _ _ _ hm
  have ok4 := hval 4 23 v4 rfl rfl
  obtain ⟨a0, rfl, e0, f0, w0⟩ := open_int Try.underlying5 ok0 h0
  obtain ⟨l1, u1, rfl, wl1, wu1⟩ := open_iv ok1 h1
  obtain ⟨l2, u2, rfl, wl2, wu2⟩ := open_iv ok2 h2
  obtain ⟨l3, u3, rfl, wl3, wu3⟩ := open_iv ok3 h3
  obtain ⟨l4, u4, rfl, wl4, wu4⟩ := open_iv ok4 h4
  clear hA0 hval0
  refine (monotone_in a0 l1 u1 l2 u2 l3 u3 l4 u4 W (bounds_i32 wl1).1 (bounds_i32 wl1).2 (bounds_i32 wu1).1 (bounds_i32 wu1).2 (bounds_i32 wl2).1 (bounds_i32 wl2).2 (bounds_i32 wu2).1 (bounds_i32 wu2).2 (bounds_i32 wl3).1 (bounds_i32 wl3).2 (bounds_i32 wu3).1 (bounds_i32 wu3).2 (bounds_i32 wl4).1 (bounds_i32 wl4).2 (bounds_i32 wu4).1 (bounds_i32 wu4).2).mono fun e W' ⟨he, bel⟩ => ?_
  subst he
  exact ⟨_, rfl, _, _, _, [], _, [], hW', trodAll_mk1 (shut_bool Try.underlying4 _), (trodAll_cons_mk (Below.trod laidOut (by kernel_rfl) (of_decide_eq_true (by kernel_rfl)) k0 bel lt0) (trodAll_cons_mk (Below.trod laidOut (by kernel_rfl) (of_decide_eq_true (by kernel_rfl)) k1 bel lt1) (trodAll_cons_mk (Below.trod laidOut (by kernel_rfl) (of_decide_eq_true (by kernel_rfl)) k2 bel lt2) (trodAll_cons_mk (Below.trod laidOut (by kernel_rfl) (of_decide_eq_true (by kernel_rfl)) k3 bel lt3) (trodAll_cons_mk (Below.trod laidOut (by kernel_rfl) (of_decide_eq_true (by kernel_rfl)) k4 bel lt4) trodAll_mk0))))), rfl, bel.frame _, fun h => by cases h⟩

/-- The statement. -/
theorem intervalMonotone_holds : Rows.IntervalMonotoneSaid :=
  OpenClaim.holds_of_wide 8 Try.f8 rfl rfl rfl rfl rfl rfl rfl ⟨rfl, rfl, rfl, rfl, rfl⟩ rfl rfl rfl rfl rfl (by kernel_rfl) Try.func8 (by kernel_rfl)
    (of_decide_eq_true (by kernel_rfl)) (by unfold Func.isWrapper; first | (rw [if_pos (by decide +kernel)]; kernel_rfl) | (rw [if_neg (by decide +kernel)]; exact ⟨rfl, rfl⟩))
    (fun os started H enc _ => intervalMonotone_lifted os started H enc)

end Go.Proofs.Ytjkjcnamlankoaa
