/-
  What is proved here: the law IntervalDecides returns true for every input.
-/
import Derived.Test.YtjkjcnamlankoaaIvDecPlain
import Derived.Test.YtjkjcnamlankoaaIvOpen
import Derived.Deep.RegionHeld3
import Derived.Deep.DeepCutAuto
namespace Go.Proofs.Ytjkjcnamlankoaa
open Go.ChangeShapes Go.WideShapes Go.ChangeAt Go.RowKit
set_option linter.unusedVariables false
set_option linter.unusedSimpArgs false

theorem two_base (xl xh yl yh : Int) (w : World) (y : Ext ((w.alloc (Obj.cells #[Value.int IntKind.i32 xl, Value.int IntKind.i32 xh] 23)).alloc (Obj.cells #[Value.int IntKind.i32 yl, Value.int IntKind.i32 yh] 23))) :
    ∃ W : World, y.w = W ∧ Below w.heap.size w W ∧ w.heap.size < W.heap.size ∧ w.heap.size + 1 < W.heap.size ∧ W.cell? ⟨w.heap.size, 0, none⟩ = some (.int .i32 xl) ∧ W.cell? ⟨w.heap.size, 1, none⟩ = some (.int .i32 xh) ∧ W.cell? ⟨w.heap.size + 1, 0, none⟩ = some (.int .i32 yl) ∧ W.cell? ⟨w.heap.size + 1, 1, none⟩ = some (.int .i32 yh) := by
  have hs : ((w.alloc (Obj.cells #[Value.int IntKind.i32 xl, Value.int IntKind.i32 xh] 23)).alloc (Obj.cells #[Value.int IntKind.i32 yl, Value.int IntKind.i32 yh] 23)).heap.size ≤ y.w.heap.size := y.h.size
  rw [World.size_alloc, World.size_alloc] at hs
  refine ⟨_, rfl, ?_, by omega, by omega, ?_, ?_, ?_, ?_⟩
  · (repeat (first | exact Below.refl _ _ | refine Below.setCell ?_ ?_ _ | refine Ext.below ?_ ?_ _ | refine Below.alloc ?_ ?_ _)) <;> (first | (simp; done) | (simp; omega) | omega | (simp only [World.size_setCell, World.size_alloc]; refine Nat.le_trans ?_ (Below.size (Ext.h _)); simp only [World.size_setCell, World.size_alloc]; omega))
  all_goals (go_simp; done)

set_option maxHeartbeats 400000 in
theorem flip_any (zl zh : Int) (w : World) (h1 : 0 ≤ zl) (h2 : zl ≤ 1) (h3 : 0 ≤ zh) (h4 : zh ≤ 1) :
    Calls Try.prog 20 #[.agg #[.int .i32 zl, .int .i32 zh]] w fun e w' => e = .returned (.agg #[.int .i32 (1 - zh), .int .i32 (1 - zl)]) ∧ Below w.heap.size w w' := by
  go_enter Try.func20, Try.ntmps20
  go_wp2
  all_goals
    refine bodyPost_ret (v := .agg #[.int .i32 (1 - zh), .int .i32 (1 - zl)]) ?hr rfl ⟨rfl, ?bel⟩
    case hr =>
      simp [results, Try.results20, go_sem]
    case bel =>
      (repeat (first | exact Below.refl _ _ | refine Below.setCell ?_ ?_ _ | refine Ext.below ?_ ?_ _ | refine Below.alloc ?_ ?_ _)) <;> (first | (simp; done) | (simp; omega) | omega | (simp only [World.size_setCell, World.size_alloc]; refine Nat.le_trans ?_ (Below.size (Ext.h _)); simp only [World.size_setCell, World.size_alloc]; omega))

set_option maxRecDepth 100000 in
set_option maxHeartbeats 1000000 in
theorem decides_no (xl xh yl yh : Int) (w : World) (h : xh < xl ∨ yh < yl) :
    Calls Try.prog 6 #[.agg #[.int .i32 xl, .int .i32 xh], .agg #[.int .i32 yl, .int .i32 yh]] w fun e w' => e = .returned (.bool true) ∧ Below w.heap.size w w' := by
  rcases h with h | h
  · have d1 : decide (xh < xl) = true := by simpa using h
    go_enter Try.func6, Try.ntmps6
    go_wp2_with (first | (go_at_call 14; ((first | (with_reducible refine (Calls.extq (awake_any _)).mono ?_) | (refine (Calls.ext (awake_any _)).mono ?_)); rintro e _ ⟨rfl, y, rfl⟩)))
    all_goals
      go_ret
      refine ⟨rfl, ?_⟩
      (repeat (first | exact Below.refl _ _ | refine Below.setCell ?_ ?_ _ | refine Ext.below ?_ ?_ _ | refine Below.alloc ?_ ?_ _)) <;> (first | (simp; done) | (simp; omega) | omega | (simp only [World.size_setCell, World.size_alloc]; refine Nat.le_trans ?_ (Below.size (Ext.h _)); simp only [World.size_setCell, World.size_alloc]; omega))
  · by_cases h' : xh < xl
    · have d1 : decide (xh < xl) = true := by simpa using h'
      go_enter Try.func6, Try.ntmps6
      go_wp2_with (first | (go_at_call 14; ((first | (with_reducible refine (Calls.extq (awake_any _)).mono ?_) | (refine (Calls.ext (awake_any _)).mono ?_)); rintro e _ ⟨rfl, y, rfl⟩)))
      all_goals
        go_ret
        refine ⟨rfl, ?_⟩
        (repeat (first | exact Below.refl _ _ | refine Below.setCell ?_ ?_ _ | refine Ext.below ?_ ?_ _ | refine Below.alloc ?_ ?_ _)) <;> (first | (simp; done) | (simp; omega) | omega | (simp only [World.size_setCell, World.size_alloc]; refine Nat.le_trans ?_ (Below.size (Ext.h _)); simp only [World.size_setCell, World.size_alloc]; omega))
    · have d1 : decide (xh < xl) = false := by simpa using h'
      have d2 : decide (yh < yl) = true := by simpa using h
      go_enter Try.func6, Try.ntmps6
      go_wp2_with (first | (go_at_call 14; ((first | (with_reducible refine (Calls.extq (awake_any _)).mono ?_) | (refine (Calls.ext (awake_any _)).mono ?_)); rintro e _ ⟨rfl, y, rfl⟩)))
      all_goals
        go_ret
        refine ⟨rfl, ?_⟩
        (repeat (first | exact Below.refl _ _ | refine Below.setCell ?_ ?_ _ | refine Ext.below ?_ ?_ _ | refine Below.alloc ?_ ?_ _)) <;> (first | (simp; done) | (simp; omega) | omega | (simp only [World.size_setCell, World.size_alloc]; refine Nat.le_trans ?_ (Below.size (Ext.h _)); simp only [World.size_setCell, World.size_alloc]; omega))

set_option maxRecDepth 100000 in
set_option maxHeartbeats 8000000 in
theorem decides_in (xl xh yl yh : Int) (w : World) (hx1 : -2147483648 ≤ xl) (hx2 : xl ≤ 2147483647) (hx3 : -2147483648 ≤ xh) (hx4 : xh ≤ 2147483647) (hy1 : -2147483648 ≤ yl) (hy2 : yl ≤ 2147483647) (hy3 : -2147483648 ≤ yh) (hy4 : yh ≤ 2147483647) (hx : xl ≤ xh) (hy : yl ≤ yh) :
    Calls Try.prog 6 #[.agg #[.int .i32 xl, .int .i32 xh], .agg #[.int .i32 yl, .int .i32 yh]] w fun e w' => e = .returned (.bool true) ∧ Below w.heap.size w w' := by
  have d1 : decide (xh < xl) = false := by simp; omega
  have d2 : decide (yh < yl) = false := by simp; omega
  have e2 := eq_iv
  go_enter Try.func6, Try.ntmps6
  go_wp2_with fail
  refine (Calls.ext (awake_any _)).mono ?_
  rintro e _ ⟨rfl, y0, rfl⟩
  obtain ⟨W, hW, kB, z1, z2, x1, x2, y1, y2⟩ := two_base xl xh yl yh w y0
  rw [hW]
  clear hW y0
  go_upto_region 3 with fail
  go_cut [5, 6] (fun s5 s6 wx => ∃ (g h : Nat) (v : Ext W), s5 = .pointer (some ⟨g, 0, none⟩) ∧ s6 = .pointer (some ⟨h, 0, none⟩) ∧ wx = v.w ∧ v.w.cell? ⟨g, 0, none⟩ = some (.int .i32 (applyI 18 (xl, xh) (yl, yh)).1) ∧ v.w.cell? ⟨g, 1, none⟩ = some (.int .i32 (applyI 18 (xl, xh) (yl, yh)).2) ∧ v.w.cell? ⟨h, 0, none⟩ = some (.int .i32 (applyI 21 (xl, xh) (yl, yh)).1) ∧ v.w.cell? ⟨h, 1, none⟩ = some (.int .i32 (applyI 21 (xl, xh) (yl, yh)).2) ∧ g < v.w.heap.size ∧ h < v.w.heap.size)
  case first =>
    as_aux_lemma =>
      have K0 : Keeps W W := Below.refl _ _
      go_region_held3 (fun w' => (∀ b o, b < W.heap.size → w'.cell? ⟨b, o, none⟩ = W.cell? ⟨b, o, none⟩) ∧ Keeps W w') ((refine keeps_both rfl ?_; (repeat (first | (with_reducible assumption) | (with_reducible refine Keeps.alloc ?_ _) | (with_reducible refine Keeps.ext ?_ _) | (with_reducible refine Keeps.set ?_ (by first | omega | (simp; done) | (simp; omega)) _) | (with_reducible refine Keeps.drew ?_)))))
        (first | (go_at_call 11; (first | (with_reducible refine (Calls.extq (apply_any _ _ _ _ _ _ hx1 hx2 hx3 hx4 hy1 hy2 hy3 hy4)).mono ?_) | (with_reducible refine (Calls.ext (apply_any _ _ _ _ _ _ hx1 hx2 hx3 hx4 hy1 hy2 hy3 hy4)).mono ?_)); rintro e _ ⟨rfl, y, rfl⟩; have KK : Keeps W y.w := (by (repeat (first | (with_reducible assumption) | (with_reducible refine Keeps.alloc ?_ _) | (with_reducible refine Keeps.ext ?_ _) | (with_reducible refine Keeps.set ?_ (by first | omega | (simp; done) | (simp; omega)) _) | (with_reducible refine Keeps.drew ?_)))); have KS : W.heap.size ≤ y.w.heap.size := KK.size; (have KZ := Below.size (Ext.h y)); (try simp only [World.size_alloc, World.size_drew] at KZ); (try have KM : W.heap.size < y.w.heap.size := (by omega))))
      all_goals (go_wp2_with fail; go_meet; refine cut_of ?_ ?_ ?_ ?_ ?_ ?_ ?_)
      all_goals first
        | (with_reducible show Keeps _ _; (repeat (first | (with_reducible assumption) | (with_reducible refine Keeps.alloc ?_ _) | (with_reducible refine Keeps.ext ?_ _) | (with_reducible refine Keeps.set ?_ (by first | omega | (simp; done) | (simp; omega)) _) | (with_reducible refine Keeps.drew ?_))); done)
        | (simp; done)
        | (simp; omega)
        | (go_simp; done)
        | (simp; refine World.cell?_setCell_same _ _ _ (u := .int .i32 0) ?_; go_simp; done)
        | (go_simp; refine World.cell?_setCell_same _ _ _ (u := .int .i32 0) ?_; go_simp; done)
  case rest =>
    obtain ⟨g, h, v, rfl, rfl, rfl, c1, c2, c3, c4, g1, g2⟩ := hcut
    rw [← v.cell _ _ z1] at x1 x2
    rw [← v.cell _ _ z2] at y1 y2
    replace kB : Below w.heap.size w v.w := Ext.below kB (by omega) v
    replace z1 := Nat.lt_of_lt_of_le z1 v.h.size
    replace z2 := Nat.lt_of_lt_of_le z2 v.h.size
    generalize v.w = W2 at *
    clear v W
    go_upto_region 4 with fail
    go_cut [7, 8] (fun s7 s8 wx => ∃ (g h : Nat) (v : Ext W2), s7 = .pointer (some ⟨g, 0, none⟩) ∧ s8 = .pointer (some ⟨h, 0, none⟩) ∧ wx = v.w ∧ v.w.cell? ⟨g, 0, none⟩ = some (.int .i32 (applyI 19 (xl, xh) (yl, yh)).1) ∧ v.w.cell? ⟨g, 1, none⟩ = some (.int .i32 (applyI 19 (xl, xh) (yl, yh)).2) ∧ v.w.cell? ⟨h, 0, none⟩ = some (.int .i32 (applyI 20 (xl, xh) (yl, yh)).1) ∧ v.w.cell? ⟨h, 1, none⟩ = some (.int .i32 (applyI 20 (xl, xh) (yl, yh)).2) ∧ g < v.w.heap.size ∧ h < v.w.heap.size)
    case first =>
      as_aux_lemma =>
        have K0 : Keeps W2 W2 := Below.refl _ _
        go_region_held3 (fun w' => (∀ b o, b < W2.heap.size → w'.cell? ⟨b, o, none⟩ = W2.cell? ⟨b, o, none⟩) ∧ Keeps W2 w') ((refine keeps_both rfl ?_; (repeat (first | (with_reducible assumption) | (with_reducible refine Keeps.alloc ?_ _) | (with_reducible refine Keeps.ext ?_ _) | (with_reducible refine Keeps.set ?_ (by first | omega | (simp; done) | (simp; omega)) _) | (with_reducible refine Keeps.drew ?_)))))
          (first | (go_at_call 11; (first | (with_reducible refine (Calls.extq (apply_any _ _ _ _ _ _ hx1 hx2 hx3 hx4 hy1 hy2 hy3 hy4)).mono ?_) | (with_reducible refine (Calls.ext (apply_any _ _ _ _ _ _ hx1 hx2 hx3 hx4 hy1 hy2 hy3 hy4)).mono ?_)); rintro e _ ⟨rfl, y, rfl⟩; have KK : Keeps W2 y.w := (by (repeat (first | (with_reducible assumption) | (with_reducible refine Keeps.alloc ?_ _) | (with_reducible refine Keeps.ext ?_ _) | (with_reducible refine Keeps.set ?_ (by first | omega | (simp; done) | (simp; omega)) _) | (with_reducible refine Keeps.drew ?_)))); have KS : W2.heap.size ≤ y.w.heap.size := KK.size; (have KZ := Below.size (Ext.h y)); (try simp only [World.size_alloc, World.size_drew] at KZ); (try have KM : W2.heap.size < y.w.heap.size := (by omega))))
        all_goals (go_wp2_with fail; go_meet; refine cut_of ?_ ?_ ?_ ?_ ?_ ?_ ?_)
        all_goals first
          | (with_reducible show Keeps _ _; (repeat (first | (with_reducible assumption) | (with_reducible refine Keeps.alloc ?_ _) | (with_reducible refine Keeps.ext ?_ _) | (with_reducible refine Keeps.set ?_ (by first | omega | (simp; done) | (simp; omega)) _) | (with_reducible refine Keeps.drew ?_))); done)
          | (simp; done)
          | (simp; omega)
          | (go_simp; done)
          | (simp; refine World.cell?_setCell_same _ _ _ (u := .int .i32 0) ?_; go_simp; done)
          | (go_simp; refine World.cell?_setCell_same _ _ _ (u := .int .i32 0) ?_; go_simp; done)
    case rest =>
      obtain ⟨g', h', v, rfl, rfl, rfl, p1, p2, p3, p4, k1, k2⟩ := hcut
      rw [← v.cell _ _ z1] at x1 x2
      rw [← v.cell _ _ z2] at y1 y2
      rw [← v.cell _ _ g1] at c1 c2
      rw [← v.cell _ _ g2] at c3 c4
      replace kB : Below w.heap.size w v.w := Ext.below kB (by omega) v
      replace z1 := Nat.lt_of_lt_of_le z1 v.h.size
      replace z2 := Nat.lt_of_lt_of_le z2 v.h.size
      replace g1 := Nat.lt_of_lt_of_le g1 v.h.size
      replace g2 := Nat.lt_of_lt_of_le g2 v.h.size
      generalize v.w = W3 at *
      clear v W2
      go_upto_region 5 with fail
      go_cut [9, 10] (fun s9 s10 wx => ∃ (g h : Nat) (v : Ext W3), s9 = .pointer (some ⟨g, 0, none⟩) ∧ s10 = .pointer (some ⟨h, 0, none⟩) ∧ wx = v.w ∧ v.w.cell? ⟨g, 0, none⟩ = some (.int .i32 (applyI 16 (xl, xh) (yl, yh)).1) ∧ v.w.cell? ⟨g, 1, none⟩ = some (.int .i32 (applyI 16 (xl, xh) (yl, yh)).2) ∧ v.w.cell? ⟨h, 0, none⟩ = some (.int .i32 (applyI 17 (xl, xh) (yl, yh)).1) ∧ v.w.cell? ⟨h, 1, none⟩ = some (.int .i32 (applyI 17 (xl, xh) (yl, yh)).2) ∧ g < v.w.heap.size ∧ h < v.w.heap.size)
      case first =>
        as_aux_lemma =>
          have K0 : Keeps W3 W3 := Below.refl _ _
          go_region_held3 (fun w' => (∀ b o, b < W3.heap.size → w'.cell? ⟨b, o, none⟩ = W3.cell? ⟨b, o, none⟩) ∧ Keeps W3 w') ((refine keeps_both rfl ?_; (repeat (first | (with_reducible assumption) | (with_reducible refine Keeps.alloc ?_ _) | (with_reducible refine Keeps.ext ?_ _) | (with_reducible refine Keeps.set ?_ (by first | omega | (simp; done) | (simp; omega)) _) | (with_reducible refine Keeps.drew ?_)))))
            (first | (go_at_call 11; (first | (with_reducible refine (Calls.extq (apply_any _ _ _ _ _ _ hx1 hx2 hx3 hx4 hy1 hy2 hy3 hy4)).mono ?_) | (with_reducible refine (Calls.ext (apply_any _ _ _ _ _ _ hx1 hx2 hx3 hx4 hy1 hy2 hy3 hy4)).mono ?_)); rintro e _ ⟨rfl, y, rfl⟩; have KK : Keeps W3 y.w := (by (repeat (first | (with_reducible assumption) | (with_reducible refine Keeps.alloc ?_ _) | (with_reducible refine Keeps.ext ?_ _) | (with_reducible refine Keeps.set ?_ (by first | omega | (simp; done) | (simp; omega)) _) | (with_reducible refine Keeps.drew ?_)))); have KS : W3.heap.size ≤ y.w.heap.size := KK.size; (have KZ := Below.size (Ext.h y)); (try simp only [World.size_alloc, World.size_drew] at KZ); (try have KM : W3.heap.size < y.w.heap.size := (by omega))))
          all_goals (go_wp2_with fail; go_meet; refine cut_of ?_ ?_ ?_ ?_ ?_ ?_ ?_)
          all_goals first
            | (with_reducible show Keeps _ _; (repeat (first | (with_reducible assumption) | (with_reducible refine Keeps.alloc ?_ _) | (with_reducible refine Keeps.ext ?_ _) | (with_reducible refine Keeps.set ?_ (by first | omega | (simp; done) | (simp; omega)) _) | (with_reducible refine Keeps.drew ?_))); done)
            | (simp; done)
            | (simp; omega)
            | (go_simp; done)
            | (simp; refine World.cell?_setCell_same _ _ _ (u := .int .i32 0) ?_; go_simp; done)
            | (go_simp; refine World.cell?_setCell_same _ _ _ (u := .int .i32 0) ?_; go_simp; done)
      case rest =>
        obtain ⟨g'', h'', v, rfl, rfl, rfl, q1, q2, q3, q4, m1, m2⟩ := hcut
        rw [← v.cell _ _ z1] at x1 x2
        rw [← v.cell _ _ z2] at y1 y2
        rw [← v.cell _ _ g1] at c1 c2
        rw [← v.cell _ _ g2] at c3 c4
        rw [← v.cell _ _ k1] at p1 p2
        rw [← v.cell _ _ k2] at p3 p4
        replace kB : Below w.heap.size w v.w := Ext.below kB (by omega) v
        replace z1 := Nat.lt_of_lt_of_le z1 v.h.size
        replace z2 := Nat.lt_of_lt_of_le z2 v.h.size
        replace g1 := Nat.lt_of_lt_of_le g1 v.h.size
        replace g2 := Nat.lt_of_lt_of_le g2 v.h.size
        replace k1 := Nat.lt_of_lt_of_le k1 v.h.size
        replace k2 := Nat.lt_of_lt_of_le k2 v.h.size
        generalize v.w = W4 at *
        clear v W3
        have f1 := dec_flip 18 (xl, xh) (yl, yh) (by decide) hx hy
        have f2 := dec_flip 19 (xl, xh) (yl, yh) (by decide) hx hy
        have f3 := dec_flip 16 (xl, xh) (yl, yh) (by decide) hx hy
        rw [if_neg (by decide), if_pos rfl] at f1
        rw [if_neg (by decide), if_neg (by decide)] at f2
        rw [if_pos rfl] at f3
        rw [f1] at c3 c4
        rw [f2] at p3 p4
        rw [f3] at q3 q4
        have B1 := dec_bd 18 (xl, xh) (yl, yh) (by decide) (by decide) hx hy
        have B2 := dec_bd 19 (xl, xh) (yl, yh) (by decide) (by decide) hx hy
        have B3 := dec_bd 16 (xl, xh) (yl, yh) (by decide) (by decide) hx hy
        have E1 := Lib.hid (dec_lt1 (xl, xh) (yl, yh) hx hy)
        have E2 := Lib.hid (dec_lt0 (xl, xh) (yl, yh) hx hy)
        have E3 := Lib.hid (dec_le1 (xl, xh) (yl, yh) hx hy)
        have E4 := Lib.hid (dec_le0 (xl, xh) (yl, yh) hx hy)
        have E5 := Lib.hid (dec_eq1 (xl, xh) (yl, yh) hx hy)
        clear f1 f2 f3 d1 d2
        generalize applyI 18 (xl, xh) (yl, yh) = A1 at *
        generalize applyI 19 (xl, xh) (yl, yh) = A2 at *
        generalize applyI 16 (xl, xh) (yl, yh) = A3 at *
        obtain ⟨al, ah⟩ := A1
        obtain ⟨bl, bh⟩ := A2
        obtain ⟨el, eh⟩ := A3
        dsimp only at c1 c2 c3 c4 p1 p2 p3 p4 q1 q2 q3 q4 B1 B2 B3
        have B1' := Lib.hid B1
        have B2' := Lib.hid B2
        have B3' := Lib.hid B3
        clear B1 B2 B3
        as_aux_lemma =>
          by_cases hc : xl ≤ yh
          all_goals
            (first | have hc' : decide (xl ≤ yh) = true := decide_eq_true hc | have hc' : decide (xl ≤ yh) = false := decide_eq_false hc)
            clear hc
            go_wp2_with fail
            refine wp_region_ext (by kernel_rfl) (by kernel_rfl) ?_
            repeat (go_big_quiet_step (first | (go_at_call 17; (first | (with_reducible exact Calls.extq (lit_of (contains_any _ _ _ _) E1.out)) | (with_reducible exact Calls.extq (lit_of (contains_any _ _ _ _) E2.out)) | (with_reducible exact Calls.extq (lit_of (contains_any _ _ _ _) E3.out)) | (with_reducible exact Calls.extq (lit_of (contains_any _ _ _ _) E4.out)) | (with_reducible exact Calls.extq (lit_of (contains_any _ _ _ _) E5.out)))) | (go_at_call 20; (first | (with_reducible exact Calls.extq (flip_any al ah _ B1'.out.1 B1'.out.2.1 B1'.out.2.2.1 B1'.out.2.2.2)) | (with_reducible exact Calls.extq (flip_any bl bh _ B2'.out.1 B2'.out.2.1 B2'.out.2.2.1 B2'.out.2.2.2)) | (with_reducible exact Calls.extq (flip_any el eh _ B3'.out.1 B3'.out.2.1 B3'.out.2.2.1 B3'.out.2.2.2))))))
            refine wpQuiet_nil ?_
            rintro _ ⟨x1, rfl⟩
            go_wp2
            all_goals
              go_ret
              refine ⟨by simp, ?_⟩
              (repeat (first | assumption | refine Below.setCell ?_ ?_ _ | refine Ext.below ?_ ?_ _ | refine Below.alloc ?_ ?_ _)) <;> (first | (simp; done) | (simp; omega) | omega | (simp only [World.size_setCell, World.size_alloc]; refine Nat.le_trans ?_ (Below.size (Ext.h _)); simp only [World.size_setCell, World.size_alloc]; omega))

theorem decides_any (xl xh yl yh : Int) (w : World) (hx1 : -2147483648 ≤ xl) (hx2 : xl ≤ 2147483647) (hx3 : -2147483648 ≤ xh) (hx4 : xh ≤ 2147483647) (hy1 : -2147483648 ≤ yl) (hy2 : yl ≤ 2147483647) (hy3 : -2147483648 ≤ yh) (hy4 : yh ≤ 2147483647) :
    Calls Try.prog 6 #[.agg #[.int .i32 xl, .int .i32 xh], .agg #[.int .i32 yl, .int .i32 yh]] w fun e w' => e = .returned (.bool true) ∧ Below w.heap.size w w' := by
  by_cases h : xh < xl ∨ yh < yl
  · exact decides_no xl xh yl yh w h
  · exact decides_in xl xh yl yh w hx1 hx2 hx3 hx4 hy1 hy2 hy3 hy4 (by omega) (by omega)

set_option maxRecDepth 100000 in
theorem intervalDecides_lifted (os : Os) (started : os.Started) (H : Type) (enc : TypeId × Value → H) :
    ReturnsInHanded {} Try.checked os 6 .any (Rows.intervalDecidesSpec.pre6 enc Try.prog Try.f6 Rows.intervalDecidesRow.domain false) (Rows.intervalDecidesSpec.post enc Try.prog Try.f6 false true false false) := by
  refine returnsInHanded_of_change (C := Try.checked) own started (by kernel_rfl) Try.func6
    (ChangeSpec.witness6 (enc := enc) (C := Try.checked) false ⟨#[], #[.agg #[.int .i32 0, .int .i32 0], .agg #[.int .i32 0, .int .i32 0]], []⟩ 8 (by kernel_rfl) (by kernel_rfl) (by kernel_rfl) (by kernel_rfl)) ?_
  intro W base args ds gs before hval0 hW hcnd _
  have hval : ∀ (j : Nat) t v, Try.f6.params[j]? = some t → args[j]? = some v → Value.okWide Try.prog W .any base t v := hval0
  have hW' := hW
  obtain ⟨p, q, hA0, hV, rfl, hfz, hnd⟩ := hW
  have hA : DataW.TrodAll enc Try.prog W 0 (fun _ => true) true Try.f6.params.toList args.toList ds p := hA0
  rw [Try.params6] at hA hval
  obtain ⟨v0, vs0, d0, ds0, p0, q0, hargs, rfl, rfl, h0, r0⟩ := trodAll_cons hA
  obtain ⟨v1, vs1, d1, ds1, p1, q1, rfl, rfl, rfl, h1, r1⟩ := trodAll_cons r0
  obtain ⟨rfl, rfl, rfl⟩ := trodAll_nil r1
  obtain rfl : args = #[v0, v1] := by cases args; simp_all
  obtain ⟨rfl, rfl⟩ := trodVars_none hV
  have k0 := h0
  have lt0 : ∀ x ∈ p0, x.block < W.heap.size := by obtain ⟨m, hm⟩ := k0; exact DataW.trod_lt m _ _ _ hm
  have ok0 := hval 0 23 v0 rfl rfl
  have k1 := h1
  have lt1 : ∀ x ∈ p1, x.block < W.heap.size := by obtain ⟨m, hm⟩ := k1; exact DataW.trod_lt m _ _ _ hm
  have ok1 := hval 1 23 v1 rfl rfl
  obtain ⟨l0, u0, rfl, wl0, wu0⟩ := open_iv ok0 h0
  obtain ⟨l1, u1, rfl, wl1, wu1⟩ := open_iv ok1 h1
  clear hA0 hval0
  refine (decides_any l0 u0 l1 u1 W (bounds_i32 wl0).1 (bounds_i32 wl0).2 (bounds_i32 wu0).1 (bounds_i32 wu0).2 (bounds_i32 wl1).1 (bounds_i32 wl1).2 (bounds_i32 wu1).1 (bounds_i32 wu1).2).mono fun e W' ⟨he, bel⟩ => ?_
  subst he
  exact ⟨_, rfl, _, _, _, [], _, [], hW', trodAll_mk1 (shut_bool Try.underlying4 _), (trodAll_cons_mk (Below.trod laidOut (by kernel_rfl) (of_decide_eq_true (by kernel_rfl)) k0 bel lt0) (trodAll_cons_mk (Below.trod laidOut (by kernel_rfl) (of_decide_eq_true (by kernel_rfl)) k1 bel lt1) trodAll_mk0)), rfl, bel.frame _, fun h => by cases h⟩

/-- The statement. -/
theorem intervalDecides_holds : Rows.IntervalDecidesSaid :=
  OpenClaim.holds_of_wide 6 Try.f6 rfl rfl rfl rfl rfl rfl rfl ⟨rfl, rfl, rfl, rfl, rfl⟩ rfl rfl rfl rfl rfl (by kernel_rfl) Try.func6 (by kernel_rfl)
    (of_decide_eq_true (by kernel_rfl)) (by unfold Func.isWrapper; first | (rw [if_pos (by decide +kernel)]; kernel_rfl) | (rw [if_neg (by decide +kernel)]; exact ⟨rfl, rfl⟩))
    (fun os started H enc _ => intervalDecides_lifted os started H enc)

end Go.Proofs.Ytjkjcnamlankoaa
