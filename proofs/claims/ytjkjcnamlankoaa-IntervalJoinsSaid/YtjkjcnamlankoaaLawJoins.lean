/-
  What is proved here: the law IntervalJoins returns true for every input.
-/
import Derived.Test.YtjkjcnamlankoaaIvApply1
import Derived.Test.YtjkjcnamlankoaaIvOpen
import Derived.Test.YtjkjcnamlankoaaIvJoinPlain
import Derived.Test.YtjkjcnamlankoaaIvHelp
import Derived.Deep.RegionHeld3
import Derived.Deep.DeepCutAuto
namespace Go.Proofs.Ytjkjcnamlankoaa
open Go.ChangeShapes Go.WideShapes Go.ChangeAt Go.RowKit

theorem joins_base (xl xh yl yh zl zh : Int) (w : World) (v : Ext (((w.alloc (Obj.cells #[Value.int IntKind.i32 xl, Value.int IntKind.i32 xh] 23)).alloc (Obj.cells #[Value.int IntKind.i32 yl, Value.int IntKind.i32 yh] 23)).alloc (Obj.cells #[Value.int IntKind.i32 zl, Value.int IntKind.i32 zh] 23))) :
    ∃ W, v.w = W ∧ Below w.heap.size w W ∧ w.heap.size < W.heap.size ∧ w.heap.size + 1 < W.heap.size ∧ w.heap.size + 1 + 1 < W.heap.size ∧ W.cell? ⟨w.heap.size, 0, none⟩ = some (.int .i32 xl) ∧ W.cell? ⟨w.heap.size, 1, none⟩ = some (.int .i32 xh) ∧ W.cell? ⟨w.heap.size + 1, 0, none⟩ = some (.int .i32 yl) ∧ W.cell? ⟨w.heap.size + 1, 1, none⟩ = some (.int .i32 yh) ∧ W.cell? ⟨w.heap.size + 1 + 1, 0, none⟩ = some (.int .i32 zl) ∧ W.cell? ⟨w.heap.size + 1 + 1, 1, none⟩ = some (.int .i32 zh) := by
  have hs : w.heap.size + 1 + 1 + 1 ≤ v.w.heap.size := ks_of v.h
  refine ⟨_, rfl, ?_, by omega, by omega, by omega, ?_, ?_, ?_, ?_, ?_, ?_⟩
  · refine Ext.below ?_ ?_ _
    · (repeat (first | exact Below.refl _ _ | refine Below.setCell ?_ ?_ _ | refine Ext.below ?_ ?_ _ | refine Below.alloc ?_ ?_ _)) <;> (first | (simp; done) | (simp; omega) | omega)
    · simp; omega
  all_goals (go_simp; done)

set_option maxRecDepth 100000 in
set_option maxHeartbeats 4000000 in
theorem joins_in (xl xh yl yh zl zh n : Int) (w : World) :
    Calls Try.prog 9 #[.agg #[.int .i32 xl, .int .i32 xh], .agg #[.int .i32 yl, .int .i32 yh], .agg #[.int .i32 zl, .int .i32 zh], .int .i32 n] w fun e w' => e = .returned (.bool true) ∧ Below w.heap.size w w' := by
  go_enter Try.func9, Try.ntmps9
  go_upto_region 1 with fail
  go_cut [9, 10] (fun s9 s10 wx => ∃ (g h : Nat) (v : Ext (((w.alloc (Obj.cells #[Value.int IntKind.i32 xl, Value.int IntKind.i32 xh] 23)).alloc (Obj.cells #[Value.int IntKind.i32 yl, Value.int IntKind.i32 yh] 23)).alloc (Obj.cells #[Value.int IntKind.i32 zl, Value.int IntKind.i32 zh] 23))), s9 = .pointer (some ⟨g, 0, none⟩) ∧ s10 = .pointer (some ⟨h, 0, none⟩) ∧ wx = v.w ∧ v.w.cell? ⟨g, 0, none⟩ = some (.int .i32 (joinI (xl, xh) (yl, yh)).1) ∧ v.w.cell? ⟨g, 1, none⟩ = some (.int .i32 (joinI (xl, xh) (yl, yh)).2) ∧ v.w.cell? ⟨h, 0, none⟩ = some (.int .i32 (meetI (xl, xh) (yl, yh)).1) ∧ v.w.cell? ⟨h, 1, none⟩ = some (.int .i32 (meetI (xl, xh) (yl, yh)).2) ∧ g < v.w.heap.size ∧ h < v.w.heap.size)
  case first =>
    have K0 : Keeps (((w.alloc (Obj.cells #[Value.int IntKind.i32 xl, Value.int IntKind.i32 xh] 23)).alloc (Obj.cells #[Value.int IntKind.i32 yl, Value.int IntKind.i32 yh] 23)).alloc (Obj.cells #[Value.int IntKind.i32 zl, Value.int IntKind.i32 zh] 23)) (((w.alloc (Obj.cells #[Value.int IntKind.i32 xl, Value.int IntKind.i32 xh] 23)).alloc (Obj.cells #[Value.int IntKind.i32 yl, Value.int IntKind.i32 yh] 23)).alloc (Obj.cells #[Value.int IntKind.i32 zl, Value.int IntKind.i32 zh] 23)) := Below.refl _ _
    go_region_held3 (fun w' => (∀ b o, b < w.heap.size + 1 + 1 + 1 → w'.cell? ⟨b, o, none⟩ = (((w.alloc (Obj.cells #[Value.int IntKind.i32 xl, Value.int IntKind.i32 xh] 23)).alloc (Obj.cells #[Value.int IntKind.i32 yl, Value.int IntKind.i32 yh] 23)).alloc (Obj.cells #[Value.int IntKind.i32 zl, Value.int IntKind.i32 zh] 23)).cell? ⟨b, o, none⟩) ∧ Keeps (((w.alloc (Obj.cells #[Value.int IntKind.i32 xl, Value.int IntKind.i32 xh] 23)).alloc (Obj.cells #[Value.int IntKind.i32 yl, Value.int IntKind.i32 yh] 23)).alloc (Obj.cells #[Value.int IntKind.i32 zl, Value.int IntKind.i32 zh] 23)) w') ((refine keeps_both (by simp) ?_; repeat (first | (with_reducible assumption) | (with_reducible refine Keeps.alloc ?_ _) | (with_reducible refine Keeps.ext ?_ _) | (with_reducible refine Keeps.set ?_ (by first | (simp; done) | (simp; omega)) _) | (with_reducible refine Keeps.drew ?_))))
      (first
        | (go_at_call 25; refine (Calls.ext (join_any _ _ _ _ _)).mono ?_; rintro e _ ⟨rfl, y, rfl⟩; have KK : Keeps (((w.alloc (Obj.cells #[Value.int IntKind.i32 xl, Value.int IntKind.i32 xh] 23)).alloc (Obj.cells #[Value.int IntKind.i32 yl, Value.int IntKind.i32 yh] 23)).alloc (Obj.cells #[Value.int IntKind.i32 zl, Value.int IntKind.i32 zh] 23)) y.w := (by repeat (first | (with_reducible assumption) | (with_reducible refine Keeps.alloc ?_ _) | (with_reducible refine Keeps.ext ?_ _) | (with_reducible refine Keeps.drew ?_))); have KS : w.heap.size + 1 + 1 + 1 ≤ y.w.heap.size := ks_of KK; try have KZ := Ext.ge y)
        | (go_at_call 26; (first | (with_reducible refine (Calls.extq (meet_any _ _ _ _ _)).mono ?_) | refine (Calls.ext (meet_any _ _ _ _ _)).mono ?_); rintro e _ ⟨rfl, y, rfl⟩; have KK : Keeps (((w.alloc (Obj.cells #[Value.int IntKind.i32 xl, Value.int IntKind.i32 xh] 23)).alloc (Obj.cells #[Value.int IntKind.i32 yl, Value.int IntKind.i32 yh] 23)).alloc (Obj.cells #[Value.int IntKind.i32 zl, Value.int IntKind.i32 zh] 23)) y.w := (by repeat (first | (with_reducible assumption) | (with_reducible refine Keeps.alloc ?_ _) | (with_reducible refine Keeps.ext ?_ _) | (with_reducible refine Keeps.drew ?_))); have KS : w.heap.size + 1 + 1 + 1 ≤ y.w.heap.size := ks_of KK; try have KZ := Ext.ge y))
    all_goals (go_wp2_with fail; go_meet; refine cut_of ?_ ?_ ?_ ?_ ?_ ?_ ?_)
    all_goals first
      | (with_reducible show Keeps _ _; (repeat (first | (with_reducible assumption) | (with_reducible refine Keeps.alloc ?_ _) | (with_reducible refine Keeps.ext ?_ _) | (with_reducible refine Keeps.set ?_ (by first | (simp; done) | (simp; omega)) _) | (with_reducible refine Keeps.drew ?_))); done)
      | (simp; done)
      | (simp; omega)
      | (go_simp; done)
      | (simp; refine World.cell?_setCell_same _ _ _ (u := .int .i32 0) ?_; go_simp; done)
      | (go_simp; refine World.cell?_setCell_same _ _ _ (u := .int .i32 0) ?_; go_simp; done)
  case rest =>
    obtain ⟨g, h, v, rfl, rfl, rfl, c1, c2, c3, c4, g1, g2⟩ := hcut
    obtain ⟨W, hW, kB, z1, z2, z3, x1, x2, y1, y2, u1, u2⟩ := joins_base xl xh yl yh zl zh w v
    rw [hW] at c1 c2 c3 c4 g1 g2 ⊢
    clear hW v
    have a1 := join_left (xl, xh) (yl, yh)
    have a2 := join_right (xl, xh) (yl, yh)
    have A3 := Lib.hid (join_least (xl, xh) (yl, yh) (zl, zh))
    have A4 := Lib.hid (join_emp (xl, xh) (yl, yh))
    have A5 := Lib.hid (join_emp_is (xl, xh) (yl, yh))
    have A6 := Lib.hid (meet_mem (xl, xh) (yl, yh) n)
    have A7 := Lib.hid (meet_emp_is (xl, xh) (yl, yh))
    have A8 := Lib.hid (join_comm (xl, xh) (yl, yh))
    have A9 := Lib.hid (meet_comm (xl, xh) (yl, yh))
    have A10 := Lib.hid (join_assoc (xl, xh) (yl, yh) (zl, zh))
    have A11 := Lib.hid (meet_assoc (xl, xh) (yl, yh) (zl, zh))
    generalize joinI (xl, xh) (yl, yh) = J at *
    generalize meetI (xl, xh) (yl, yh) = M at *
    obtain ⟨jl, jh⟩ := J
    obtain ⟨ml, mh⟩ := M
    dsimp only at c1 c2 c3 c4
    go_upto_region 2 with fail
    go_cut [46] (fun s wx => s = .bool false ∧ ∃ y : Ext W, wx = y.w)
    case first =>
      have hcs : withinI (xl, xh) (zl, zh) = false ∨ (withinI (xl, xh) (zl, zh) = true ∧ withinI (yl, yh) (zl, zh) = false) ∨ (withinI (xl, xh) (zl, zh) = true ∧ withinI (yl, yh) (zl, zh) = true ∧ withinI (jl, jh) (zl, zh) = true) := by
        cases b1 : withinI (xl, xh) (zl, zh)
        · exact .inl rfl
        · cases b2 : withinI (yl, yh) (zl, zh)
          · exact .inr (.inl ⟨rfl, rfl⟩)
          · exact .inr (.inr ⟨rfl, rfl, A3.out b1 b2⟩)
      rcases hcs with b1 | ⟨b1, b2⟩ | ⟨b1, b2, b3⟩
      all_goals
        go_wp2_with (first | (go_at_call 14; ((first | (with_reducible refine (Calls.extq (awake_any _)).mono ?_) | (refine (Calls.ext (awake_any _)).mono ?_)); rintro e _ ⟨rfl, y, rfl⟩)) | (go_at_call 24; ((first | (with_reducible refine (Calls.extq (within_any _ _ _ _ _)).mono ?_) | (refine (Calls.ext (within_any _ _ _ _ _)).mono ?_)); rintro e _ ⟨rfl, y, rfl⟩)))
        go_meet
        exact ⟨rfl, _, rfl⟩
    case rest =>
      obtain ⟨rfl, v, rfl⟩ := hcut
      have e1 := ne_iv
      have e2 := eq_iv
      go_upto_region 4 with fail
      go_cut [87] (fun s wx => s = .bool false ∧ ∃ y : Ext W, wx = y.w)
      case first =>
        have p2 : (mh < ml) ∨ ¬ (mh < ml) := Decidable.em _
        have p3 : (xh < xl ∧ yh < yl ∧ jh < jl ∧ (jl == 1 && jh == 0) = true) ∨ (xh < xl ∧ ¬ yh < yl ∧ ¬ jh < jl) ∨ (¬ xh < xl ∧ ¬ jh < jl) := by
          have b4 := A4.out
          have b5 := A5.out
          dsimp only at b4 b5
          by_cases q1 : xh < xl
          · by_cases q2 : yh < yl
            · have := b5 (b4.2 ⟨q1, q2⟩)
              simp only [Prod.mk.injEq] at this
              exact .inl ⟨q1, q2, b4.2 ⟨q1, q2⟩, by simp [this]⟩
            · exact .inr (.inl ⟨q1, q2, fun q => q2 (b4.1 q).2⟩)
          · exact .inr (.inr ⟨q1, fun q => q1 (b4.1 q).1⟩)
        have B6 := A6.out
        dsimp only at B6
        have m1 : (decide (ml ≤ n) && decide (n ≤ mh)) = ((decide (xl ≤ n) && decide (n ≤ xh)) && (decide (yl ≤ n) && decide (n ≤ yh))) := by
          rw [Bool.eq_iff_iff]
          simpa using B6
        have m2 : mh < ml → (ml == 1 && mh == 0) = true := by
          intro q
          have := A7.out q
          simp only [Prod.mk.injEq] at this
          simp [this]
        obtain ⟨bx, hbx⟩ : ∃ b, (decide (xl ≤ n) && decide (n ≤ xh)) = b := ⟨_, rfl⟩
        obtain ⟨b2, hb2⟩ : ∃ b, (decide (yl ≤ n) && decide (n ≤ yh)) = b := ⟨_, rfl⟩
        rw [hbx, hb2] at m1
        have BX := Lib.hid hbx
        have BY := Lib.hid hb2
        have BM := Lib.hid m1
        have P2 := Lib.hid p2
        have P3 := Lib.hid p3
        have M2 := Lib.hid m2
        clear B6 m1 m2 p2 p3 a1 a2 hbx hb2 A3 A4 A5 A6 A8 A9 A10 A11
        rcases P3.out with ⟨q1, q2, q3, q4⟩ | ⟨q1, q2, q3⟩ | ⟨q1, q3⟩
        · have J0 : jl = 1 ∧ jh = 0 := by simpa using q4
          obtain ⟨rfl, rfl⟩ := J0
          have EX := Lib.hid (decide_eq_true q1)
          have EY := Lib.hid (decide_eq_true q2)
          have EJ := Lib.hid (decide_eq_true q3)
          clear q1 q2 q3 q4 P3
          rcases P2.out with q6 | q6
          · have M0 : ml = 1 ∧ mh = 0 := by simpa using M2.out q6
            obtain ⟨rfl, rfl⟩ := M0
            have EM := Lib.hid (decide_eq_true q6)
            clear q6 P2 M2
            cases bx
            all_goals
              go_wp2_with fail
              refine wp_region_extq (by kernel_rfl) (by kernel_rfl) ?_
              repeat (go_big_quiet_step (first | (go_at_call 17; exact Calls.extq (lit_of (contains_any _ _ _ _) BM.out)) | (go_at_call 23; (first | (with_reducible exact Calls.extq (lit_of (has_any xl xh n _) BX.out)) | (with_reducible exact Calls.extq (lit_of (has_any yl yh n _) BY.out)))) | (go_at_call 19; (first | (with_reducible exact Calls.extq (lit_of (isEmpty_any _ _ _) EX.out)) | (with_reducible exact Calls.extq (lit_of (isEmpty_any _ _ _) EY.out)) | (with_reducible exact Calls.extq (lit_of (isEmpty_any _ _ _) EJ.out)) | (with_reducible exact Calls.extq (lit_of (isEmpty_any _ _ _) EM.out)))) | (go_at_call 22; exact Calls.extq (empty_any _))))
              refine wpQuiet_nil ?_
              rintro _ ⟨x1, rfl⟩
              go_wp2_with fail
              go_meet
              exact ⟨by simp, _, rfl⟩
          · have EM := Lib.hid (decide_eq_false q6)
            clear q6 P2 M2
            cases bx
            all_goals
              go_wp2_with fail
              refine wp_region_extq (by kernel_rfl) (by kernel_rfl) ?_
              repeat (go_big_quiet_step (first | (go_at_call 17; exact Calls.extq (lit_of (contains_any _ _ _ _) BM.out)) | (go_at_call 23; (first | (with_reducible exact Calls.extq (lit_of (has_any xl xh n _) BX.out)) | (with_reducible exact Calls.extq (lit_of (has_any yl yh n _) BY.out)))) | (go_at_call 19; (first | (with_reducible exact Calls.extq (lit_of (isEmpty_any _ _ _) EX.out)) | (with_reducible exact Calls.extq (lit_of (isEmpty_any _ _ _) EY.out)) | (with_reducible exact Calls.extq (lit_of (isEmpty_any _ _ _) EJ.out)) | (with_reducible exact Calls.extq (lit_of (isEmpty_any _ _ _) EM.out)))) | (go_at_call 22; exact Calls.extq (empty_any _))))
              refine wpQuiet_nil ?_
              rintro _ ⟨x1, rfl⟩
              go_wp2_with fail
              go_meet
              exact ⟨by simp, _, rfl⟩
        · have EX := Lib.hid (decide_eq_true q1)
          have EY := Lib.hid (decide_eq_false q2)
          have EJ := Lib.hid (decide_eq_false q3)
          clear q1 q2 q3 P3
          rcases P2.out with q6 | q6
          · have M0 : ml = 1 ∧ mh = 0 := by simpa using M2.out q6
            obtain ⟨rfl, rfl⟩ := M0
            have EM := Lib.hid (decide_eq_true q6)
            clear q6 P2 M2
            cases bx
            all_goals
              go_wp2_with fail
              refine wp_region_extq (by kernel_rfl) (by kernel_rfl) ?_
              repeat (go_big_quiet_step (first | (go_at_call 17; exact Calls.extq (lit_of (contains_any _ _ _ _) BM.out)) | (go_at_call 23; (first | (with_reducible exact Calls.extq (lit_of (has_any xl xh n _) BX.out)) | (with_reducible exact Calls.extq (lit_of (has_any yl yh n _) BY.out)))) | (go_at_call 19; (first | (with_reducible exact Calls.extq (lit_of (isEmpty_any _ _ _) EX.out)) | (with_reducible exact Calls.extq (lit_of (isEmpty_any _ _ _) EY.out)) | (with_reducible exact Calls.extq (lit_of (isEmpty_any _ _ _) EJ.out)) | (with_reducible exact Calls.extq (lit_of (isEmpty_any _ _ _) EM.out)))) | (go_at_call 22; exact Calls.extq (empty_any _))))
              refine wpQuiet_nil ?_
              rintro _ ⟨x1, rfl⟩
              go_wp2_with fail
              go_meet
              exact ⟨by simp, _, rfl⟩
          · have EM := Lib.hid (decide_eq_false q6)
            clear q6 P2 M2
            cases bx
            all_goals
              go_wp2_with fail
              refine wp_region_extq (by kernel_rfl) (by kernel_rfl) ?_
              repeat (go_big_quiet_step (first | (go_at_call 17; exact Calls.extq (lit_of (contains_any _ _ _ _) BM.out)) | (go_at_call 23; (first | (with_reducible exact Calls.extq (lit_of (has_any xl xh n _) BX.out)) | (with_reducible exact Calls.extq (lit_of (has_any yl yh n _) BY.out)))) | (go_at_call 19; (first | (with_reducible exact Calls.extq (lit_of (isEmpty_any _ _ _) EX.out)) | (with_reducible exact Calls.extq (lit_of (isEmpty_any _ _ _) EY.out)) | (with_reducible exact Calls.extq (lit_of (isEmpty_any _ _ _) EJ.out)) | (with_reducible exact Calls.extq (lit_of (isEmpty_any _ _ _) EM.out)))) | (go_at_call 22; exact Calls.extq (empty_any _))))
              refine wpQuiet_nil ?_
              rintro _ ⟨x1, rfl⟩
              go_wp2_with fail
              go_meet
              exact ⟨by simp, _, rfl⟩
        · have EX := Lib.hid (decide_eq_false q1)
          have EY := EX
          have EJ := Lib.hid (decide_eq_false q3)
          clear q1 q3 P3
          rcases P2.out with q6 | q6
          · have M0 : ml = 1 ∧ mh = 0 := by simpa using M2.out q6
            obtain ⟨rfl, rfl⟩ := M0
            have EM := Lib.hid (decide_eq_true q6)
            clear q6 P2 M2
            cases bx
            all_goals
              go_wp2_with fail
              refine wp_region_extq (by kernel_rfl) (by kernel_rfl) ?_
              repeat (go_big_quiet_step (first | (go_at_call 17; exact Calls.extq (lit_of (contains_any _ _ _ _) BM.out)) | (go_at_call 23; (first | (with_reducible exact Calls.extq (lit_of (has_any xl xh n _) BX.out)) | (with_reducible exact Calls.extq (lit_of (has_any yl yh n _) BY.out)))) | (go_at_call 19; (first | (with_reducible exact Calls.extq (lit_of (isEmpty_any _ _ _) EX.out)) | (with_reducible exact Calls.extq (lit_of (isEmpty_any _ _ _) EY.out)) | (with_reducible exact Calls.extq (lit_of (isEmpty_any _ _ _) EJ.out)) | (with_reducible exact Calls.extq (lit_of (isEmpty_any _ _ _) EM.out)))) | (go_at_call 22; exact Calls.extq (empty_any _))))
              refine wpQuiet_nil ?_
              rintro _ ⟨x1, rfl⟩
              go_wp2_with fail
              go_meet
              exact ⟨by simp, _, rfl⟩
          · have EM := Lib.hid (decide_eq_false q6)
            clear q6 P2 M2
            cases bx
            all_goals
              go_wp2_with fail
              refine wp_region_extq (by kernel_rfl) (by kernel_rfl) ?_
              repeat (go_big_quiet_step (first | (go_at_call 17; exact Calls.extq (lit_of (contains_any _ _ _ _) BM.out)) | (go_at_call 23; (first | (with_reducible exact Calls.extq (lit_of (has_any xl xh n _) BX.out)) | (with_reducible exact Calls.extq (lit_of (has_any yl yh n _) BY.out)))) | (go_at_call 19; (first | (with_reducible exact Calls.extq (lit_of (isEmpty_any _ _ _) EX.out)) | (with_reducible exact Calls.extq (lit_of (isEmpty_any _ _ _) EY.out)) | (with_reducible exact Calls.extq (lit_of (isEmpty_any _ _ _) EJ.out)) | (with_reducible exact Calls.extq (lit_of (isEmpty_any _ _ _) EM.out)))) | (go_at_call 22; exact Calls.extq (empty_any _))))
              refine wpQuiet_nil ?_
              rintro _ ⟨x1, rfl⟩
              go_wp2_with fail
              go_meet
              exact ⟨by simp, _, rfl⟩
      case rest =>
        obtain ⟨rfl, v', rfl⟩ := hcut
        have t1 : joinI (yl, yh) (xl, xh) = (jl, jh) := A8.out
        have t2 : meetI (yl, yh) (xl, xh) = (ml, mh) := A9.out
        obtain ⟨al, ah, t3⟩ : ∃ a b, joinI (jl, jh) (zl, zh) = (a, b) := ⟨_, _, rfl⟩
        obtain ⟨bl, bh, t4⟩ : ∃ a b, joinI (yl, yh) (zl, zh) = (a, b) := ⟨_, _, rfl⟩
        have t5 : joinI (xl, xh) (bl, bh) = (al, ah) := by rw [← t3, ← t4]; exact A10.out.symm
        obtain ⟨cl, ch, t6⟩ : ∃ a b, meetI (ml, mh) (zl, zh) = (a, b) := ⟨_, _, rfl⟩
        obtain ⟨dl, dh, t7⟩ : ∃ a b, meetI (yl, yh) (zl, zh) = (a, b) := ⟨_, _, rfl⟩
        have t8 : meetI (xl, xh) (dl, dh) = (cl, ch) := by rw [← t6, ← t7]; exact A11.out.symm
        have T1 := Lib.hid t1
        have T2 := Lib.hid t2
        have T3 := Lib.hid t3
        have T4 := Lib.hid t4
        have T5 := Lib.hid t5
        have T6 := Lib.hid t6
        have T7 := Lib.hid t7
        have T8 := Lib.hid t8
        clear t1 t2 t3 t4 t5 t6 t7 t8 A3 A4 A5 A6 A7 A8 A9 A10 A11 a1 a2
        go_wp2_with fail
        refine wp_region_extq (by kernel_rfl) (by kernel_rfl) ?_
        repeat (go_big_quiet_step (first | (go_at_call 25; (first | (with_reducible exact Calls.extq (pair_of (join_any _ _ _ _ _) T1.out)) | (with_reducible exact Calls.extq (pair_of (join_any _ _ _ _ _) T3.out)) | (with_reducible exact Calls.extq (pair_of (join_any _ _ _ _ _) T4.out)) | (with_reducible exact Calls.extq (pair_of (join_any _ _ _ _ _) T5.out)))) | (go_at_call 26; (first | (with_reducible exact Calls.extq (pair_of (meet_any _ _ _ _ _) T2.out)) | (with_reducible exact Calls.extq (pair_of (meet_any _ _ _ _ _) T6.out)) | (with_reducible exact Calls.extq (pair_of (meet_any _ _ _ _ _) T7.out)) | (with_reducible exact Calls.extq (pair_of (meet_any _ _ _ _ _) T8.out))))))
        refine wpQuiet_nil ?_
        rintro _ ⟨x1, rfl⟩
        go_wp2
        all_goals
          go_ret
          refine ⟨by simp, ?_⟩
          (repeat (first | assumption | refine Below.setCell ?_ ?_ _ | refine Ext.below ?_ ?_ _ | refine Below.alloc ?_ ?_ _)) <;> (first | (simp; done) | (simp; omega) | omega)

set_option maxRecDepth 100000 in
theorem intervalJoins_lifted (os : Os) (started : os.Started) (H : Type) (enc : TypeId × Value → H) :
    ReturnsInHanded {} Try.checked os 9 .any (Rows.intervalJoinsSpec.pre6 enc Try.prog Try.f9 Rows.intervalJoinsRow.domain false) (Rows.intervalJoinsSpec.post enc Try.prog Try.f9 false true false false) := by
  refine returnsInHanded_of_change (C := Try.checked) own started (by kernel_rfl) Try.func9
    (ChangeSpec.witness6 (enc := enc) (C := Try.checked) false ⟨#[], #[.agg #[.int .i32 0, .int .i32 0], .agg #[.int .i32 0, .int .i32 0], .agg #[.int .i32 0, .int .i32 0], .int .i32 0], []⟩ 8 (by kernel_rfl) (by kernel_rfl) (by kernel_rfl) (by kernel_rfl)) ?_
  intro W base args ds gs before hval0 hW hcnd _
  have hval : ∀ (j : Nat) t v, Try.f9.params[j]? = some t → args[j]? = some v → Value.okWide Try.prog W .any base t v := hval0
  have hW' := hW
  obtain ⟨p, q, hA0, hV, rfl, hfz, hnd⟩ := hW
  have hA : DataW.TrodAll enc Try.prog W 0 (fun _ => true) true Try.f9.params.toList args.toList ds p := hA0
  rw [Try.params9] at hA hval
  obtain ⟨v0, vs0, d0, ds0, p0, q0, hargs, rfl, rfl, h0, r0⟩ := trodAll_cons hA
  obtain ⟨v1, vs1, d1, ds1, p1, q1, rfl, rfl, rfl, h1, r1⟩ := trodAll_cons r0
  obtain ⟨v2, vs2, d2, ds2, p2, q2, rfl, rfl, rfl, h2, r2⟩ := trodAll_cons r1
  obtain ⟨v3, vs3, d3, ds3, p3, q3, rfl, rfl, rfl, h3, r3⟩ := trodAll_cons r2
  obtain ⟨rfl, rfl, rfl⟩ := trodAll_nil r3
  obtain rfl : args = #[v0, v1, v2, v3] := by cases args; simp_all
  obtain ⟨rfl, rfl⟩ := trodVars_none hV
  have k0 := h0
  have lt0 : ∀ x ∈ p0, x.block < W.heap.size := by obtain ⟨m, hm⟩ := k0; exact DataW.trod_lt m _ _ _ hm
  have ok0 := hval 0 23 v0 rfl rfl
  have k1 := h1
  have lt1 : ∀ x ∈ p1, x.block < W.heap.size := by obtain ⟨m, hm⟩ := k1; exact DataW.trod_lt m _ _ _ hm
  have ok1 := hval 1 23 v1 rfl rfl
  have k2 := h2
  have lt2 : ∀ x ∈ p2, x.block < W.heap.size := by obtain ⟨m, hm⟩ := k2; exact DataW.trod_lt m _ _ _ hm
  have ok2 := hval 2 23 v2 rfl rfl
  have k3 := h3
  have lt3 : ∀ x ∈ p3, x.block < W.heap.size := by obtain ⟨m, hm⟩ := k3; exact DataW.trod_lt m _ _ _ hm
  have ok3 := hval 3 21 v3 rfl rfl
  obtain ⟨l0, u0, rfl, wl0, wu0⟩ := open_iv ok0 h0
  obtain ⟨l1, u1, rfl, wl1, wu1⟩ := open_iv ok1 h1
  obtain ⟨l2, u2, rfl, wl2, wu2⟩ := open_iv ok2 h2
  obtain ⟨a3, rfl, e3, f3, w3⟩ := open_int Try.underlying21 ok3 h3
  clear hA0 hval0
  refine (joins_in l0 u0 l1 u1 l2 u2 a3 W).mono fun e W' ⟨he, bel⟩ => ?_
  subst he
  exact ⟨_, rfl, _, _, _, [], _, [], hW', trodAll_mk1 (shut_bool Try.underlying4 _), (trodAll_cons_mk (Below.trod laidOut (by kernel_rfl) (of_decide_eq_true (by kernel_rfl)) k0 bel lt0) (trodAll_cons_mk (Below.trod laidOut (by kernel_rfl) (of_decide_eq_true (by kernel_rfl)) k1 bel lt1) (trodAll_cons_mk (Below.trod laidOut (by kernel_rfl) (of_decide_eq_true (by kernel_rfl)) k2 bel lt2) (trodAll_cons_mk (Below.trod laidOut (by kernel_rfl) (of_decide_eq_true (by kernel_rfl)) k3 bel lt3) trodAll_mk0)))), rfl, bel.frame _, fun h => by cases h⟩

/-- The statement. -/
theorem intervalJoins_holds : Rows.IntervalJoinsSaid :=
  OpenClaim.holds_of_wide 9 Try.f9 rfl rfl rfl rfl rfl rfl rfl ⟨rfl, rfl, rfl, rfl, rfl⟩ rfl rfl rfl rfl rfl (by kernel_rfl) Try.func9 (by kernel_rfl)
    (of_decide_eq_true (by kernel_rfl)) (by unfold Func.isWrapper; first | (rw [if_pos (by decide +kernel)]; kernel_rfl) | (rw [if_neg (by decide +kernel)]; exact ⟨rfl, rfl⟩))
    (fun os started H enc _ => intervalJoins_lifted os started H enc)

end Go.Proofs.Ytjkjcnamlankoaa
