/-
  What is proved here: the law IntervalSound returns true for every input.
-/
import Derived.Test.YtjkjcnamlankoaaIvMonoPlain
import Derived.Test.YtjkjcnamlankoaaIvOpen
import Derived.Test.YtjkjcnamlankoaaQTail1
namespace Go.Proofs.Ytjkjcnamlankoaa
open Go.ChangeShapes Go.WideShapes Go.ChangeAt Go.RowKit
set_option linter.unusedVariables false
set_option linter.unusedSimpArgs false

set_option maxHeartbeats 400000 in
theorem clamp_any (xl xh n : Int) (w : World) :
    Calls Try.prog 15 #[.agg #[.int .i32 xl, .int .i32 xh], .int .i32 n] w fun e w' => e = .returned (.int .i32 (clampI (xl, xh) n)) ∧ Below w.heap.size w w' := by
  go_enter Try.func15, Try.ntmps15
  go_wp2
  all_goals
    go_ret
    refine ⟨ret_int (by unfold clampI; first | rfl | omega), ?_⟩
    (repeat (first | exact Below.refl _ _ | refine Below.setCell ?_ ?_ _ | refine Ext.below ?_ ?_ _ | refine Below.alloc ?_ ?_ _)) <;> (first | (simp; done) | (simp; omega) | omega | (simp only [World.size_setCell, World.size_alloc]; refine Nat.le_trans ?_ (Below.size (Ext.h _)); simp only [World.size_setCell, World.size_alloc]; omega))

/-- Two intervals that came in and one variable of the law's own. -/
theorem three_base (xl xh yl yh zl zh : Int) (w : World) (y : Ext ((w.alloc (Obj.cells #[Value.int IntKind.i32 xl, Value.int IntKind.i32 xh] 23)).alloc (Obj.cells #[Value.int IntKind.i32 yl, Value.int IntKind.i32 yh] 23))) :
    ∃ (W : World) (zb : Nat), y.w.alloc (Obj.cells #[Value.int IntKind.i32 zl, Value.int IntKind.i32 zh] 23) = W ∧ y.w.heap.size = zb ∧ Below w.heap.size w W ∧ w.heap.size < W.heap.size ∧ w.heap.size + 1 < W.heap.size ∧ zb < W.heap.size ∧ W.cell? ⟨w.heap.size, 0, none⟩ = some (.int .i32 xl) ∧ W.cell? ⟨w.heap.size, 1, none⟩ = some (.int .i32 xh) ∧ W.cell? ⟨w.heap.size + 1, 0, none⟩ = some (.int .i32 yl) ∧ W.cell? ⟨w.heap.size + 1, 1, none⟩ = some (.int .i32 yh) ∧ W.cell? ⟨zb, 0, none⟩ = some (.int .i32 zl) ∧ W.cell? ⟨zb, 1, none⟩ = some (.int .i32 zh) := by
  have hs : ((w.alloc (Obj.cells #[Value.int IntKind.i32 xl, Value.int IntKind.i32 xh] 23)).alloc (Obj.cells #[Value.int IntKind.i32 yl, Value.int IntKind.i32 yh] 23)).heap.size ≤ y.w.heap.size := y.h.size
  rw [World.size_alloc, World.size_alloc] at hs
  have s0 : w.heap.size < y.w.heap.size := by omega
  have s1 : w.heap.size + 1 < y.w.heap.size := by omega
  refine ⟨_, _, rfl, rfl, ?_, by rw [World.size_alloc]; omega, by rw [World.size_alloc]; omega, by rw [World.size_alloc]; omega, ?_, ?_, ?_, ?_, ?_, ?_⟩
  · (repeat (first | exact Below.refl _ _ | refine Below.setCell ?_ ?_ _ | refine Ext.below ?_ ?_ _ | refine Below.alloc ?_ ?_ _)) <;> (first | (simp; done) | (simp; omega) | omega | (simp only [World.size_setCell, World.size_alloc]; refine Nat.le_trans ?_ (Below.size (Ext.h _)); simp only [World.size_setCell, World.size_alloc]; omega))
  all_goals (go_simp; done)
theorem six_cells (W : World) (a0 a1 a2 a3 a4 a5 : Int) : ∀ i, i < 6 → (W.alloc (Obj.cells #[Value.int IntKind.i32 a0, Value.int IntKind.i32 a1, Value.int IntKind.i32 a2, Value.int IntKind.i32 a3, Value.int IntKind.i32 a4, Value.int IntKind.i32 a5] 21)).cell? ⟨W.heap.size, i, none⟩ = some (.int .i32 (nth [a0, a1, a2, a3, a4, a5] i)) := by
  intro i hi
  have h : i = 0 ∨ i = 1 ∨ i = 2 ∨ i = 3 ∨ i = 4 ∨ i = 5 := by omega
  rcases h with rfl | rfl | rfl | rfl | rfl | rfl <;> (simp [nth, go_sem])
theorem nth_mem {l : List Int} {P : Int → Prop} {i : Nat} (hi : i < l.length) (h : ∀ v ∈ l, P v) : P (nth l i) := by
  have e : nth l i = l[i] := by simp [nth, List.getD, hi]
  rw [e]
  exact h _ (List.getElem_mem hi)
theorem six_mem {x : Int × Int} (hx : x.1 ≤ x.2) (n : Int) : ∀ v ∈ [clampI x n, clampI x 0, clampI x (-1), clampI x 1, x.1, x.2], Mem v x := by
  intro v hv
  simp only [List.mem_cons, List.not_mem_nil, or_false] at hv
  rcases hv with rfl | rfl | rfl | rfl | rfl | rfl
  · exact clamp_mem hx _
  · exact clamp_mem hx _
  · exact clamp_mem hx _
  · exact clamp_mem hx _
  · exact ⟨Int.le_refl _, hx⟩
  · exact ⟨hx, Int.le_refl _⟩
theorem Ext.step {w0 : World} (x : Ext w0) (o : Obj) : ∃ (W : World) (b : Nat), x.w.alloc o = W ∧ x.w.heap.size = b ∧ b < W.heap.size ∧ Below w0.heap.size w0 W ∧ (∀ c k, c < w0.heap.size → W.cell? ⟨c, k, none⟩ = w0.cell? ⟨c, k, none⟩) ∧ w0.heap.size ≤ W.heap.size := by
  have hs := x.h.size
  refine ⟨_, _, rfl, rfl, by rw [World.size_alloc]; omega, Below.alloc x.h hs o, fun c k hc => ?_, by rw [World.size_alloc]; omega⟩
  rw [World.cell?_alloc_past _ _ _ (by omega)]
  exact x.cell c k hc

set_option maxRecDepth 100000 in
set_option maxHeartbeats 1000000 in
theorem sound_no (op xl xh yl yh n m : Int) (w : World) (h : xh < xl ∨ yh < yl) :
    Calls Try.prog 4 #[.int .u8 op, .agg #[.int .i32 xl, .int .i32 xh], .agg #[.int .i32 yl, .int .i32 yh], .int .i32 n, .int .i32 m] w fun e w' => e = .returned (.bool true) ∧ Below w.heap.size w w' := by
  rcases h with h | h
  · have d1 : decide (xh < xl) = true := by simpa using h
    go_enter Try.func4, Try.ntmps4
    go_wp2_with (first | (go_at_call 14; ((first | (with_reducible refine (Calls.extq (awake_any _)).mono ?_) | (refine (Calls.ext (awake_any _)).mono ?_)); rintro e _ ⟨rfl, y, rfl⟩)))
    all_goals
      go_ret
      refine ⟨rfl, ?_⟩
      (repeat (first | exact Below.refl _ _ | refine Below.setCell ?_ ?_ _ | refine Ext.below ?_ ?_ _ | refine Below.alloc ?_ ?_ _)) <;> (first | (simp; done) | (simp; omega) | omega | (simp only [World.size_setCell, World.size_alloc]; refine Nat.le_trans ?_ (Below.size (Ext.h _)); simp only [World.size_setCell, World.size_alloc]; omega))
  · by_cases h' : xh < xl
    · have d1 : decide (xh < xl) = true := by simpa using h'
      go_enter Try.func4, Try.ntmps4
      go_wp2_with (first | (go_at_call 14; ((first | (with_reducible refine (Calls.extq (awake_any _)).mono ?_) | (refine (Calls.ext (awake_any _)).mono ?_)); rintro e _ ⟨rfl, y, rfl⟩)))
      all_goals
        go_ret
        refine ⟨rfl, ?_⟩
        (repeat (first | exact Below.refl _ _ | refine Below.setCell ?_ ?_ _ | refine Ext.below ?_ ?_ _ | refine Below.alloc ?_ ?_ _)) <;> (first | (simp; done) | (simp; omega) | omega | (simp only [World.size_setCell, World.size_alloc]; refine Nat.le_trans ?_ (Below.size (Ext.h _)); simp only [World.size_setCell, World.size_alloc]; omega))
    · have d1 : decide (xh < xl) = false := by simpa using h'
      have d2 : decide (yh < yl) = true := by simpa using h
      go_enter Try.func4, Try.ntmps4
      go_wp2_with (first | (go_at_call 14; ((first | (with_reducible refine (Calls.extq (awake_any _)).mono ?_) | (refine (Calls.ext (awake_any _)).mono ?_)); rintro e _ ⟨rfl, y, rfl⟩)))
      all_goals
        go_ret
        refine ⟨rfl, ?_⟩
        (repeat (first | exact Below.refl _ _ | refine Below.setCell ?_ ?_ _ | refine Ext.below ?_ ?_ _ | refine Below.alloc ?_ ?_ _)) <;> (first | (simp; done) | (simp; omega) | omega | (simp only [World.size_setCell, World.size_alloc]; refine Nat.le_trans ?_ (Below.size (Ext.h _)); simp only [World.size_setCell, World.size_alloc]; omega))

set_option maxRecDepth 100000 in
set_option maxHeartbeats 8000000 in
theorem sound_in (op xl xh yl yh n m : Int) (w : World) (hx1 : -2147483648 ≤ xl) (hx2 : xl ≤ 2147483647) (hx3 : -2147483648 ≤ xh) (hx4 : xh ≤ 2147483647) (hy1 : -2147483648 ≤ yl) (hy2 : yl ≤ 2147483647) (hy3 : -2147483648 ≤ yh) (hy4 : yh ≤ 2147483647) (hx : xl ≤ xh) (hy : yl ≤ yh) (hn : W32 n) (hm : W32 m) :
    Calls Try.prog 4 #[.int .u8 op, .agg #[.int .i32 xl, .int .i32 xh], .agg #[.int .i32 yl, .int .i32 yh], .int .i32 n, .int .i32 m] w fun e w' => e = .returned (.bool true) ∧ Below w.heap.size w w' := by
  have d1 : decide (xh < xl) = false := by simp; omega
  have d2 : decide (yh < yl) = false := by simp; omega
  have ME := Lib.hid (fun (a b : Int) (ha : Mem a (xl, xh)) (hb : Mem b (yl, yh)) (he : we op b = 0) => apply_has (op := op) (x := (xl, xh)) (y := (yl, yh)) ⟨⟨hx1, hx2⟩, ⟨hx3, hx4⟩⟩ ⟨⟨hy1, hy2⟩, ⟨hy3, hy4⟩⟩ ha hb he)
  go_enter Try.func4, Try.ntmps4
  go_wp2_with fail
  refine (Calls.ext (awake_any _)).mono ?_
  rintro e _ ⟨rfl, y0, rfl⟩
  go_wp2_with fail
  refine (Calls.extq (apply_any _ _ _ _ _ _ hx1 hx2 hx3 hx4 hy1 hy2 hy3 hy4)).mono ?_
  rintro e _ ⟨rfl, y1, rfl⟩
  generalize applyI op (xl, xh) (yl, yh) = Z at *
  obtain ⟨zl, zh⟩ := Z
  dsimp only
  go_wp2_with fail
  obtain ⟨W, zb, hW, hzb, kB, z1, z2, z3, x1, x2, y1', y2, c1, c2⟩ := three_base xl xh yl yh zl zh w y1
  rw [hW, hzb]
  clear hW hzb y0
  refine wp_region_ext_tail_const 13 15 _ _ rfl rfl rfl (by kernel_rfl) (by kernel_rfl) ?_
  simp only [Act.put, List.setIfInBounds_toArray, List.set_cons_zero, List.set_cons_succ, List.take_succ_cons, List.take_zero, List.drop_succ_cons, List.drop_zero, Nat.reduceSub]
  repeat (go_big_quiet_step ((go_at_call 15; exact Calls.extq (clamp_any _ _ _ _))))
  refine wpQuiet_nil ?_
  rintro _ ⟨q1, rfl⟩
  go_wp2_with fail
  refine NoPanic.normal ?_
  go_wp2_with fail
  have HA := Lib.hid (six_cells q1.w (clampI (xl, xh) n) (clampI (xl, xh) 0) (clampI (xl, xh) (-1)) (clampI (xl, xh) 1) xl xh)
  have MA := Lib.hid (six_mem (x := (xl, xh)) hx n)
  have MB := Lib.hid (six_mem (x := (yl, yh)) hy m)
  obtain ⟨W1, sb, hW1, hsb, s1, b1, cc1, le1⟩ := Ext.step q1 (Obj.cells #[Value.int IntKind.i32 (clampI (xl, xh) n), Value.int IntKind.i32 (clampI (xl, xh) 0), Value.int IntKind.i32 (clampI (xl, xh) (-1)), Value.int IntKind.i32 (clampI (xl, xh) 1), Value.int IntKind.i32 (xl), Value.int IntKind.i32 (xh)] 21)
  rw [hW1, hsb] at HA
  rw [hW1, hsb]
  have e1 := (cc1 _ 0 z2).trans y1'
  have e2 := (cc1 _ 1 z2).trans y2
  have e3 := (cc1 _ 0 z3).trans c1
  have e4 := (cc1 _ 1 z3).trans c2
  have kB1 : Below w.heap.size w W1 := kB.trans (b1.mono (by omega))
  have z2' : w.heap.size + 1 < W1.heap.size := by omega
  have z3' : zb < W1.heap.size := by omega
  clear hW1 hsb cc1 x1 x2 y1' y2 c1 c2 b1 kB z1 z2 z3 le1 q1
  go_loopw [54] (fun i wr => ∃ (k : Nat) (y : Ext W1), k ≤ 6 ∧ i = .int .i64 k ∧ wr = y.w) (fun i _ => 6 - (intOf i).toNat)
  case atStart => exact ⟨0, ⟨W1, Below.refl _ _⟩, by omega, rfl, rfl⟩
  case round =>
    obtain ⟨k, y, hk, rfl, rfl⟩ := hrel
    by_cases hlt : k < 6
    · have ca := HA.out k hlt
      have hlt' : (k : Int) < 6 := by omega
      have ma := Lib.hid (nth_mem (l := [clampI (xl, xh) n, clampI (xl, xh) 0, clampI (xl, xh) (-1), clampI (xl, xh) 1, xl, xh]) (P := fun v => Mem v (xl, xh)) hlt MA.out)
      generalize nth [clampI (xl, xh) n, clampI (xl, xh) 0, clampI (xl, xh) (-1), clampI (xl, xh) 1, xl, xh] k = a at *
      go_wp2_with fail
      refine wp_region_extq_tail_const 13 15 _ _ rfl rfl rfl (by kernel_rfl) (by kernel_rfl) ?_
      simp only [Act.put, List.setIfInBounds_toArray, List.set_cons_zero, List.set_cons_succ, List.take_succ_cons, List.take_zero, List.drop_succ_cons, List.drop_zero, Nat.reduceSub]
      repeat (go_big_quiet_step ((go_at_call 15; exact Calls.extq (clamp_any _ _ _ _))))
      refine wpQuiet_nil ?_
      rintro _ ⟨q2, rfl⟩
      go_wp2_with fail
      refine NoPanic.normal ?_
      go_wp2_with fail
      have HB := Lib.hid (six_cells q2.w (clampI (yl, yh) m) (clampI (yl, yh) 0) (clampI (yl, yh) (-1)) (clampI (yl, yh) 1) yl yh)
      obtain ⟨W2, tb, hW2, htb, s2, b2, cc2, le2⟩ := Ext.step q2 (Obj.cells #[Value.int IntKind.i32 (clampI (yl, yh) m), Value.int IntKind.i32 (clampI (yl, yh) 0), Value.int IntKind.i32 (clampI (yl, yh) (-1)), Value.int IntKind.i32 (clampI (yl, yh) 1), Value.int IntKind.i32 (yl), Value.int IntKind.i32 (yh)] 21)
      rw [hW2, htb] at HB
      rw [hW2, htb]
      have g3 := (cc2 _ 0 z3').trans e3
      have g4 := (cc2 _ 1 z3').trans e4
      have z3'' : zb < W2.heap.size := by omega
      clear hW2 htb cc2 q2
      go_loopw [73] (fun j wr => ∃ (l : Nat) (y2 : Ext W2), l ≤ 6 ∧ j = .int .i64 l ∧ wr = y2.w) (fun j _ => 6 - (intOf j).toNat)
      case atStart => exact ⟨0, ⟨W2, Below.refl _ _⟩, by omega, rfl, rfl⟩
      case round =>
        obtain ⟨l, y2, hl, rfl, rfl⟩ := hrel
        by_cases hlt2 : l < 6
        · have cb := HB.out l hlt2
          have hlt2' : (l : Int) < 6 := by omega
          have mb := Lib.hid (nth_mem (l := [clampI (yl, yh) m, clampI (yl, yh) 0, clampI (yl, yh) (-1), clampI (yl, yh) 1, yl, yh]) (P := fun v => Mem v (yl, yh)) hlt2 MB.out)
          generalize nth [clampI (yl, yh) m, clampI (yl, yh) 0, clampI (yl, yh) (-1), clampI (yl, yh) 1, yl, yh] l = b at *
          have wa : W32 a := ⟨Int.le_trans hx1 ma.out.1, Int.le_trans ma.out.2 hx4⟩
          have wb : W32 b := ⟨Int.le_trans hy1 mb.out.1, Int.le_trans mb.out.2 hy4⟩
          by_cases he : we op b = 0
          · have hc := Lib.hid (show (decide (zl ≤ wv op a b) && decide (wv op a b ≤ zh)) = true by have h := ME.out a b ma.out mb.out he; simpa [Mem] using h)
            have he' : (we op b == 0) = true := by simpa using he
            clear he
            go_wp2_with (first | (go_at_call 16; refine (wapply_any _ _ _ _ wa wb).mono ?_; rintro e _ ⟨rfl, rfl⟩) | (go_at_call 17; (with_reducible refine (Calls.extq (lit_of (contains_any _ _ _ _) hc.out)).mono ?_); rintro e _ ⟨rfl, y3, rfl⟩))
            go_roundw
            case rel => exact ⟨l + 1, y3, by omega, by go_num, rfl⟩
            case measure => simp [intOf]; omega
          · have he' : (we op b == 0) = false := by simpa using he
            clear he
            go_wp2_with (first | (go_at_call 16; refine (wapply_any _ _ _ _ wa wb).mono ?_; rintro e _ ⟨rfl, rfl⟩))
            go_roundw
            case rel => exact ⟨l + 1, y2, by omega, by go_num, rfl⟩
            case measure => simp [intOf]; omega
        · have hge : ¬ ((l : Int) < 6) := by omega
          go_wp2_with fail
          go_roundw
          case rel => exact ⟨k + 1, ⟨y2.w, b2.trans (y2.h.mono le2)⟩, by omega, by go_num, rfl⟩
          case measure => simp [intOf]; omega
    · have hge : ¬ ((k : Int) < 6) := by omega
      go_wp2
      all_goals
        go_ret
        exact ⟨rfl, Ext.below kB1 (by omega) y⟩

theorem sound_any (op xl xh yl yh n m : Int) (w : World) (hx1 : -2147483648 ≤ xl) (hx2 : xl ≤ 2147483647) (hx3 : -2147483648 ≤ xh) (hx4 : xh ≤ 2147483647) (hy1 : -2147483648 ≤ yl) (hy2 : yl ≤ 2147483647) (hy3 : -2147483648 ≤ yh) (hy4 : yh ≤ 2147483647) (hn : W32 n) (hm : W32 m) :
    Calls Try.prog 4 #[.int .u8 op, .agg #[.int .i32 xl, .int .i32 xh], .agg #[.int .i32 yl, .int .i32 yh], .int .i32 n, .int .i32 m] w fun e w' => e = .returned (.bool true) ∧ Below w.heap.size w w' := by
  by_cases h : xh < xl ∨ yh < yl
  · exact sound_no op xl xh yl yh n m w h
  · exact sound_in op xl xh yl yh n m w hx1 hx2 hx3 hx4 hy1 hy2 hy3 hy4 (by omega) (by omega) hn hm

set_option maxRecDepth 100000 in
theorem intervalSound_lifted (os : Os) (started : os.Started) (H : Type) (enc : TypeId × Value → H) :
    ReturnsInHanded {} Try.checked os 4 .any (Rows.intervalSoundSpec.pre6 enc Try.prog Try.f4 Rows.intervalSoundRow.domain false) (Rows.intervalSoundSpec.post enc Try.prog Try.f4 false true false false) := by
  refine returnsInHanded_of_change (C := Try.checked) own started (by kernel_rfl) Try.func4
    (ChangeSpec.witness6 (enc := enc) (C := Try.checked) false ⟨#[], #[.int .u8 0, .agg #[.int .i32 0, .int .i32 0], .agg #[.int .i32 0, .int .i32 0], .int .i32 0, .int .i32 0], []⟩ 8 (by kernel_rfl) (by kernel_rfl) (by kernel_rfl) (by kernel_rfl)) ?_
  intro W base args ds gs before hval0 hW hcnd _
  have hval : ∀ (j : Nat) t v, Try.f4.params[j]? = some t → args[j]? = some v → Value.okWide Try.prog W .any base t v := hval0
  have hW' := hW
  obtain ⟨p, q, hA0, hV, rfl, hfz, hnd⟩ := hW
  have hA : DataW.TrodAll enc Try.prog W 0 (fun _ => true) true Try.f4.params.toList args.toList ds p := hA0
  rw [Try.params4] at hA hval
  obtain ⟨v0, vs0, d0, ds0, p0, q0, hargs, rfl, rfl, h0, r0⟩ := trodAll_cons hA
  obtain ⟨v1, vs1, d1, ds1, p1, q1, rfl, rfl, rfl, h1, r1⟩ := trodAll_cons r0
  obtain ⟨v2, vs2, d2, ds2, p2, q2, rfl, rfl, rfl, h2, r2⟩ := trodAll_cons r1
  obtain ⟨v3, vs3, d3, ds3, p3, q3, rfl, rfl, rfl, h3, r3⟩ := trodAll_cons r2
  obtain ⟨v4, vs4, d4, ds4, p4, q4, rfl, rfl, rfl, h4, r4⟩ := trodAll_cons r3
  obtain ⟨rfl, rfl, rfl⟩ := trodAll_nil r4
  obtain rfl : args = #[v0, v1, v2, v3, v4] := by cases args; simp_all
  obtain ⟨rfl, rfl⟩ := trodVars_none hV
  have k0 := h0
  have lt0 : ∀ x ∈ p0, x.block < W.heap.size := by obtain ⟨m, hm⟩ := k0; exact DataW.trod_lt m _ _ _ hm
  have ok0 := hval 0 5 v0 rfl rfl
  have k1 := h1
  have lt1 : ∀ x ∈ p1, x.block < W.heap.size := by obtain ⟨m, hm⟩ := k1; exact DataW.trod_lt m _ _ _ hm
  have ok1 := hval 1 23 v1 rfl rfl
  have k2 := h2
  have lt2 : ∀ x ∈ p2, x.block < W.heap.size := by obtain ⟨m, hm⟩ := k2; exact DataW.trod_lt m _ _ _ hm
  have ok2 := hval 2 23 v2 rfl rfl
  have k3 := h3
  have lt3 : ∀ x ∈ p3, x.block < W.heap.size := by obtain ⟨m, hm⟩ := k3; exact DataW.trod_lt m _ _ _ hm
  have ok3 := hval 3 21 v3 rfl rfl
  have k4 := h4
  have lt4 : ∀ x ∈ p4, x.block < W.heap.size := by obtain ⟨m, hm⟩ := k4; exact DataW.trod_lt m _ _ _ hm
  have ok4 := hval 4 21 v4 rfl rfl
  obtain ⟨a0, rfl, e0, f0, w0⟩ := open_int Try.underlying5 ok0 h0
  obtain ⟨l1, u1, rfl, wl1, wu1⟩ := open_iv ok1 h1
  obtain ⟨l2, u2, rfl, wl2, wu2⟩ := open_iv ok2 h2
  obtain ⟨a3, rfl, e3, f3, w3⟩ := open_int Try.underlying21 ok3 h3
  obtain ⟨a4, rfl, e4, f4, w4⟩ := open_int Try.underlying21 ok4 h4
  clear hA0 hval0
  refine (sound_any a0 l1 u1 l2 u2 a3 a4 W (bounds_i32 wl1).1 (bounds_i32 wl1).2 (bounds_i32 wu1).1 (bounds_i32 wu1).2 (bounds_i32 wl2).1 (bounds_i32 wl2).2 (bounds_i32 wu2).1 (bounds_i32 wu2).2 (bounds_i32 w3) (bounds_i32 w4)).mono fun e W' ⟨he, bel⟩ => ?_
  subst he
  exact ⟨_, rfl, _, _, _, [], _, [], hW', trodAll_mk1 (shut_bool Try.underlying4 _), (trodAll_cons_mk (Below.trod laidOut (by kernel_rfl) (of_decide_eq_true (by kernel_rfl)) k0 bel lt0) (trodAll_cons_mk (Below.trod laidOut (by kernel_rfl) (of_decide_eq_true (by kernel_rfl)) k1 bel lt1) (trodAll_cons_mk (Below.trod laidOut (by kernel_rfl) (of_decide_eq_true (by kernel_rfl)) k2 bel lt2) (trodAll_cons_mk (Below.trod laidOut (by kernel_rfl) (of_decide_eq_true (by kernel_rfl)) k3 bel lt3) (trodAll_cons_mk (Below.trod laidOut (by kernel_rfl) (of_decide_eq_true (by kernel_rfl)) k4 bel lt4) trodAll_mk0))))), rfl, bel.frame _, fun h => by cases h⟩

/-- The statement. -/
theorem intervalSound_holds : Rows.IntervalSoundSaid :=
  OpenClaim.holds_of_wide 4 Try.f4 rfl rfl rfl rfl rfl rfl rfl ⟨rfl, rfl, rfl, rfl, rfl⟩ rfl rfl rfl rfl rfl (by kernel_rfl) Try.func4 (by kernel_rfl)
    (of_decide_eq_true (by kernel_rfl)) (by unfold Func.isWrapper; first | (rw [if_pos (by decide +kernel)]; kernel_rfl) | (rw [if_neg (by decide +kernel)]; exact ⟨rfl, rfl⟩))
    (fun os started H enc _ => intervalSound_lifted os started H enc)

end Go.Proofs.Ytjkjcnamlankoaa
