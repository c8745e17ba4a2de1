/-
  What is proved here: the law IntervalTight returns true for every input.
-/
import Derived.Test.YtjkjcnamlankoaaLawSound
import Derived.Deep.DeepCutAuto
namespace Go.Proofs.Ytjkjcnamlankoaa
open Go.ChangeShapes Go.WideShapes Go.ChangeAt Go.RowKit
set_option linter.unusedVariables false
set_option linter.unusedSimpArgs false

theorem two_cells (W : World) (a0 a1 : Int) : ∀ i, i < 2 → (W.alloc (Obj.cells #[Value.int IntKind.i32 a0, Value.int IntKind.i32 a1] 21)).cell? ⟨W.heap.size, i, none⟩ = some (.int .i32 (nth [a0, a1] i)) := by
  intro i hi
  have h : i = 0 ∨ i = 1 := by omega
  rcases h with rfl | rfl <;> (simp [nth, go_sem])
theorem four_cells (W : World) (a0 a1 a2 a3 : Int) : ∀ i, i < 4 → (W.alloc (Obj.cells #[Value.int IntKind.i32 a0, Value.int IntKind.i32 a1, Value.int IntKind.i32 a2, Value.int IntKind.i32 a3] 21)).cell? ⟨W.heap.size, i, none⟩ = some (.int .i32 (nth [a0, a1, a2, a3] i)) := by
  intro i hi
  have h : i = 0 ∨ i = 1 ∨ i = 2 ∨ i = 3 := by omega
  rcases h with rfl | rfl | rfl | rfl <;> (simp [nth, go_sem])

/-- The pairs that have been tried so far: if one of them has the value z, the flag is set. -/
def Seen (op z : Int) (A B : List Int) (k l : Nat) (lo : Bool) : Prop := ∀ i j, ((i < k ∧ j < 4) ∨ (i = k ∧ j < l)) → we op (nth B j) = 0 → wv op (nth A i) (nth B j) = z → lo = true
theorem Seen.start (op z : Int) (A B : List Int) (lo : Bool) : Seen op z A B 0 0 lo := fun i j h => by omega
theorem Seen.step {op z : Int} {A B : List Int} {k l : Nat} {lo : Bool} (h : Seen op z A B k l lo) : Seen op z A B k (l + 1) (lo || (we op (nth B l) == 0 && wv op (nth A k) (nth B l) == z)) := by
  intro i j hij h1 h2
  by_cases c : i = k ∧ j = l
  · obtain ⟨rfl, rfl⟩ := c
    simp [h1, h2]
  · rw [h i j (by omega) h1 h2]; rfl
theorem Seen.next {op z : Int} {A B : List Int} {k : Nat} {lo : Bool} (h : Seen op z A B k 4 lo) : Seen op z A B (k + 1) 0 lo := by
  intro i j hij h1 h2
  exact h i j (by omega) h1 h2
theorem Seen.end {op z xl xh yl yh : Int} {lo : Bool} (h : Seen op z [xl, xh] [yl, yh, clampI (yl, yh) (-1), clampI (yl, yh) 1] 2 0 lo) (g : Got op z (xl, xh) (yl, yh)) : lo = true := by
  obtain ⟨a, b, ha, hb, h1, h2⟩ := g
  have ea : ∃ i, i < 2 ∧ nth [xl, xh] i = a := by
    rcases ha with rfl | rfl
    · exact ⟨0, by omega, rfl⟩
    · exact ⟨1, by omega, rfl⟩
  have eb : ∃ j, j < 4 ∧ nth [yl, yh, clampI (yl, yh) (-1), clampI (yl, yh) 1] j = b := by
    rcases hb with rfl | rfl | rfl | rfl
    · exact ⟨0, by omega, rfl⟩
    · exact ⟨1, by omega, rfl⟩
    · exact ⟨2, by omega, rfl⟩
    · exact ⟨3, by omega, rfl⟩
  obtain ⟨i, hi, rfl⟩ := ea
  obtain ⟨j, hj, rfl⟩ := eb
  exact h i j (.inl ⟨hi, hj⟩) h1 h2
/-- Whether the law has nothing to try. -/
def skipB (op xl xh yl yh zl zh : Int) : Bool := decide (op < 6) || decide (9 < op) || decide (xh < xl) || decide (yh < yl) || (zl == -2147483648 && zh == 2147483647) || decide (zh < zl)

set_option maxRecDepth 100000 in
set_option maxHeartbeats 8000000 in
theorem tight_in (op xl xh yl yh : Int) (w : World) (hx1 : -2147483648 ≤ xl) (hx2 : xl ≤ 2147483647) (hx3 : -2147483648 ≤ xh) (hx4 : xh ≤ 2147483647) (hy1 : -2147483648 ≤ yl) (hy2 : yl ≤ 2147483647) (hy3 : -2147483648 ≤ yh) (hy4 : yh ≤ 2147483647) :
    Calls Try.prog 5 #[.int .u8 op, .agg #[.int .i32 xl, .int .i32 xh], .agg #[.int .i32 yl, .int .i32 yh]] w fun e w' => e = .returned (.bool true) ∧ Below w.heap.size w w' := by
  have TG := Lib.hid (fun (h1 : 6 ≤ op) (h2 : op ≤ 9) (h3 : xl ≤ xh) (h4 : yl ≤ yh) => apply_tight (op := op) (x := (xl, xh)) (y := (yl, yh)) h1 h2 h3 h4)
  have e2 := eq_iv
  go_enter Try.func5, Try.ntmps5
  go_wp2_with fail
  refine (Calls.ext (apply_any _ _ _ _ _ _ hx1 hx2 hx3 hx4 hy1 hy2 hy3 hy4)).mono ?_
  rintro e _ ⟨rfl, y1, rfl⟩
  generalize applyI op (xl, xh) (yl, yh) = Z at *
  obtain ⟨zl, zh⟩ := Z
  dsimp only
  go_wp2_with fail
  obtain ⟨W, zb, hW, hzb, kB, z1, z2, z3, x1, x2, y1', y2, c1, c2⟩ := three_base xl xh yl yh zl zh w y1
  rw [hW, hzb]
  clear hW hzb
  go_upto_region 2 with fail
  go_cut [52] (fun s wx => s = .bool (skipB op xl xh yl yh zl zh) ∧ ∃ y : Ext W, wx = y.w)
  case first =>
    have cs : (op < 6) ∨ (¬ op < 6 ∧ 9 < op) ∨ (¬ op < 6 ∧ ¬ 9 < op ∧ xh < xl) ∨ (¬ op < 6 ∧ ¬ 9 < op ∧ ¬ xh < xl ∧ yh < yl) ∨ (¬ op < 6 ∧ ¬ 9 < op ∧ ¬ xh < xl ∧ ¬ yh < yl ∧ (zl == -2147483648 && zh == 2147483647) = true) ∨ (¬ op < 6 ∧ ¬ 9 < op ∧ ¬ xh < xl ∧ ¬ yh < yl ∧ (zl == -2147483648 && zh == 2147483647) = false) := by
      cases hb : (zl == -2147483648 && zh == 2147483647) <;> simp <;> omega
    have CS := Lib.hid cs
    clear cs TG
    rcases CS.out with q1 | ⟨q1, q2⟩ | ⟨q1, q2, q3⟩ | ⟨q1, q2, q3, q4⟩ | ⟨q1, q2, q3, q4, q5⟩ | ⟨q1, q2, q3, q4, q5⟩
    · have sk := Lib.hid (show skipB op xl xh yl yh zl zh = true by simp [skipB, q1])
      have d1 := decide_eq_true q1
      clear q1
      go_wp2_with fail
      refine wp_region_ext (by kernel_rfl) (by kernel_rfl) ?_
      repeat (go_big_quiet_step (first | (go_at_call 14; exact Calls.extq (awake_any _)) | (go_at_call 18; exact Calls.extq (full_any _)) | (go_at_call 19; exact Calls.extq (isEmpty_any _ _ _))))
      refine wpQuiet_nil ?_
      rintro _ ⟨x3, rfl⟩
      go_wp2_with fail
      go_meet
      exact ⟨by rw [sk.out], x3, rfl⟩
    · have sk := Lib.hid (show skipB op xl xh yl yh zl zh = true by simp [skipB, q2])
      have d1 := decide_eq_false q1
      have d2 := decide_eq_true q2
      clear q1 q2
      go_wp2_with fail
      refine wp_region_ext (by kernel_rfl) (by kernel_rfl) ?_
      repeat (go_big_quiet_step (first | (go_at_call 14; exact Calls.extq (awake_any _)) | (go_at_call 18; exact Calls.extq (full_any _)) | (go_at_call 19; exact Calls.extq (isEmpty_any _ _ _))))
      refine wpQuiet_nil ?_
      rintro _ ⟨x3, rfl⟩
      go_wp2_with fail
      go_meet
      exact ⟨by rw [sk.out], x3, rfl⟩
    · have sk := Lib.hid (show skipB op xl xh yl yh zl zh = true by simp [skipB, q3])
      have d1 := decide_eq_false q1
      have d2 := decide_eq_false q2
      have d3 := decide_eq_true q3
      clear q1 q2 q3
      go_wp2_with fail
      refine wp_region_ext (by kernel_rfl) (by kernel_rfl) ?_
      repeat (go_big_quiet_step (first | (go_at_call 14; exact Calls.extq (awake_any _)) | (go_at_call 18; exact Calls.extq (full_any _)) | (go_at_call 19; exact Calls.extq (isEmpty_any _ _ _))))
      refine wpQuiet_nil ?_
      rintro _ ⟨x3, rfl⟩
      go_wp2_with fail
      go_meet
      exact ⟨by rw [sk.out], x3, rfl⟩
    · have sk := Lib.hid (show skipB op xl xh yl yh zl zh = true by simp [skipB, q4])
      have d1 := decide_eq_false q1
      have d2 := decide_eq_false q2
      have d3 := decide_eq_false q3
      have d4 := decide_eq_true q4
      clear q1 q2 q3 q4
      go_wp2_with fail
      refine wp_region_ext (by kernel_rfl) (by kernel_rfl) ?_
      repeat (go_big_quiet_step (first | (go_at_call 14; exact Calls.extq (awake_any _)) | (go_at_call 18; exact Calls.extq (full_any _)) | (go_at_call 19; exact Calls.extq (isEmpty_any _ _ _))))
      refine wpQuiet_nil ?_
      rintro _ ⟨x3, rfl⟩
      go_wp2_with fail
      go_meet
      exact ⟨by rw [sk.out], x3, rfl⟩
    · have sk := Lib.hid (show skipB op xl xh yl yh zl zh = true by simp only [skipB, q5]; simp)
      have Q5 : zl = -2147483648 ∧ zh = 2147483647 := by simpa using q5
      obtain ⟨rfl, rfl⟩ := Q5
      have d1 := decide_eq_false q1
      have d2 := decide_eq_false q2
      have d3 := decide_eq_false q3
      have d4 := decide_eq_false q4
      clear q1 q2 q3 q4 q5
      go_wp2_with fail
      refine wp_region_ext (by kernel_rfl) (by kernel_rfl) ?_
      repeat (go_big_quiet_step (first | (go_at_call 14; exact Calls.extq (awake_any _)) | (go_at_call 18; exact Calls.extq (full_any _)) | (go_at_call 19; exact Calls.extq (isEmpty_any _ _ _))))
      refine wpQuiet_nil ?_
      rintro _ ⟨x3, rfl⟩
      go_wp2_with fail
      go_meet
      exact ⟨by rw [sk.out], x3, rfl⟩
    · have sk := Lib.hid (show skipB op xl xh yl yh zl zh = decide (zh < zl) by simp only [skipB, q5, q1, q2, q3, q4]; simp)
      have d1 := decide_eq_false q1
      have d2 := decide_eq_false q2
      have d3 := decide_eq_false q3
      have d4 := decide_eq_false q4
      clear q1 q2 q3 q4
      go_wp2_with fail
      refine wp_region_ext (by kernel_rfl) (by kernel_rfl) ?_
      repeat (go_big_quiet_step (first | (go_at_call 14; exact Calls.extq (awake_any _)) | (go_at_call 18; exact Calls.extq (full_any _)) | (go_at_call 19; exact Calls.extq (isEmpty_any _ _ _))))
      refine wpQuiet_nil ?_
      rintro _ ⟨x3, rfl⟩
      go_wp2_with fail
      go_meet
      exact ⟨by rw [sk.out], x3, rfl⟩
  case rest =>
    obtain ⟨rfl, y0, rfl⟩ := hcut
    cases hs : skipB op xl xh yl yh zl zh
    · have hk : (6 ≤ op ∧ op ≤ 9 ∧ xl ≤ xh ∧ yl ≤ yh ∧ ¬ (zl, zh) = (-2147483648, 2147483647) ∧ ¬ zh < zl) := by
        simp [skipB] at hs
        simp
        omega
      have GL := Lib.hid (TG.out hk.1 hk.2.1 hk.2.2.1 hk.2.2.2.1 hk.2.2.2.2.1 (by have h := hk.2.2.2.2.2; omega))
      clear hk hs TG e2
      go_wp2_with fail
      have HA := Lib.hid (two_cells y0.w xl xh)
      obtain ⟨W1, sb, hW1, hsb, s1, b1, cc1, le1⟩ := Ext.step y0 (Obj.cells #[Value.int IntKind.i32 (xl), Value.int IntKind.i32 (xh)] 21)
      rw [hW1, hsb] at HA
      rw [hW1, hsb]
      have e1 := (cc1 _ 0 z2).trans y1'
      have e2 := (cc1 _ 1 z2).trans y2
      have e3 := (cc1 _ 0 z3).trans c1
      have e4 := (cc1 _ 1 z3).trans c2
      have kB1 : Below w.heap.size w W1 := kB.trans (b1.mono (by omega))
      have z2' : w.heap.size + 1 < W1.heap.size := by omega
      have z3' : zb < W1.heap.size := by omega
      clear hW1 hsb cc1 x1 x2 y1' y2 c1 c2 b1 kB z1 z2 z3 le1
      go_loopw [8, 9, 60] (fun s t i wr => ∃ (k : Nat) (lo hi : Bool) (y : Ext W1), k ≤ 2 ∧ i = .int .i64 k ∧ s = .bool lo ∧ t = .bool hi ∧ wr = y.w ∧ Seen op zl [xl, xh] [yl, yh, clampI (yl, yh) (-1), clampI (yl, yh) 1] k 0 lo ∧ Seen op zh [xl, xh] [yl, yh, clampI (yl, yh) (-1), clampI (yl, yh) 1] k 0 hi) (fun _ _ i _ => 2 - (intOf i).toNat)
      case atStart => exact ⟨0, false, false, ⟨W1, Below.refl _ _⟩, by omega, rfl, rfl, rfl, rfl, Seen.start _ _ _ _ _, Seen.start _ _ _ _ _⟩
      case round =>
        obtain ⟨k, lo, hi, y, hk, rfl, rfl, rfl, rfl, S1, S2⟩ := hrel
        by_cases hlt : k < 2
        · have ca := HA.out k hlt
          have hlt' : (k : Int) < 2 := by omega
          have wa : W32 (nth [xl, xh] k) := by
            have h : k = 0 ∨ k = 1 := by omega
            rcases h with rfl | rfl
            · exact ⟨hx1, hx2⟩
            · exact ⟨hx3, hx4⟩
          generalize hA0 : [xl, xh] = A0 at *
          go_wp2_with fail
          refine wp_region_extq_tail_const 8 10 _ _ rfl rfl rfl (by kernel_rfl) (by kernel_rfl) ?_
          simp only [Act.put, List.setIfInBounds_toArray, List.set_cons_zero, List.set_cons_succ, List.take_succ_cons, List.take_zero, List.drop_succ_cons, List.drop_zero, Nat.reduceSub]
          repeat (go_big_quiet_step ((go_at_call 15; exact Calls.extq (clamp_any _ _ _ _))))
          refine wpQuiet_nil ?_
          rintro _ ⟨q2, rfl⟩
          go_wp2_with fail
          refine NoPanic.normal ?_
          go_wp2_with fail
          have HB := Lib.hid (four_cells q2.w yl yh (clampI (yl, yh) (-1)) (clampI (yl, yh) 1))
          obtain ⟨W2, tb, hW2, htb, s2, b2, cc2, le2⟩ := Ext.step q2 (Obj.cells #[Value.int IntKind.i32 (yl), Value.int IntKind.i32 (yh), Value.int IntKind.i32 (clampI (yl, yh) (-1)), Value.int IntKind.i32 (clampI (yl, yh) 1)] 21)
          rw [hW2, htb] at HB
          rw [hW2, htb]
          have g3 := (cc2 _ 0 z3').trans e3
          have g4 := (cc2 _ 1 z3').trans e4
          have z3'' : zb < W2.heap.size := by omega
          clear hW2 htb cc2 q2
          go_loopw [8, 9, 74] (fun s t j wr => ∃ (l : Nat) (lo hi : Bool) (y2 : Ext W2), l ≤ 4 ∧ j = .int .i64 l ∧ s = .bool lo ∧ t = .bool hi ∧ wr = y2.w ∧ Seen op zl A0 [yl, yh, clampI (yl, yh) (-1), clampI (yl, yh) 1] k l lo ∧ Seen op zh A0 [yl, yh, clampI (yl, yh) (-1), clampI (yl, yh) 1] k l hi) (fun _ _ j _ => 4 - (intOf j).toNat)
          case atStart => exact ⟨0, lo, hi, ⟨W2, Below.refl _ _⟩, by omega, rfl, rfl, rfl, rfl, S1, S2⟩
          case round =>
            clear S1 S2
            obtain ⟨l, lo', hi', y2, hl, rfl, rfl, rfl, rfl, S1, S2⟩ := hrel
            by_cases hlt2 : l < 4
            · have cb := HB.out l hlt2
              have hlt2' : (l : Int) < 4 := by omega
              have wb : W32 (nth [yl, yh, clampI (yl, yh) (-1), clampI (yl, yh) 1] l) := by
                refine nth_mem (P := W32) hlt2 ?_
                intro v hv
                simp only [List.mem_cons, List.not_mem_nil, or_false] at hv
                rcases hv with rfl | rfl | rfl | rfl
                · exact ⟨hy1, hy2⟩
                · exact ⟨hy3, hy4⟩
                · unfold clampI W32; omega
                · unfold clampI W32; omega
              have S1' := Lib.hid S1.step
              have S2' := Lib.hid S2.step
              clear S1 S2
              generalize [yl, yh, clampI (yl, yh) (-1), clampI (yl, yh) 1] = B0 at *
              generalize nth B0 l = b at *
              generalize nth A0 k = a at *
              cases lo' <;> cases hi' <;> cases hw : (we op b == 0)
              all_goals
                rw [hw] at S1' S2'
                go_wp2_with fail
                refine (wapply_any _ _ _ _ wa wb).mono ?_
                rintro e _ ⟨rfl, rfl⟩
                generalize wv op a b = v at *
                go_wp2_with fail
                refine wp_region_extq (by kernel_rfl) (by kernel_rfl) ?_
                repeat (go_big_quiet_step (fail))
                refine wpQuiet_nil ?_
                rintro _ ⟨x3, rfl⟩
                go_wp2_with fail
                go_roundw
                case rel => exact ⟨l + 1, _, _, x3, by omega, by go_num, rfl, rfl, rfl, by simpa using S1'.out, by simpa using S2'.out⟩
                case measure => simp [intOf]; omega
            · have hge : ¬ ((l : Int) < 4) := by omega
              obtain rfl : l = 4 := by omega
              have S1' := Lib.hid S1.next
              have S2' := Lib.hid S2.next
              clear S1 S2
              subst hA0
              go_wp2_with fail
              go_roundw
              case rel => exact ⟨k + 1, lo', hi', ⟨y2.w, b2.trans (y2.h.mono le2)⟩, by omega, by go_num, rfl, rfl, rfl, S1'.out, S2'.out⟩
              case measure => simp [intOf]; omega
        · have hge : ¬ ((k : Int) < 2) := by omega
          obtain rfl : k = 2 := by omega
          have E1 := S1.end GL.out.1
          have E2 := S2.end GL.out.2
          subst E1 E2
          clear S1 S2
          go_wp2
          all_goals
            go_ret
            exact ⟨rfl, Ext.below kB1 (by omega) y⟩
    · clear hs TG e2
      go_wp2_with (go_at_call 14; (with_reducible refine (Calls.extq (awake_any _)).mono ?_); rintro e _ ⟨rfl, y3, rfl⟩)
      all_goals
        go_ret
        exact ⟨rfl, Ext.below kB (by omega) y3⟩

set_option maxRecDepth 100000 in
theorem intervalTight_lifted (os : Os) (started : os.Started) (H : Type) (enc : TypeId × Value → H) :
    ReturnsInHanded {} Try.checked os 5 .any (Rows.intervalTightSpec.pre6 enc Try.prog Try.f5 Rows.intervalTightRow.domain false) (Rows.intervalTightSpec.post enc Try.prog Try.f5 false true false false) := by
  refine returnsInHanded_of_change (C := Try.checked) own started (by kernel_rfl) Try.func5
    (ChangeSpec.witness6 (enc := enc) (C := Try.checked) false ⟨#[], #[.int .u8 0, .agg #[.int .i32 0, .int .i32 0], .agg #[.int .i32 0, .int .i32 0]], []⟩ 8 (by kernel_rfl) (by kernel_rfl) (by kernel_rfl) (by kernel_rfl)) ?_
  intro W base args ds gs before hval0 hW hcnd _
  have hval : ∀ (j : Nat) t v, Try.f5.params[j]? = some t → args[j]? = some v → Value.okWide Try.prog W .any base t v := hval0
  have hW' := hW
  obtain ⟨p, q, hA0, hV, rfl, hfz, hnd⟩ := hW
  have hA : DataW.TrodAll enc Try.prog W 0 (fun _ => true) true Try.f5.params.toList args.toList ds p := hA0
  rw [Try.params5] at hA hval
  obtain ⟨v0, vs0, d0, ds0, p0, q0, hargs, rfl, rfl, h0, r0⟩ := trodAll_cons hA
  obtain ⟨v1, vs1, d1, ds1, p1, q1, rfl, rfl, rfl, h1, r1⟩ := trodAll_cons r0
  obtain ⟨v2, vs2, d2, ds2, p2, q2, rfl, rfl, rfl, h2, r2⟩ := trodAll_cons r1
  obtain ⟨rfl, rfl, rfl⟩ := trodAll_nil r2
  obtain rfl : args = #[v0, v1, v2] := by cases args; simp_all
  obtain ⟨rfl, rfl⟩ := trodVars_none hV
  have k0 := h0
  have lt0 : ∀ x ∈ p0, x.block < W.heap.size := by obtain ⟨m, hm⟩ := k0; exact DataW.trod_lt m _ _ _ hm
  have ok0 := hval 0 5 v0 rfl rfl
  have k1 := h1
  have lt1 : ∀ x ∈ p1, x.block < W.heap.size := by obtain ⟨m, hm⟩ := k1; exact DataW.trod_lt m _ _ _ hm
  have ok1 := hval 1 23 v1 rfl rfl
  have k2 := h2
  have lt2 : ∀ x ∈ p2, x.block < W.heap.size := by obtain ⟨m, hm⟩ := k2; exact DataW.trod_lt m _ _ _ hm
  have ok2 := hval 2 23 v2 rfl rfl
  obtain ⟨a0, rfl, e0, f0, w0⟩ := open_int Try.underlying5 ok0 h0
  obtain ⟨l1, u1, rfl, wl1, wu1⟩ := open_iv ok1 h1
  obtain ⟨l2, u2, rfl, wl2, wu2⟩ := open_iv ok2 h2
  clear hA0 hval0
  refine (tight_in a0 l1 u1 l2 u2 W (bounds_i32 wl1).1 (bounds_i32 wl1).2 (bounds_i32 wu1).1 (bounds_i32 wu1).2 (bounds_i32 wl2).1 (bounds_i32 wl2).2 (bounds_i32 wu2).1 (bounds_i32 wu2).2).mono fun e W' ⟨he, bel⟩ => ?_
  subst he
  exact ⟨_, rfl, _, _, _, [], _, [], hW', trodAll_mk1 (shut_bool Try.underlying4 _), (trodAll_cons_mk (Below.trod laidOut (by kernel_rfl) (of_decide_eq_true (by kernel_rfl)) k0 bel lt0) (trodAll_cons_mk (Below.trod laidOut (by kernel_rfl) (of_decide_eq_true (by kernel_rfl)) k1 bel lt1) (trodAll_cons_mk (Below.trod laidOut (by kernel_rfl) (of_decide_eq_true (by kernel_rfl)) k2 bel lt2) trodAll_mk0))), rfl, bel.frame _, fun h => by cases h⟩

/-- The statement. -/
theorem intervalTight_holds : Rows.IntervalTightSaid :=
  OpenClaim.holds_of_wide 5 Try.f5 rfl rfl rfl rfl rfl rfl rfl ⟨rfl, rfl, rfl, rfl, rfl⟩ rfl rfl rfl rfl rfl (by kernel_rfl) Try.func5 (by kernel_rfl)
    (of_decide_eq_true (by kernel_rfl)) (by unfold Func.isWrapper; first | (rw [if_pos (by decide +kernel)]; kernel_rfl) | (rw [if_neg (by decide +kernel)]; exact ⟨rfl, rfl⟩))
    (fun os started H enc _ => intervalTight_lifted os started H enc)

end Go.Proofs.Ytjkjcnamlankoaa
