/-
  What is proved here: the law BusMaxWait returns true for every input.
-/
import Derived.Test.YtbphlcldbcjncaaAwake
import Derived.Test.YtbphlcldbcjncaaPlain4
import Derived.Test.YtbphlcldbcjncaaOpen
import Derived.Test.YtbphlcldbcjncaaLawPeriodic
namespace Go.Proofs.Ytbphlcldbcjncaa
open Go.ChangeShapes Go.WideShapes Go.ChangeAt Go.RowKit

theorem mw_step {z s W S M : Int} (h1 : z < s → W = M) (h2 : z = s → S - s = M) (hW : W ≤ M) (hS : S - s ≤ M) (hz : z < s + 1) : (if W < S - s then S - s else W) = M := by
  by_cases h : z < s
  · have := h1 h
    split <;> omega
  · have := h2 (by omega)
    split <;> omega

set_option maxHeartbeats 4000000 in
theorem maxwait_in (a b c : Int) (v3 v4 v5 v6 v7 v8 v9 v10 v11 v12 v13 v14 : Value) (n : Int) (w : World) (h1 : 1 ≤ a) (h2 : a ≤ 4) (h3 : 1 ≤ c) (h4 : c ≤ b) (h5 : b ≤ 1000000) (h5' : b ≤ 40) (h8 : 0 ≤ n) (h9 : n ≤ 4294967295) :
    Calls Try.prog 6 #[.agg #[.int .i64 a, .int .i64 b, .int .i64 c, v3, v4, v5, v6, v7, v8, v9, v10, v11, v12, v13, v14], .int .u32 n] w fun e w' => e = .returned (.bool true) ∧ Below w.heap.size w w' := by
  obtain ⟨m1, m2, m3⟩ := mul_bd (b := b) h1 h2 (by omega) h5
  obtain ⟨wb1, wb2⟩ := wait_bd h1 h2 h3 h4 h5
  have bd : decide (40 < b) = false := by simp; omega
  go_enter Try.func6, Try.ntmps6
  go_wp2_with fail
  refine (Calls.ext (awake_any _)).mono ?_
  rintro e _ ⟨rfl, y1, rfl⟩
  go_wp2_with fail
  refine (Calls.extq (valid_yes a b c v3 v4 v5 v6 v7 v8 v9 v10 v11 v12 v13 v14 _ h1 h2 h3 h4 h5)).mono ?_
  rintro e _ ⟨rfl, y2, rfl⟩
  go_wp2_with fail
  refine wp_region_extq (by kernel_rfl) (by kernel_rfl) ?_
  repeat (go_big_quiet_step (first | (go_at_call 13; exact Calls.extq_same (cycle_any _ _ h8 h9)) | (go_at_call 19; exact Calls.extq (maxWait_yes a b c v3 v4 v5 v6 v7 v8 v9 v10 v11 v12 v13 v14 _ h1 h2 h3 h4 h5))))
  refine wpQuiet_nil ?_
  rintro _ ⟨x1, rfl⟩
  go_wp2_with fail
  refine wp_region_extq (by kernel_rfl) (by kernel_rfl) ?_
  repeat (go_big_quiet_step (exact Calls.extq (maxTransfer_yes a b c v3 v4 v5 v6 v7 v8 v9 v10 v11 v12 v13 v14 _ h1 h2 h3 h4 h5)))
  refine wpQuiet_nil ?_
  rintro _ ⟨x2, rfl⟩
  generalize hM : (a - 1) * b + c - 1 = M at *
  have HM := Lib.hid hM
  clear hM
  have hM0 : 0 ≤ M := by have := HM.out; omega
  have hM1 : M ≤ 4000000 := by have := HM.out; omega
  go_wp2_with fail
  go_loopw [51] (fun i wr => ∃ q : Nat, (q : Int) ≤ a ∧ i = .int .i64 q ∧ ∃ y : Ext (w.alloc (Obj.cells #[Value.int IntKind.i64 a, Value.int IntKind.i64 b, Value.int IntKind.i64 c, v3, v4, v5, v6, v7, v8, v9, v10, v11, v12, v13, v14] 27)), wr = y.w) (fun i _ => (a - intOf i).toNat)
  case atStart => exact ⟨0, by omega, rfl, x2, rfl⟩
  case round =>
    obtain ⟨q, hq, rfl, y3, rfl⟩ := hrel
    by_cases hlt : (q : Int) < a
    · obtain ⟨z, hz1, hz2, hz3⟩ := wait_occurs (k := q) h1 h2 h3 h4 h5 (by omega) hlt h8
      have HZ := Lib.hid hz3
      clear hz3
      go_wp2_with fail
      go_loopw [8, 9] (fun u i wr => ∃ at' W : Int, n ≤ at' ∧ at' ≤ n + a * b ∧ 0 ≤ W ∧ W ≤ M ∧ (z < at' → W = M) ∧ i = .int .i64 at' ∧ u = .int .i64 W ∧ ∃ y : Ext (w.alloc (Obj.cells #[Value.int IntKind.i64 a, Value.int IntKind.i64 b, Value.int IntKind.i64 c, v3, v4, v5, v6, v7, v8, v9, v10, v11, v12, v13, v14] 27)), wr = y.w) (fun _ i _ => (n + a * b - intOf i).toNat)
      case atStart => exact ⟨n, 0, by omega, by omega, by omega, hM0, by omega, rfl, rfl, _, rfl⟩
      case round =>
        obtain ⟨s, W, hs1, hs2, hW1, hW2, hWz, rfl, rfl, y4, rfl⟩ := hrel
        have HWZ := Lib.hid hWz
        clear hWz
        by_cases hlt2 : s < n + a * b
        · have hb := stt_bd (c := c) (k := q) (t := s) h1 h2 h3 h4 h5 (by omega) hlt (by omega)
          have hw := wait_le (c := c) (k := q) (t := s) h1 h2 h3 h4 h5 (by omega) hlt (by omega)
          have hw' : stt a b c q s - s ≤ M := by have := HM.out; omega
          clear hw
          obtain ⟨hb1, hb2⟩ := hb
          go_wp2_with fail
          refine (Calls.extq (start_yes a b c v3 v4 v5 v6 v7 v8 v9 v10 v11 v12 v13 v14 q s _ h1 h2 h3 h4 h5 (by omega) hlt (by omega) (by omega))).mono ?_
          rintro e _ ⟨rfl, y5, rfl⟩

          generalize hS : stt a b c q s = S at *
          have HS := Lib.hid hS
          clear hS
          have g1 : decide (S - s < 0) = false := by simp; omega
          have g2 : decide (M < S - s) = false := by simp; omega
          have g3 : decide (M + c < S + c - s) = false := by simp; omega
          go_wp2_with fail
          refine wp_region_extq (by kernel_rfl) (by kernel_rfl) ?_
          repeat (go_big_quiet_step (first | (go_at_call 20; exact Calls.extq ((done_yes a b c v3 v4 v5 v6 v7 v8 v9 v10 v11 v12 v13 v14 q s _ h1 h2 h3 h4 h5 (by omega) hlt (by omega) (by omega)).mono fun _ _ ⟨h, k⟩ => ⟨h.trans (ret_int (b := S + c) (by rw [HS.out])), k⟩)) | (go_at_call 18; exact Calls.extq ((maxTransfer_yes a b c v3 v4 v5 v6 v7 v8 v9 v10 v11 v12 v13 v14 _ h1 h2 h3 h4 h5).mono fun _ _ ⟨h, k⟩ => ⟨h.trans (ret_int (b := M + c) (by rw [HM.out])), k⟩))))
          refine wpQuiet_nil ?_
          rintro _ ⟨x3, rfl⟩

          go_wp2
          all_goals
            go_roundw
            case rel => exact ⟨s + 1, _, by omega, by omega, by split <;> omega, by split <;> omega, mw_step HWZ.out (fun he => by have h0 := HZ.out; have h3 := HM.out; have h4 := HS.out; rw [he, h4] at h0; omega) hW2 hw', rfl, rfl, x3, rfl⟩
            case measure => simp [intOf]; omega
        · have hWM : W = M := HWZ.out (by omega)
          subst hWM
          go_wp2
          go_roundw
          case rel => exact ⟨q + 1, by omega, by go_num, y4, rfl⟩
          case measure => simp [intOf]; omega
    · go_wp2
      go_ret
      exact ⟨rfl, Ext.below ((Below.refl _ _).alloc (Nat.le_refl _) _) (by simp) _⟩

set_option maxHeartbeats 2000000 in
theorem maxwait_out (a b c : Int) (v3 v4 v5 v6 v7 v8 v9 v10 v11 v12 v13 v14 : Value) (n : Int) (w : World) (h : vld a b c = false ∨ 40 < b) :
    Calls Try.prog 6 #[.agg #[.int .i64 a, .int .i64 b, .int .i64 c, v3, v4, v5, v6, v7, v8, v9, v10, v11, v12, v13, v14], .int .u32 n] w fun e w' => e = .returned (.bool true) ∧ Below w.heap.size w w' := by
  have H := Lib.hid h
  clear h
  go_enter Try.func6, Try.ntmps6
  go_wp2_with fail
  refine (Calls.ext (awake_any _)).mono ?_
  rintro e _ ⟨rfl, y1, rfl⟩
  go_wp2_with fail
  refine (Calls.extq (valid_any a b c v3 v4 v5 v6 v7 v8 v9 v10 v11 v12 v13 v14 _)).mono ?_
  rintro e _ ⟨rfl, y2, rfl⟩
  by_cases hv : vld a b c = true
  · rw [hv]
    have HV := Lib.hid hv
    clear hv
    have hk : 40 < b := by
      rcases H.out with h | h
      · rw [HV.out] at h; cases h
      · exact h
    go_wp2_with fail
    refine (Calls.extq (awake_any _)).mono ?_
    rintro e _ ⟨rfl, y3, rfl⟩
    go_wp2
    go_ret
    exact ⟨rfl, Ext.below ((Below.refl _ _).alloc (Nat.le_refl _) _) (by simp) _⟩

  · have hv' : vld a b c = false := by simpa using hv
    rw [hv']
    clear hv hv'
    go_wp2_with fail
    refine (Calls.extq (awake_any _)).mono ?_
    rintro e _ ⟨rfl, y3, rfl⟩
    go_wp2
    go_ret
    exact ⟨rfl, Ext.below ((Below.refl _ _).alloc (Nat.le_refl _) _) (by simp) _⟩

theorem maxwait_any (a b c : Int) (v3 v4 v5 v6 v7 v8 v9 v10 v11 v12 v13 v14 : Value) (n : Int) (w : World) (h8 : 0 ≤ n) (h9 : n ≤ 4294967295) :
    Calls Try.prog 6 #[.agg #[.int .i64 a, .int .i64 b, .int .i64 c, v3, v4, v5, v6, v7, v8, v9, v10, v11, v12, v13, v14], .int .u32 n] w fun e w' => e = .returned (.bool true) ∧ Below w.heap.size w w' := by
  by_cases hv : vld a b c = true
  · obtain ⟨h1, h2, h3, h4, h5⟩ := vld_parts hv
    by_cases hb : b ≤ 40
    · exact maxwait_in a b c v3 v4 v5 v6 v7 v8 v9 v10 v11 v12 v13 v14 n w h1 h2 h3 h4 h5 hb h8 h9
    · exact maxwait_out a b c v3 v4 v5 v6 v7 v8 v9 v10 v11 v12 v13 v14 n w (.inr (by omega))
  · exact maxwait_out a b c v3 v4 v5 v6 v7 v8 v9 v10 v11 v12 v13 v14 n w (.inl (by simpa using hv))

set_option maxRecDepth 100000 in
theorem busMaxWait_lifted (os : Os) (started : os.Started) (H : Type) (enc : TypeId × Value → H) :
    ReturnsInHanded {} Try.checked os 6 .any (Rows.busMaxWaitSpec.pre6 enc Try.prog Try.f6 Rows.busMaxWaitRow.domain false) (Rows.busMaxWaitSpec.post enc Try.prog Try.f6 false true false false) := by
  refine returnsInHanded_of_change (C := Try.checked) own started (by kernel_rfl) Try.func6
    (ChangeSpec.witness6 (enc := enc) (C := Try.checked) false ⟨#[], #[.agg #[.int .i64 0, .int .i64 0, .int .i64 0, .int .i64 0, .int .i64 0, .int .i64 0, .int .i64 0, .int .i64 0, .int .i64 0, .int .i64 0, .int .i64 0, .int .i64 0, .int .i64 0, .int .i64 0, .int .i64 0], .int .u32 0], []⟩ 8 (by kernel_rfl) (by kernel_rfl) (by kernel_rfl) (by kernel_rfl)) ?_
  intro W base args ds gs before hval0 hW hcnd _
  have hval : ∀ (j : Nat) t v, Try.f6.params[j]? = some t → args[j]? = some v → Value.okWide Try.prog W .any base t v := hval0
  have hW' := hW
  obtain ⟨p, q, hA0, hV, rfl, hfz, hnd⟩ := hW
  have hA : DataW.TrodAll enc Try.prog W 0 (fun _ => true) true Try.f6.params.toList args.toList ds p := hA0
  rw [Try.params6] at hA hval
  obtain ⟨v0, vs0, d0, ds0, p0, q0, hargs, rfl, rfl, h0, r0⟩ := trodAll_cons hA
  obtain ⟨v1, vs1, d1, ds1, p1, q1, rfl, rfl, rfl, h1, r1⟩ := trodAll_cons r0
  obtain ⟨rfl, rfl, rfl⟩ := trodAll_nil r1
  obtain rfl : args = #[v0, v1] := by cases args; simp_all
  obtain ⟨rfl, rfl⟩ := trodVars_none hV
  have k0 := h0
  have lt0 : ∀ x ∈ p0, x.block < W.heap.size := by obtain ⟨m, hm⟩ := k0; exact DataW.trod_lt m _ _ _ hm
  have ok0 := hval 0 27 v0 rfl rfl
  have k1 := h1
  have lt1 : ∀ x ∈ p1, x.block < W.heap.size := by obtain ⟨m, hm⟩ := k1; exact DataW.trod_lt m _ _ _ hm
  have ok1 := hval 1 28 v1 rfl rfl
  obtain ⟨a, b, c, v3, v4, v5, v6, v7, v8, v9, v10, v11, v12, v13, v14, rfl, wa, wb, wc⟩ := open_cfg ok0 h0
  obtain ⟨a1, rfl, e1, f1, w1⟩ := open_int Try.underlying28 ok1 h1
  clear hA0 hval0
  refine (maxwait_any a b c v3 v4 v5 v6 v7 v8 v9 v10 v11 v12 v13 v14 a1 W (bounds_u32 w1).1 (bounds_u32 w1).2).mono fun e W' ⟨he, bel⟩ => ?_
  subst he
  exact ⟨_, rfl, _, _, _, [], _, [], hW', trodAll_mk1 (shut_bool Try.underlying4 _), (trodAll_cons_mk (Below.trod laidOut (by kernel_rfl) (of_decide_eq_true (by kernel_rfl)) k0 bel lt0) (trodAll_cons_mk (Below.trod laidOut (by kernel_rfl) (of_decide_eq_true (by kernel_rfl)) k1 bel lt1) trodAll_mk0)), rfl, bel.frame _, fun h => by cases h⟩

/-- The statement. -/
theorem busMaxWait_holds : Rows.BusMaxWaitSaid :=
  OpenClaim.holds_of_wide 6 Try.f6 rfl rfl rfl rfl rfl rfl rfl ⟨rfl, rfl, rfl, rfl, rfl⟩ rfl rfl rfl rfl rfl (by kernel_rfl) Try.func6 (by kernel_rfl)
    (of_decide_eq_true (by kernel_rfl)) (by unfold Func.isWrapper; first | (rw [if_pos (by decide +kernel)]; kernel_rfl) | (rw [if_neg (by decide +kernel)]; exact ⟨rfl, rfl⟩))
    (fun os started H enc _ => busMaxWait_lifted os started H enc)

end Go.Proofs.Ytbphlcldbcjncaa
