/-
  What is proved here: the law BusExclusive returns true for every input.
-/
import Derived.Test.YtbphlcldbcjncaaAwake
import Derived.Test.YtbphlcldbcjncaaPlain3
import Derived.Test.YtbphlcldbcjncaaOpen
import Derived.Test.YtbphlcldbcjncaaLawPeriodic
namespace Go.Proofs.Ytbphlcldbcjncaa
open Go.ChangeShapes Go.WideShapes Go.ChangeAt Go.RowKit

set_option maxHeartbeats 2000000 in
theorem exclusive_in (a b c : Int) (v3 v4 v5 v6 v7 v8 v9 v10 v11 v12 v13 v14 : Value) (k j n m : Int) (w : World) (h1 : 1 ≤ a) (h2 : a ≤ 4) (h3 : 1 ≤ c) (h4 : c ≤ b) (h5 : b ≤ 1000000) (h6 : 0 ≤ k) (h7 : k < a) (h6' : 0 ≤ j) (h7' : j < a) (h8 : 0 ≤ n) (h9 : n ≤ 4294967295) (h10 : 0 ≤ m) (h11 : m ≤ 4294967295) :
    Calls Try.prog 10 #[.agg #[.int .i64 a, .int .i64 b, .int .i64 c, v3, v4, v5, v6, v7, v8, v9, v10, v11, v12, v13, v14], .int .i64 k, .int .i64 j, .int .u32 n, .int .u32 m] w fun e w' => e = .returned (.bool true) ∧ Below w.heap.size w w' := by
  obtain ⟨b1, b1'⟩ := stt_bd h1 h2 h3 h4 h5 h6 h7 h8
  obtain ⟨b2, b2'⟩ := stt_bd h1 h2 h3 h4 h5 h6' h7' h10
  have S1 := Lib.hid (stt_slot h1 h2 h3 h4 h5 h6 h7 h8)
  have S2 := Lib.hid (stt_slot h1 h2 h3 h4 h5 h6' h7' h10)
  have kd1 : decide (k < 0) = false := by simp; omega
  have kd2 : decide (j < 0) = false := by simp; omega
  have kd3 : decide (a ≤ k) = false := by simp; omega
  have kd4 : decide (a ≤ j) = false := by simp; omega
  go_enter Try.func10, Try.ntmps10
  go_wp2_with fail
  refine (Calls.ext (awake_any _)).mono ?_
  rintro e _ ⟨rfl, y1, rfl⟩
  go_wp2_with fail
  refine (Calls.extq (valid_yes a b c v3 v4 v5 v6 v7 v8 v9 v10 v11 v12 v13 v14 _ h1 h2 h3 h4 h5)).mono ?_
  rintro e _ ⟨rfl, y2, rfl⟩
  go_wp2_with fail
  refine wp_region_extq (by kernel_rfl) (by kernel_rfl) ?_
  repeat (go_big_quiet_step (first | (go_at_call 13; exact Calls.extq_same (cycle_any _ _ (by omega) (by omega))) | (go_at_call 14; exact Calls.extq (start_yes _ _ _ _ _ _ _ _ _ _ _ _ _ _ _ _ _ _ h1 h2 h3 h4 h5 (by omega) (by omega) (by omega) (by omega)))))
  refine wpQuiet_nil ?_
  rintro _ ⟨x1, rfl⟩
  go_wp2_with fail
  refine wp_region_extq (by kernel_rfl) (by kernel_rfl) ?_
  repeat (go_big_quiet_step (first | (go_at_call 13; exact Calls.extq_same (cycle_any _ _ (by omega) (by omega))) | (go_at_call 20; exact Calls.extq (done_yes _ _ _ _ _ _ _ _ _ _ _ _ _ _ _ _ _ _ h1 h2 h3 h4 h5 (by omega) (by omega) (by omega) (by omega)))))
  refine wpQuiet_nil ?_
  rintro _ ⟨x2, rfl⟩
  generalize hX : stt a b c k n = X at *
  generalize hY : stt a b c j m = Y at *
  clear hX hY
  have hz : w.heap.size < x2.w.heap.size := by simp
  have q1 : X ≤ (X + (X + c)) / 2 := by omega
  have q2 : (X + (X + c)) / 2 < X + c := by omega
  go_wp2_with fail
  go_loopw [16, 74] (fun _ i wr => ∃ q : Nat, q ≤ 3 ∧ i = .int .i64 q ∧ ∃ y : Ext (x2.w.alloc (Obj.cells #[Value.int IntKind.i64 X, Value.int IntKind.i64 ((X + (X + c)) / 2), Value.int IntKind.i64 (X + c - 1)] 3)), wr = y.w) (fun _ i _ => 3 - (intOf i).toNat)
  case atStart => exact ⟨0, by omega, rfl, ⟨_, Below.refl _ _⟩, rfl⟩
  case round =>
    obtain ⟨q, hq, rfl, y, rfl⟩ := hrel
    have hc : q = 0 ∨ q = 1 ∨ q = 2 ∨ q = 3 := by omega
    clear hq
    rcases hc with rfl | rfl | rfl | rfl
    · go_wp2_with fail
      refine (Calls.extq ((owner_yes a b c v3 v4 v5 v6 v7 v8 v9 v10 v11 v12 v13 v14 _ _ h1 h2 h3 h4 h5 (by omega) (by omega)).mono fun _ _ ⟨h, k⟩ => ⟨h.trans (ret_int (owner_in (by omega) S1.out (by omega) (by omega))), k⟩)).mono ?_
      rintro e _ ⟨rfl, y3, rfl⟩
      go_wp2
      go_roundw
      case rel => exact ⟨1, by omega, by go_num, y3, rfl⟩
      case measure => simp [intOf]
    · go_wp2_with fail
      refine (Calls.extq ((owner_yes a b c v3 v4 v5 v6 v7 v8 v9 v10 v11 v12 v13 v14 _ _ h1 h2 h3 h4 h5 (by omega) (by omega)).mono fun _ _ ⟨h, k⟩ => ⟨h.trans (ret_int (owner_in (by omega) S1.out (by omega) (by omega))), k⟩)).mono ?_
      rintro e _ ⟨rfl, y3, rfl⟩
      go_wp2
      go_roundw
      case rel => exact ⟨2, by omega, by go_num, y3, rfl⟩
      case measure => simp [intOf]
    · go_wp2_with fail
      refine (Calls.extq ((owner_yes a b c v3 v4 v5 v6 v7 v8 v9 v10 v11 v12 v13 v14 _ _ h1 h2 h3 h4 h5 (by omega) (by omega)).mono fun _ _ ⟨h, k⟩ => ⟨h.trans (ret_int (owner_in (by omega) S1.out (by omega) (by omega))), k⟩)).mono ?_
      rintro e _ ⟨rfl, y3, rfl⟩
      go_wp2
      go_roundw
      case rel => exact ⟨3, by omega, by go_num, y3, rfl⟩
      case measure => simp [intOf]
    · by_cases hkj : k = j
      · subst hkj
        go_wp2
        go_ret
        exact ⟨by simp, Ext.below ((Ext.below ((Below.refl _ _).alloc (Nat.le_refl _) _) (by simp) _).alloc (by simp) _) (by simp; omega) _⟩
      · have hd := apart (by omega) S1.out S2.out hkj
        have hkj' : (k == j) = false := by simpa using hkj
        clear hkj
        by_cases hd1 : X + c ≤ Y
        · go_wp2
          go_ret
          exact ⟨by simp, Ext.below ((Ext.below ((Below.refl _ _).alloc (Nat.le_refl _) _) (by simp) _).alloc (by simp) _) (by simp; omega) _⟩
        · have hd2 : Y + c ≤ X := by omega
          clear hd
          go_wp2
          go_ret
          exact ⟨by simp, Ext.below ((Ext.below ((Below.refl _ _).alloc (Nat.le_refl _) _) (by simp) _).alloc (by simp) _) (by simp; omega) _⟩


set_option maxHeartbeats 2000000 in
theorem exclusive_out (a b c : Int) (v3 v4 v5 v6 v7 v8 v9 v10 v11 v12 v13 v14 : Value) (k j n m : Int) (w : World) (h : vld a b c = false ∨ (k < 0 ∨ j < 0 ∨ a ≤ k ∨ a ≤ j)) :
    Calls Try.prog 10 #[.agg #[.int .i64 a, .int .i64 b, .int .i64 c, v3, v4, v5, v6, v7, v8, v9, v10, v11, v12, v13, v14], .int .i64 k, .int .i64 j, .int .u32 n, .int .u32 m] w fun e w' => e = .returned (.bool true) ∧ Below w.heap.size w w' := by
  have H := Lib.hid h
  clear h
  go_enter Try.func10, Try.ntmps10
  go_wp2_with fail
  refine (Calls.ext (awake_any _)).mono ?_
  rintro e _ ⟨rfl, y1, rfl⟩
  go_wp2_with fail
  refine (Calls.extq (valid_any a b c v3 v4 v5 v6 v7 v8 v9 v10 v11 v12 v13 v14 _)).mono ?_
  rintro e _ ⟨rfl, y2, rfl⟩
  by_cases hv : vld a b c = true
  · rw [hv]
    have HV := Lib.hid hv
    clear hv
    have hk : k < 0 ∨ j < 0 ∨ a ≤ k ∨ a ≤ j := by
      rcases H.out with h | h
      · rw [HV.out] at h; cases h
      · exact h
    have HK := Lib.hid hk
    clear hk
    by_cases k0 : k < 0
    · have kd1 : decide (k < 0) = true := by simpa using k0
      go_wp2_with fail
      refine (Calls.extq (awake_any _)).mono ?_
      rintro e _ ⟨rfl, y3, rfl⟩
      go_wp2
      go_ret
      exact ⟨rfl, Ext.below ((Below.refl _ _).alloc (Nat.le_refl _) _) (by simp) _⟩

    · have kd1 : decide (k < 0) = false := by simpa using k0
      by_cases j0 : j < 0
      · have kd2 : decide (j < 0) = true := by simpa using j0
        go_wp2_with fail
        refine (Calls.extq (awake_any _)).mono ?_
        rintro e _ ⟨rfl, y3, rfl⟩
        go_wp2
        go_ret
        exact ⟨rfl, Ext.below ((Below.refl _ _).alloc (Nat.le_refl _) _) (by simp) _⟩

      · have kd2 : decide (j < 0) = false := by simpa using j0
        by_cases k1 : a ≤ k
        · have kd3 : decide (a ≤ k) = true := by simpa using k1
          go_wp2_with fail
          refine (Calls.extq (awake_any _)).mono ?_
          rintro e _ ⟨rfl, y3, rfl⟩
          go_wp2
          go_ret
          exact ⟨rfl, Ext.below ((Below.refl _ _).alloc (Nat.le_refl _) _) (by simp) _⟩

        · have kd3 : decide (a ≤ k) = false := by simpa using k1
          have kd4 : decide (a ≤ j) = true := by have := HK.out; simp; omega
          go_wp2_with fail
          refine (Calls.extq (awake_any _)).mono ?_
          rintro e _ ⟨rfl, y3, rfl⟩
          go_wp2
          go_ret
          exact ⟨rfl, Ext.below ((Below.refl _ _).alloc (Nat.le_refl _) _) (by simp) _⟩

  · have hv' : vld a b c = false := by simpa using hv
    rw [hv']
    clear hv hv'
    go_wp2_with fail
    refine (Calls.extq (awake_any _)).mono ?_
    rintro e _ ⟨rfl, y3, rfl⟩
    go_wp2
    go_ret
    exact ⟨rfl, Ext.below ((Below.refl _ _).alloc (Nat.le_refl _) _) (by simp) _⟩

theorem exclusive_any (a b c : Int) (v3 v4 v5 v6 v7 v8 v9 v10 v11 v12 v13 v14 : Value) (k j n m : Int) (w : World) (h8 : 0 ≤ n) (h9 : n ≤ 4294967295) (h10 : 0 ≤ m) (h11 : m ≤ 4294967295) :
    Calls Try.prog 10 #[.agg #[.int .i64 a, .int .i64 b, .int .i64 c, v3, v4, v5, v6, v7, v8, v9, v10, v11, v12, v13, v14], .int .i64 k, .int .i64 j, .int .u32 n, .int .u32 m] w fun e w' => e = .returned (.bool true) ∧ Below w.heap.size w w' := by
  by_cases h : vld a b c = true ∧ 0 ≤ k ∧ k < a ∧ 0 ≤ j ∧ j < a
  · obtain ⟨h, h6, h7, h6', h7'⟩ := h
    obtain ⟨h1, h2, h3, h4, h5⟩ := vld_parts h
    exact exclusive_in a b c v3 v4 v5 v6 v7 v8 v9 v10 v11 v12 v13 v14 k j n m w h1 h2 h3 h4 h5 h6 h7 h6' h7' h8 h9 h10 h11
  · refine exclusive_out a b c v3 v4 v5 v6 v7 v8 v9 v10 v11 v12 v13 v14 k j n m w ?_
    by_cases hv : vld a b c = true
    · exact .inr (by simp [hv] at h; omega)
    · exact .inl (by simpa using hv)

set_option maxRecDepth 100000 in
theorem busExclusive_lifted (os : Os) (started : os.Started) (H : Type) (enc : TypeId × Value → H) :
    ReturnsInHanded {} Try.checked os 10 .any (Rows.busExclusiveSpec.pre6 enc Try.prog Try.f10 Rows.busExclusiveRow.domain false) (Rows.busExclusiveSpec.post enc Try.prog Try.f10 false true false false) := by
  refine returnsInHanded_of_change (C := Try.checked) own started (by kernel_rfl) Try.func10
    (ChangeSpec.witness6 (enc := enc) (C := Try.checked) false ⟨#[], #[.agg #[.int .i64 0, .int .i64 0, .int .i64 0, .int .i64 0, .int .i64 0, .int .i64 0, .int .i64 0, .int .i64 0, .int .i64 0, .int .i64 0, .int .i64 0, .int .i64 0, .int .i64 0, .int .i64 0, .int .i64 0], .int .i64 0, .int .i64 0, .int .u32 0, .int .u32 0], []⟩ 8 (by kernel_rfl) (by kernel_rfl) (by kernel_rfl) (by kernel_rfl)) ?_
  intro W base args ds gs before hval0 hW hcnd _
  have hval : ∀ (j : Nat) t v, Try.f10.params[j]? = some t → args[j]? = some v → Value.okWide Try.prog W .any base t v := hval0
  have hW' := hW
  obtain ⟨p, q, hA0, hV, rfl, hfz, hnd⟩ := hW
  have hA : DataW.TrodAll enc Try.prog W 0 (fun _ => true) true Try.f10.params.toList args.toList ds p := hA0
  rw [Try.params10] at hA hval
  obtain ⟨v0, vs0, d0, ds0, p0, q0, hargs, rfl, rfl, h0, r0⟩ := trodAll_cons hA
  obtain ⟨v1, vs1, d1, ds1, p1, q1, rfl, rfl, rfl, h1, r1⟩ := trodAll_cons r0
  obtain ⟨v2, vs2, d2, ds2, p2, q2, rfl, rfl, rfl, h2, r2⟩ := trodAll_cons r1
  obtain ⟨v3, vs3, d3, ds3, p3, q3, rfl, rfl, rfl, h3, r3⟩ := trodAll_cons r2
  obtain ⟨v4, vs4, d4, ds4, p4, q4, rfl, rfl, rfl, h4, r4⟩ := trodAll_cons r3
  obtain ⟨rfl, rfl, rfl⟩ := trodAll_nil r4
  obtain rfl : args = #[v0, v1, v2, v3, v4] := by cases args; simp_all
  obtain ⟨rfl, rfl⟩ := trodVars_none hV
  have k0 := h0
  have lt0 : ∀ x ∈ p0, x.block < W.heap.size := by obtain ⟨m, hm⟩ := k0; exact DataW.trod_lt m _ _ _ hm
  have ok0 := hval 0 27 v0 rfl rfl
  have k1 := h1
  have lt1 : ∀ x ∈ p1, x.block < W.heap.size := by obtain ⟨m, hm⟩ := k1; exact DataW.trod_lt m _ _ _ hm
  have ok1 := hval 1 3 v1 rfl rfl
  have k2 := h2
  have lt2 : ∀ x ∈ p2, x.block < W.heap.size := by obtain ⟨m, hm⟩ := k2; exact DataW.trod_lt m _ _ _ hm
  have ok2 := hval 2 3 v2 rfl rfl
  have k3 := h3
  have lt3 : ∀ x ∈ p3, x.block < W.heap.size := by obtain ⟨m, hm⟩ := k3; exact DataW.trod_lt m _ _ _ hm
  have ok3 := hval 3 28 v3 rfl rfl
  have k4 := h4
  have lt4 : ∀ x ∈ p4, x.block < W.heap.size := by obtain ⟨m, hm⟩ := k4; exact DataW.trod_lt m _ _ _ hm
  have ok4 := hval 4 28 v4 rfl rfl
  obtain ⟨a, b, c, v3, v4, v5, v6, v7, v8, v9, v10, v11, v12, v13, v14, rfl, wa, wb, wc⟩ := open_cfg ok0 h0
  obtain ⟨a1, rfl, e1, f1, w1⟩ := open_int Try.underlying3 ok1 h1
  obtain ⟨a2, rfl, e2, f2, w2⟩ := open_int Try.underlying3 ok2 h2
  obtain ⟨a3, rfl, e3, f3, w3⟩ := open_int Try.underlying28 ok3 h3
  obtain ⟨a4, rfl, e4, f4, w4⟩ := open_int Try.underlying28 ok4 h4
  clear hA0 hval0
  refine (exclusive_any a b c v3 v4 v5 v6 v7 v8 v9 v10 v11 v12 v13 v14 a1 a2 a3 a4 W (bounds_u32 w3).1 (bounds_u32 w3).2 (bounds_u32 w4).1 (bounds_u32 w4).2).mono fun e W' ⟨he, bel⟩ => ?_
  subst he
  exact ⟨_, rfl, _, _, _, [], _, [], hW', trodAll_mk1 (shut_bool Try.underlying4 _), (trodAll_cons_mk (Below.trod laidOut (by kernel_rfl) (of_decide_eq_true (by kernel_rfl)) k0 bel lt0) (trodAll_cons_mk (Below.trod laidOut (by kernel_rfl) (of_decide_eq_true (by kernel_rfl)) k1 bel lt1) (trodAll_cons_mk (Below.trod laidOut (by kernel_rfl) (of_decide_eq_true (by kernel_rfl)) k2 bel lt2) (trodAll_cons_mk (Below.trod laidOut (by kernel_rfl) (of_decide_eq_true (by kernel_rfl)) k3 bel lt3) (trodAll_cons_mk (Below.trod laidOut (by kernel_rfl) (of_decide_eq_true (by kernel_rfl)) k4 bel lt4) trodAll_mk0))))), rfl, bel.frame _, fun h => by cases h⟩

/-- The statement. -/
theorem busExclusive_holds : Rows.BusExclusiveSaid :=
  OpenClaim.holds_of_wide 10 Try.f10 rfl rfl rfl rfl rfl rfl rfl ⟨rfl, rfl, rfl, rfl, rfl⟩ rfl rfl rfl rfl rfl (by kernel_rfl) Try.func10 (by kernel_rfl)
    (of_decide_eq_true (by kernel_rfl)) (by unfold Func.isWrapper; first | (rw [if_pos (by decide +kernel)]; kernel_rfl) | (rw [if_neg (by decide +kernel)]; exact ⟨rfl, rfl⟩))
    (fun os started H enc _ => busExclusive_lifted os started H enc)

end Go.Proofs.Ytbphlcldbcjncaa
