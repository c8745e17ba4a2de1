/-
  What is proved here: the law BusStart returns true for every input.
-/
import Derived.Test.YtbphlcldbcjncaaAwake
import Derived.Test.YtbphlcldbcjncaaRefs
import Derived.Test.YtbphlcldbcjncaaOpen
import Derived.Test.YtbphlcldbcjncaaLawPeriodic
namespace Go.Proofs.Ytbphlcldbcjncaa
open Go.ChangeShapes Go.WideShapes Go.ChangeAt Go.RowKit

set_option maxHeartbeats 2000000 in
theorem start_law_in (a b c : Int) (v3 v4 v5 v6 v7 v8 v9 v10 v11 v12 v13 v14 : Value) (k n : Int) (w : World) (h1 : 1 ≤ a) (h2 : a ≤ 4) (h3 : 1 ≤ c) (h4 : c ≤ b) (h5 : b ≤ 1000000) (h5' : b ≤ 40) (h6 : 0 ≤ k) (h7 : k < a) (h8 : 0 ≤ n) (h9 : n ≤ 4294967295) :
    Calls Try.prog 8 #[.agg #[.int .i64 a, .int .i64 b, .int .i64 c, v3, v4, v5, v6, v7, v8, v9, v10, v11, v12, v13, v14], .int .i64 k, .int .u32 n] w fun e w' => e = .returned (.bool true) ∧ Below w.heap.size w w' := by
  have kd0 : decide (40 < b) = false := by simp; omega
  have kd1 : decide (k < 0) = false := by simp; omega
  have kd2 : decide (a ≤ k) = false := by simp; omega
  obtain ⟨b1, b2⟩ := stt_bd (c := c) h1 h2 h3 h4 h5 h6 h7 h8
  go_enter Try.func8, Try.ntmps8
  go_wp2_with fail
  refine wp_region_ext (by kernel_rfl) (by kernel_rfl) ?_
  repeat (go_big_quiet_step (first | (go_at_call 11; exact Calls.extq (awake_any _)) | (go_at_call 12; exact Calls.extq (valid_any a b c v3 v4 v5 v6 v7 v8 v9 v10 v11 v12 v13 v14 _)) | (go_at_call 15; exact Calls.extq (rvalid_any a b c v3 v4 v5 v6 v7 v8 v9 v10 v11 v12 v13 v14 _))))
  refine wpQuiet_nil ?_
  rintro _ ⟨x1, rfl⟩
  go_wp2_with fail
  refine (Calls.extq (rvalid_yes a b c v3 v4 v5 v6 v7 v8 v9 v10 v11 v12 v13 v14 _ h1 h2 h3 h4 h5)).mono ?_
  rintro e _ ⟨rfl, y2, rfl⟩
  go_wp2_with fail
  refine (cycle_any n _ h8 h9).mono ?_
  rintro e _ ⟨rfl, rfl⟩
  go_wp2_with fail
  refine (Calls.extq (rstart_any a b c v3 v4 v5 v6 v7 v8 v9 v10 v11 v12 v13 v14 k n _ h1 h2 h3 h4 h5 h6 h7 h8 (by omega))).mono ?_
  rintro e _ ⟨rfl, y3, rfl⟩
  go_wp2_with fail
  refine wp_region_extq (by kernel_rfl) (by kernel_rfl) ?_
  repeat (go_big_quiet_step (first | (go_at_call 22; exact Calls.extq (owner_yes a b c v3 v4 v5 v6 v7 v8 v9 v10 v11 v12 v13 v14 n _ h1 h2 h3 h4 h5 h8 (by omega))) | (go_at_call 23; exact Calls.extq (rowner_any a b c v3 v4 v5 v6 v7 v8 v9 v10 v11 v12 v13 v14 n _ h1 (by omega) h8 (by omega))) | (go_at_call 14; exact Calls.extq (start_yes a b c v3 v4 v5 v6 v7 v8 v9 v10 v11 v12 v13 v14 k n _ h1 h2 h3 h4 h5 h6 h7 h8 (by omega))) | (go_at_call 20; exact Calls.extq (done_yes a b c v3 v4 v5 v6 v7 v8 v9 v10 v11 v12 v13 v14 k n _ h1 h2 h3 h4 h5 h6 h7 h8 (by omega)))))
  refine wpQuiet_nil ?_
  rintro _ ⟨x2, rfl⟩
  go_wp2
  go_ret
  exact ⟨by simp, Ext.below ((Below.refl _ _).alloc (Nat.le_refl _) _) (by simp) _⟩

set_option maxHeartbeats 2000000 in
theorem start_law_out (a b c : Int) (v3 v4 v5 v6 v7 v8 v9 v10 v11 v12 v13 v14 : Value) (k n : Int) (w : World) (h : vld a b c = false ∨ (40 < b ∨ k < 0 ∨ a ≤ k)) :
    Calls Try.prog 8 #[.agg #[.int .i64 a, .int .i64 b, .int .i64 c, v3, v4, v5, v6, v7, v8, v9, v10, v11, v12, v13, v14], .int .i64 k, .int .u32 n] w fun e w' => e = .returned (.bool true) ∧ Below w.heap.size w w' := by
  have H := Lib.hid h
  clear h
  go_enter Try.func8, Try.ntmps8
  go_wp2_with fail
  refine wp_region_ext (by kernel_rfl) (by kernel_rfl) ?_
  repeat (go_big_quiet_step (first | (go_at_call 11; exact Calls.extq (awake_any _)) | (go_at_call 12; exact Calls.extq (valid_any a b c v3 v4 v5 v6 v7 v8 v9 v10 v11 v12 v13 v14 _)) | (go_at_call 15; exact Calls.extq (rvalid_any a b c v3 v4 v5 v6 v7 v8 v9 v10 v11 v12 v13 v14 _))))
  refine wpQuiet_nil ?_
  rintro _ ⟨x1, rfl⟩
  go_wp2_with fail
  refine (Calls.extq (rvalid_any a b c v3 v4 v5 v6 v7 v8 v9 v10 v11 v12 v13 v14 _)).mono ?_
  rintro e _ ⟨rfl, y2, rfl⟩
  by_cases hv : vld a b c = true
  · rw [hv]
    have HV := Lib.hid hv
    clear hv
    have hk : 40 < b ∨ k < 0 ∨ a ≤ k := by
      rcases H.out with h | h
      · rw [HV.out] at h; cases h
      · exact h
    have HK := Lib.hid hk
    clear hk
    by_cases b0 : 40 < b
    · have kd0 : decide (40 < b) = true := by simpa using b0
      go_wp2
      go_ret
      exact ⟨rfl, Ext.below ((Below.refl _ _).alloc (Nat.le_refl _) _) (by simp) _⟩

    · have kd0 : decide (40 < b) = false := by simpa using b0
      by_cases k0 : k < 0
      · have kd1 : decide (k < 0) = true := by simpa using k0
        go_wp2
        go_ret
        exact ⟨rfl, Ext.below ((Below.refl _ _).alloc (Nat.le_refl _) _) (by simp) _⟩

      · have kd1 : decide (k < 0) = false := by simpa using k0
        have kd2 : decide (a ≤ k) = true := by have := HK.out; simp; omega
        go_wp2
        go_ret
        exact ⟨rfl, Ext.below ((Below.refl _ _).alloc (Nat.le_refl _) _) (by simp) _⟩

  · have hv' : vld a b c = false := by simpa using hv
    rw [hv']
    clear hv hv'
    go_wp2
    go_ret
    exact ⟨rfl, Ext.below ((Below.refl _ _).alloc (Nat.le_refl _) _) (by simp) _⟩

theorem start_law_any (a b c : Int) (v3 v4 v5 v6 v7 v8 v9 v10 v11 v12 v13 v14 : Value) (k n : Int) (w : World) (h8 : 0 ≤ n) (h9 : n ≤ 4294967295) :
    Calls Try.prog 8 #[.agg #[.int .i64 a, .int .i64 b, .int .i64 c, v3, v4, v5, v6, v7, v8, v9, v10, v11, v12, v13, v14], .int .i64 k, .int .u32 n] w fun e w' => e = .returned (.bool true) ∧ Below w.heap.size w w' := by
  by_cases h : vld a b c = true ∧ b ≤ 40 ∧ 0 ≤ k ∧ k < a
  · obtain ⟨h, hb, h6, h7⟩ := h
    obtain ⟨h1, h2, h3, h4, h5⟩ := vld_parts h
    exact start_law_in a b c v3 v4 v5 v6 v7 v8 v9 v10 v11 v12 v13 v14 k n w h1 h2 h3 h4 h5 hb h6 h7 h8 h9
  · refine start_law_out a b c v3 v4 v5 v6 v7 v8 v9 v10 v11 v12 v13 v14 k n w ?_
    by_cases hv : vld a b c = true
    · exact .inr (by simp [hv] at h; omega)
    · exact .inl (by simpa using hv)

set_option maxRecDepth 100000 in
theorem busStart_lifted (os : Os) (started : os.Started) (H : Type) (enc : TypeId × Value → H) :
    ReturnsInHanded {} Try.checked os 8 .any (Rows.busStartSpec.pre6 enc Try.prog Try.f8 Rows.busStartRow.domain false) (Rows.busStartSpec.post enc Try.prog Try.f8 false true false false) := by
  refine returnsInHanded_of_change (C := Try.checked) own started (by kernel_rfl) Try.func8
    (ChangeSpec.witness6 (enc := enc) (C := Try.checked) false ⟨#[], #[.agg #[.int .i64 0, .int .i64 0, .int .i64 0, .int .i64 0, .int .i64 0, .int .i64 0, .int .i64 0, .int .i64 0, .int .i64 0, .int .i64 0, .int .i64 0, .int .i64 0, .int .i64 0, .int .i64 0, .int .i64 0], .int .i64 0, .int .u32 0], []⟩ 8 (by kernel_rfl) (by kernel_rfl) (by kernel_rfl) (by kernel_rfl)) ?_
  intro W base args ds gs before hval0 hW hcnd _
  have hval : ∀ (j : Nat) t v, Try.f8.params[j]? = some t → args[j]? = some v → Value.okWide Try.prog W .any base t v := hval0
  have hW' := hW
  obtain ⟨p, q, hA0, hV, rfl, hfz, hnd⟩ := hW
  have hA : DataW.TrodAll enc Try.prog W 0 (fun _ => true) true Try.f8.params.toList args.toList ds p := hA0
  rw [Try.params8] at hA hval
  obtain ⟨v0, vs0, d0, ds0, p0, q0, hargs, rfl, rfl, h0, r0⟩ := trodAll_cons hA
  obtain ⟨v1, vs1, d1, ds1, p1, q1, rfl, rfl, rfl, h1, r1⟩ := trodAll_cons r0
  obtain ⟨v2, vs2, d2, ds2, p2, q2, rfl, rfl, rfl, h2, r2⟩ := trodAll_cons r1
  obtain ⟨rfl, rfl, rfl⟩ := trodAll_nil r2
  obtain rfl : args = #[v0, v1, v2] := by cases args; simp_all
  obtain ⟨rfl, rfl⟩ := trodVars_none hV
  have k0 := h0
  have lt0 : ∀ x ∈ p0, x.block < W.heap.size := by obtain ⟨m, hm⟩ := k0; exact DataW.trod_lt m _ _ _ hm
  have ok0 := hval 0 27 v0 rfl rfl
  have k1 := h1
  have lt1 : ∀ x ∈ p1, x.block < W.heap.size := by obtain ⟨m, hm⟩ := k1; exact DataW.trod_lt m _ _ _ hm
  have ok1 := hval 1 3 v1 rfl rfl
  have k2 := h2
  have lt2 : ∀ x ∈ p2, x.block < W.heap.size := by obtain ⟨m, hm⟩ := k2; exact DataW.trod_lt m _ _ _ hm
  have ok2 := hval 2 28 v2 rfl rfl
  obtain ⟨a, b, c, v3, v4, v5, v6, v7, v8, v9, v10, v11, v12, v13, v14, rfl, wa, wb, wc⟩ := open_cfg ok0 h0
  obtain ⟨a1, rfl, e1, f1, w1⟩ := open_int Try.underlying3 ok1 h1
  obtain ⟨a2, rfl, e2, f2, w2⟩ := open_int Try.underlying28 ok2 h2
  clear hA0 hval0
  refine (start_law_any a b c v3 v4 v5 v6 v7 v8 v9 v10 v11 v12 v13 v14 a1 a2 W (bounds_u32 w2).1 (bounds_u32 w2).2).mono fun e W' ⟨he, bel⟩ => ?_
  subst he
  exact ⟨_, rfl, _, _, _, [], _, [], hW', trodAll_mk1 (shut_bool Try.underlying4 _), (trodAll_cons_mk (Below.trod laidOut (by kernel_rfl) (of_decide_eq_true (by kernel_rfl)) k0 bel lt0) (trodAll_cons_mk (Below.trod laidOut (by kernel_rfl) (of_decide_eq_true (by kernel_rfl)) k1 bel lt1) (trodAll_cons_mk (Below.trod laidOut (by kernel_rfl) (of_decide_eq_true (by kernel_rfl)) k2 bel lt2) trodAll_mk0))), rfl, bel.frame _, fun h => by cases h⟩

/-- The statement. -/
theorem busStart_holds : Rows.BusStartSaid :=
  OpenClaim.holds_of_wide 8 Try.f8 rfl rfl rfl rfl rfl rfl rfl ⟨rfl, rfl, rfl, rfl, rfl⟩ rfl rfl rfl rfl rfl (by kernel_rfl) Try.func8 (by kernel_rfl)
    (of_decide_eq_true (by kernel_rfl)) (by unfold Func.isWrapper; first | (rw [if_pos (by decide +kernel)]; kernel_rfl) | (rw [if_neg (by decide +kernel)]; exact ⟨rfl, rfl⟩))
    (fun os started H enc _ => busStart_lifted os started H enc)

end Go.Proofs.Ytbphlcldbcjncaa
