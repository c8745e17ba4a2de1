/-
  What is proved here: the law BusPeriodic returns true for every input.
-/
import Derived.Test.YtbphlcldbcjncaaAwake
import Derived.Test.YtbphlcldbcjncaaPlain1
import Derived.Test.YtbphlcldbcjncaaOpen
namespace Go.Proofs.Ytbphlcldbcjncaa
open Go.ChangeShapes Go.WideShapes Go.ChangeAt Go.RowKit

theorem vld_parts {a b c : Int} (h : vld a b c = true) : 1 ≤ a ∧ a ≤ 4 ∧ 1 ≤ c ∧ c ≤ b ∧ b ≤ 1000000 := by
  simp [vld] at h; omega

set_option maxHeartbeats 2000000 in
theorem periodic_in (a b c : Int) (v3 v4 v5 v6 v7 v8 v9 v10 v11 v12 v13 v14 : Value) (k n u : Int) (w : World) (h1 : 1 ≤ a) (h2 : a ≤ 4) (h3 : 1 ≤ c) (h4 : c ≤ b) (h5 : b ≤ 1000000) (h6 : 0 ≤ k) (h7 : k < a) (h8 : 0 ≤ n) (h9 : n ≤ 4294967295) (h10 : 0 ≤ u) (h11 : u ≤ 255) :
    Calls Try.prog 3 #[.agg #[.int .i64 a, .int .i64 b, .int .i64 c, v3, v4, v5, v6, v7, v8, v9, v10, v11, v12, v13, v14], .int .i64 k, .int .u32 n, .int .u8 u] w fun e w' => e = .returned (.bool true) ∧ Below w.heap.size w w' := by
  obtain ⟨m1, m2, m3⟩ := mul_bd (b := b) h1 h2 (by omega) h5
  obtain ⟨u1, u2⟩ : 0 ≤ u * (a * b) ∧ u * (a * b) ≤ 1020000000 := by
    have e1 := Int.mul_nonneg h10 (show 0 ≤ a * b by omega)
    have e2 : u * (a * b) ≤ 255 * (a * b) := Int.mul_le_mul_of_nonneg_right h11 (by omega)
    omega
  have b1 := stt_bd h1 h2 h3 h4 h5 h6 h7 h8
  have r1 := Int.emod_nonneg (k + 1) (show a ≠ 0 by omega)
  have r2 := Int.emod_lt_of_pos (k + 1) (show 0 < a by omega)
  have P1 := Lib.hid (stt_period (a := a) (b := b) (c := c) (k := k) (t := n) (n := u) m1)
  have P2 := Lib.hid (stt_next h1 h2 h3 h4 h5 h6 h7 h8)
  go_enter Try.func3, Try.ntmps3
  go_wp2_with fail
  refine (Calls.ext (awake_any _)).mono ?_
  rintro e _ ⟨rfl, y1, rfl⟩
  go_wp2_with fail
  refine (Calls.extq (valid_yes a b c v3 v4 v5 v6 v7 v8 v9 v10 v11 v12 v13 v14 _ h1 h2 h3 h4 h5)).mono ?_
  rintro e _ ⟨rfl, y2, rfl⟩
  go_wp2_with fail
  refine wp_region_extq (by kernel_rfl) (by kernel_rfl) ?_
  repeat (go_big_quiet_step (exact Calls.extq_same (cycle_any n _ h8 h9)))
  refine wpQuiet_nil ?_
  rintro _ ⟨x1, rfl⟩
  go_wp2_with fail
  refine wp_region_extq (by kernel_rfl) (by kernel_rfl) ?_
  repeat (go_big_quiet_step (exact Calls.extq (start_yes _ _ _ _ _ _ _ _ _ _ _ _ _ _ _ _ _ _ h1 h2 h3 h4 h5 h6 h7 (by omega) (by omega))))
  refine wpQuiet_nil ?_
  rintro _ ⟨x2, rfl⟩
  rw [P1.out]
  go_wp2_with fail
  refine wp_region_extq (by kernel_rfl) (by kernel_rfl) ?_
  repeat (go_big_quiet_step (exact Calls.extq (start_yes _ _ _ _ _ _ _ _ _ _ _ _ _ _ _ _ _ _ h1 h2 h3 h4 h5 (by omega) (by omega) (by omega) (by omega))))
  refine wpQuiet_nil ?_
  rintro _ ⟨x3, rfl⟩
  rw [P2.out]
  go_wp2
  go_ret
  exact ⟨by simp, Ext.below ((Below.refl _ _).alloc (Nat.le_refl _) _) (by simp) _⟩

/-! Outside its range a law asks awake once more and returns its answer. -/
set_option maxHeartbeats 2000000 in
theorem periodic_out (a b c : Int) (v3 v4 v5 v6 v7 v8 v9 v10 v11 v12 v13 v14 : Value) (k n u : Int) (w : World) (h : vld a b c = false ∨ (k < 0 ∨ a ≤ k)) :
    Calls Try.prog 3 #[.agg #[.int .i64 a, .int .i64 b, .int .i64 c, v3, v4, v5, v6, v7, v8, v9, v10, v11, v12, v13, v14], .int .i64 k, .int .u32 n, .int .u8 u] w fun e w' => e = .returned (.bool true) ∧ Below w.heap.size w w' := by
  have H := Lib.hid h
  clear h
  go_enter Try.func3, Try.ntmps3
  go_wp2_with fail
  refine (Calls.ext (awake_any _)).mono ?_
  rintro e _ ⟨rfl, y1, rfl⟩
  go_wp2_with fail
  refine (Calls.extq (valid_any a b c v3 v4 v5 v6 v7 v8 v9 v10 v11 v12 v13 v14 _)).mono ?_
  rintro e _ ⟨rfl, y2, rfl⟩
  by_cases hv : vld a b c = true
  · rw [hv]
    have HV := Lib.hid hv
    clear hv
    have hk : k < 0 ∨ a ≤ k := by
      rcases H.out with h | h
      · rw [HV.out] at h; cases h
      · exact h
    by_cases k0 : k < 0
    · go_wp2_with fail
      refine (Calls.extq (awake_any _)).mono ?_
      rintro e _ ⟨rfl, y3, rfl⟩
      go_wp2
      go_ret
      exact ⟨rfl, Ext.below ((Below.refl _ _).alloc (Nat.le_refl _) _) (by simp) _⟩
    · have k1 : a ≤ k := by omega
      clear hk
      go_wp2_with fail
      refine (Calls.extq (awake_any _)).mono ?_
      rintro e _ ⟨rfl, y3, rfl⟩
      go_wp2
      go_ret
      exact ⟨rfl, Ext.below ((Below.refl _ _).alloc (Nat.le_refl _) _) (by simp) _⟩
  · have hv' : vld a b c = false := by simpa using hv
    rw [hv']
    clear hv hv'
    go_wp2_with fail
    refine (Calls.extq (awake_any _)).mono ?_
    rintro e _ ⟨rfl, y3, rfl⟩
    go_wp2
    go_ret
    exact ⟨rfl, Ext.below ((Below.refl _ _).alloc (Nat.le_refl _) _) (by simp) _⟩

theorem periodic_any (a b c : Int) (v3 v4 v5 v6 v7 v8 v9 v10 v11 v12 v13 v14 : Value) (k n u : Int) (w : World) (h8 : 0 ≤ n) (h9 : n ≤ 4294967295) (h10 : 0 ≤ u) (h11 : u ≤ 255) :
    Calls Try.prog 3 #[.agg #[.int .i64 a, .int .i64 b, .int .i64 c, v3, v4, v5, v6, v7, v8, v9, v10, v11, v12, v13, v14], .int .i64 k, .int .u32 n, .int .u8 u] w fun e w' => e = .returned (.bool true) ∧ Below w.heap.size w w' := by
  by_cases h : vld a b c = true ∧ 0 ≤ k ∧ k < a
  · obtain ⟨h, h6, h7⟩ := h
    obtain ⟨h1, h2, h3, h4, h5⟩ := vld_parts h
    exact periodic_in a b c v3 v4 v5 v6 v7 v8 v9 v10 v11 v12 v13 v14 k n u w h1 h2 h3 h4 h5 h6 h7 h8 h9 h10 h11
  · refine periodic_out a b c v3 v4 v5 v6 v7 v8 v9 v10 v11 v12 v13 v14 k n u w ?_
    by_cases hv : vld a b c = true
    · exact .inr (by simp [hv] at h; omega)
    · exact .inl (by simpa using hv)

set_option maxRecDepth 100000 in
theorem busPeriodic_lifted (os : Os) (started : os.Started) (H : Type) (enc : TypeId × Value → H) :
    ReturnsInHanded {} Try.checked os 3 .any (Rows.busPeriodicSpec.pre6 enc Try.prog Try.f3 Rows.busPeriodicRow.domain false) (Rows.busPeriodicSpec.post enc Try.prog Try.f3 false true false false) := by
  refine returnsInHanded_of_change (C := Try.checked) own started (by kernel_rfl) Try.func3
    (ChangeSpec.witness6 (enc := enc) (C := Try.checked) false ⟨#[], #[.agg #[.int .i64 0, .int .i64 0, .int .i64 0, .int .i64 0, .int .i64 0, .int .i64 0, .int .i64 0, .int .i64 0, .int .i64 0, .int .i64 0, .int .i64 0, .int .i64 0, .int .i64 0, .int .i64 0, .int .i64 0], .int .i64 0, .int .u32 0, .int .u8 0], []⟩ 8 (by kernel_rfl) (by kernel_rfl) (by kernel_rfl) (by kernel_rfl)) ?_
  intro W base args ds gs before hval0 hW hcnd _
  have hval : ∀ (j : Nat) t v, Try.f3.params[j]? = some t → args[j]? = some v → Value.okWide Try.prog W .any base t v := hval0
  have hW' := hW
  obtain ⟨p, q, hA0, hV, rfl, hfz, hnd⟩ := hW
  have hA : DataW.TrodAll enc Try.prog W 0 (fun _ => true) true Try.f3.params.toList args.toList ds p := hA0
  rw [Try.params3] at hA hval
  obtain ⟨v0, vs0, d0, ds0, p0, q0, hargs, rfl, rfl, h0, r0⟩ := trodAll_cons hA
  obtain ⟨v1, vs1, d1, ds1, p1, q1, rfl, rfl, rfl, h1, r1⟩ := trodAll_cons r0
  obtain ⟨v2, vs2, d2, ds2, p2, q2, rfl, rfl, rfl, h2, r2⟩ := trodAll_cons r1
  obtain ⟨v3, vs3, d3, ds3, p3, q3, rfl, rfl, rfl, h3, r3⟩ := trodAll_cons r2
  obtain ⟨rfl, rfl, rfl⟩ := trodAll_nil r3
  obtain rfl : args = #[v0, v1, v2, v3] := by cases args; simp_all
  obtain ⟨rfl, rfl⟩ := trodVars_none hV
  have k0 := h0
  have lt0 : ∀ x ∈ p0, x.block < W.heap.size := by obtain ⟨m, hm⟩ := k0; exact DataW.trod_lt m _ _ _ hm
  have ok0 := hval 0 27 v0 rfl rfl
  have k1 := h1
  have lt1 : ∀ x ∈ p1, x.block < W.heap.size := by obtain ⟨m, hm⟩ := k1; exact DataW.trod_lt m _ _ _ hm
  have ok1 := hval 1 3 v1 rfl rfl
  have k2 := h2
  have lt2 : ∀ x ∈ p2, x.block < W.heap.size := by obtain ⟨m, hm⟩ := k2; exact DataW.trod_lt m _ _ _ hm
  have ok2 := hval 2 28 v2 rfl rfl
  have k3 := h3
  have lt3 : ∀ x ∈ p3, x.block < W.heap.size := by obtain ⟨m, hm⟩ := k3; exact DataW.trod_lt m _ _ _ hm
  have ok3 := hval 3 5 v3 rfl rfl
  obtain ⟨a, b, c, v3, v4, v5, v6, v7, v8, v9, v10, v11, v12, v13, v14, rfl, wa, wb, wc⟩ := open_cfg ok0 h0
  obtain ⟨a1, rfl, e1, f1, w1⟩ := open_int Try.underlying3 ok1 h1
  obtain ⟨a2, rfl, e2, f2, w2⟩ := open_int Try.underlying28 ok2 h2
  obtain ⟨a3, rfl, e3, f3, w3⟩ := open_int Try.underlying5 ok3 h3
  clear hA0 hval0
  refine (periodic_any a b c v3 v4 v5 v6 v7 v8 v9 v10 v11 v12 v13 v14 a1 a2 a3 W (bounds_u32 w2).1 (bounds_u32 w2).2 (bounds_u8 w3).1 (bounds_u8 w3).2).mono fun e W' ⟨he, bel⟩ => ?_
  subst he
  exact ⟨_, rfl, _, _, _, [], _, [], hW', trodAll_mk1 (shut_bool Try.underlying4 _), (trodAll_cons_mk (Below.trod laidOut (by kernel_rfl) (of_decide_eq_true (by kernel_rfl)) k0 bel lt0) (trodAll_cons_mk (Below.trod laidOut (by kernel_rfl) (of_decide_eq_true (by kernel_rfl)) k1 bel lt1) (trodAll_cons_mk (Below.trod laidOut (by kernel_rfl) (of_decide_eq_true (by kernel_rfl)) k2 bel lt2) (trodAll_cons_mk (Below.trod laidOut (by kernel_rfl) (of_decide_eq_true (by kernel_rfl)) k3 bel lt3) trodAll_mk0)))), rfl, bel.frame _, fun h => by cases h⟩

/-- The statement. -/
theorem busPeriodic_holds : Rows.BusPeriodicSaid :=
  OpenClaim.holds_of_wide 3 Try.f3 rfl rfl rfl rfl rfl rfl rfl ⟨rfl, rfl, rfl, rfl, rfl⟩ rfl rfl rfl rfl rfl (by kernel_rfl) Try.func3 (by kernel_rfl)
    (of_decide_eq_true (by kernel_rfl)) (by unfold Func.isWrapper; first | (rw [if_pos (by decide +kernel)]; kernel_rfl) | (rw [if_neg (by decide +kernel)]; exact ⟨rfl, rfl⟩))
    (fun os started H enc _ => busPeriodic_lifted os started H enc)

end Go.Proofs.Ytbphlcldbcjncaa
