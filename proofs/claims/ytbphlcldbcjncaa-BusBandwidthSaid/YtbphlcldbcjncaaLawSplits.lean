/-
  What is proved here: the law BusSplits returns true for every input.
-/
import Derived.Test.YtbphlcldbcjncaaAwake
import Derived.Test.YtbphlcldbcjncaaPlain6
import Derived.Test.YtbphlcldbcjncaaOpen
import Derived.Test.YtbphlcldbcjncaaLawPeriodic
namespace Go.Proofs.Ytbphlcldbcjncaa
open Go.ChangeShapes Go.WideShapes Go.ChangeAt Go.RowKit

theorem bw_ub {p b c k f t : Int} (hc : 1 ≤ c) (hb : 0 ≤ b) (hb' : b ≤ 1000000) (hp : 1 ≤ p) (hf : 0 ≤ f) (ht : t ≤ 1099511627776) : bw p b c k f t ≤ 1099511629776000000 := by
  have c1 := cntw_bd (p := p) (k := k) (f := f) (t := t) (n := f / p) hb hc
  have c2 := cntw_bd (p := p) (k := k) (f := f) (t := t) (n := t / p) hb hc
  have q := quo_bd hb hc
  have f0 : 0 ≤ f / p := Int.ediv_nonneg hf (by omega)
  unfold bw
  split
  · omega
  · rename_i hlt
    have t0 : 0 ≤ t := by
      rcases Int.lt_or_le t 0 with h | h
      · have := Int.ediv_neg_of_neg_of_pos h (show 0 < p by omega); omega
      · exact h
    have t1 := Int.ediv_le_self p t0
    have := prod_bd (x := t / p - f / p - 1) (y := b / c) (by omega) (by omega) (by omega) (by omega)
    omega

theorem band_any (a b c : Int) (v3 v4 v5 v6 v7 v8 v9 v10 v11 v12 v13 v14 : Value) (k f t : Int) (N : Nat) (w : World) (h1 : 1 ≤ a) (h2 : a ≤ 4) (h3 : 1 ≤ c) (h4 : c ≤ b) (h5 : b ≤ 1000000) (h6 : 0 ≤ k) (h7 : k < a) (h8 : 0 ≤ f) (h9 : f ≤ 1099511627776) (h10 : 0 ≤ t) (h11 : t ≤ 1099511627776) (hN : t / (a * b) < N) :
    Calls Try.prog 16 #[.agg #[.int .i64 a, .int .i64 b, .int .i64 c, v3, v4, v5, v6, v7, v8, v9, v10, v11, v12, v13, v14], .int .i64 k, .int .i64 f, .int .i64 t] w fun e w' => e = .returned (.int .i64 (bs (a * b) b c k f t N)) ∧ Below w.heap.size w w' := by
  obtain ⟨k1, k2⟩ := core_bd (a := a) (b := b) (by omega) h6 h7
  by_cases hft : f < t
  · exact (band_yes a b c v3 v4 v5 v6 v7 v8 v9 v10 v11 v12 v13 v14 k f t w h1 h2 h3 h4 h5 h6 h7 h8 h9 hft h11).mono fun _ _ ⟨h, k⟩ => ⟨h.trans (ret_int (bw_sum h3 h4 k1 k2 h8 (by omega) hN)), k⟩
  · exact (band_zero a b c v3 v4 v5 v6 v7 v8 v9 v10 v11 v12 v13 v14 k f t w h1 h2 h3 h4 h5 h6 h7 h8 h9 (by omega) h10).mono fun _ _ ⟨h, k⟩ => ⟨h.trans (ret_int (bs_empty h3 (by omega) N).symm), k⟩

set_option maxHeartbeats 4000000 in
theorem splits_in (a b c : Int) (v3 v4 v5 v6 v7 v8 v9 v10 v11 v12 v13 v14 : Value) (k n u x : Int) (w : World) (h1 : 1 ≤ a) (h2 : a ≤ 4) (h3 : 1 ≤ c) (h4 : c ≤ b) (h5 : b ≤ 1000000) (h6 : 0 ≤ k) (h7 : k < a) (h8 : 0 ≤ n) (h9 : n ≤ 4294967295) (h10 : 0 ≤ u) (h11 : u ≤ 65535) (h12 : 0 ≤ x) (h13 : x ≤ 65535) :
    Calls Try.prog 5 #[.agg #[.int .i64 a, .int .i64 b, .int .i64 c, v3, v4, v5, v6, v7, v8, v9, v10, v11, v12, v13, v14], .int .i64 k, .int .u32 n, .int .u16 u, .int .u16 x] w fun e w' => e = .returned (.bool true) ∧ Below w.heap.size w w' := by
  obtain ⟨m1, m2, m3⟩ := mul_bd (b := b) h1 h2 (by omega) h5
  obtain ⟨k1, k2⟩ := core_bd (a := a) (b := b) (by omega) h6 h7
  obtain ⟨d1, d2, d3, d4, d5⟩ := div_bd h8 m1
  obtain ⟨wb1, wb2⟩ := wait_bd h1 h2 h3 h4 h5
  obtain ⟨q1, q2⟩ := quo_bd (show 0 ≤ b by omega) h3
  have kd1 : decide (k < 0) = false := by simp; omega
  have kd2 : decide (a ≤ k) = false := by simp; omega
  obtain ⟨N, hN⟩ : ∃ N : Nat, (n + u + x) / (a * b) < N := ⟨((n + u + x) / (a * b) + 1).toNat, by have := Int.self_le_toNat ((n + u + x) / (a * b) + 1); omega⟩
  have hN1 : (n + u) / (a * b) < N := by have := div_mono (show n + u ≤ n + u + x by omega) m1; omega
  obtain ⟨s1, s2⟩ := bs_split (p := a * b) (b := b) (c := c) (k := k) (f := n) (u := n + u) (t := n + u + x) (N := N) h3 h4 k1 k2 h8 (by omega) (by omega) hN
  have z1 := bs_nonneg (p := a * b) (b := b) (c := c) (k := k) (f := n) (t := n + u) (N := N) (by omega) h3
  have z2 := bs_nonneg (p := a * b) (b := b) (c := c) (k := k) (f := n + u) (t := n + u + x) (N := N) (by omega) h3
  have R := Lib.hid (bw_round (p := a * b) (b := b) (c := c) (k := k) (m := n / (a * b)) h3 h4 k1 k2)
  obtain ⟨M, hM⟩ : ∃ M : Nat, (n + ((a - 1) * b + c - 1 + c)) / (a * b) < M := ⟨((n + ((a - 1) * b + c - 1 + c)) / (a * b) + 1).toNat, by have := Int.self_le_toNat ((n + ((a - 1) * b + c - 1 + c)) / (a * b) + 1); omega⟩
  have l1 : 1 ≤ bs (a * b) b c k n (n + ((a - 1) * b + c - 1 + c)) M := by
    have hw := wait_le (c := c) (k := k) (t := n) h1 h2 h3 h4 h5 h6 h7 h8
    rw [bs_rec h1 h2 h3 h4 h5 h6 h7 h8 (by omega) hM, if_pos (by omega)]
    have := bs_nonneg (p := a * b) (b := b) (c := c) (k := k) (f := stt a b c k n + c) (t := n + ((a - 1) * b + c - 1 + c)) (N := M) (by omega) h3
    omega
  have bz : ∀ X Y : Int, 0 ≤ X → X ≤ 1099511627776 → Y ≤ X → 0 ≤ Y → ∀ w, Calls Try.prog 16 #[.agg #[.int .i64 a, .int .i64 b, .int .i64 c, v3, v4, v5, v6, v7, v8, v9, v10, v11, v12, v13, v14], .int .i64 k, .int .i64 X, .int .i64 Y] w fun e w' => e = .returned (.int .i64 0) ∧ Below w.heap.size w w' :=
    fun X Y g1 g2 g3 g4 w => band_zero a b c v3 v4 v5 v6 v7 v8 v9 v10 v11 v12 v13 v14 k X Y w h1 h2 h3 h4 h5 h6 h7 g1 g2 g3 g4
  have BZ := Lib.hid bz
  have HN := Lib.hid hN
  have HN1 := Lib.hid hN1
  have HM := Lib.hid hM
  generalize hL : bs (a * b) b c k n (n + ((a - 1) * b + c - 1 + c)) M = L at *
  have HL := Lib.hid hL
  clear hL
  clear bz hN hN1 hM
  have ub : bs (a * b) b c k n (n + u + x) N ≤ 1099511629776000000 := by
    rw [← bw_sum h3 h4 k1 k2 h8 (by omega) HN.out]
    exact bw_ub h3 (by omega) h5 m1 h8 (by omega)
  go_enter Try.func5, Try.ntmps5
  go_wp2_with fail
  refine (Calls.ext (awake_any _)).mono ?_
  rintro e _ ⟨rfl, y1, rfl⟩
  go_wp2_with fail
  refine (Calls.extq (valid_yes a b c v3 v4 v5 v6 v7 v8 v9 v10 v11 v12 v13 v14 _ h1 h2 h3 h4 h5)).mono ?_
  rintro e _ ⟨rfl, y2, rfl⟩
  go_wp2_with fail
  refine (cycle_any n _ h8 h9).mono ?_
  rintro e _ ⟨rfl, rfl⟩
  go_wp2_with fail
  refine wp_region_extq (by kernel_rfl) (by kernel_rfl) ?_
  repeat (go_big_quiet_step (exact Calls.extq (band_any a b c v3 v4 v5 v6 v7 v8 v9 v10 v11 v12 v13 v14 k _ _ N _ h1 h2 h3 h4 h5 h6 h7 (by omega) (by omega) (by omega) (by omega) (by first | exact HN1.out | exact HN.out))))
  refine wpQuiet_nil ?_
  rintro _ ⟨x1, rfl⟩
  as_aux_lemma =>
    generalize bs (a * b) b c k n (n + u) N = X at *
    generalize bs (a * b) b c k (n + u) (n + u + x) N = Y at *
    generalize bs (a * b) b c k n (n + u + x) N = Z at *
    go_wp2_with fail
    refine wp_region_extq (by kernel_rfl) (by kernel_rfl) ?_
    repeat (go_big_quiet_step (exact Calls.extq ((band_yes a b c v3 v4 v5 v6 v7 v8 v9 v10 v11 v12 v13 v14 k (n / (a * b) * (a * b)) (n / (a * b) * (a * b) + a * b) _ h1 h2 h3 h4 h5 h6 h7 (by omega) (by omega) (by omega) (by omega)).mono fun _ _ ⟨h, k⟩ => ⟨h.trans (ret_int R.out), k⟩)))
    refine wpQuiet_nil ?_
    rintro _ ⟨x2, rfl⟩
    as_aux_lemma =>
      go_wp2_with fail
      refine wp_region_extq (by kernel_rfl) (by kernel_rfl) ?_
      repeat (go_big_quiet_step (first | (go_at_call 18; exact Calls.extq (maxTransfer_yes a b c v3 v4 v5 v6 v7 v8 v9 v10 v11 v12 v13 v14 _ h1 h2 h3 h4 h5)) | (with_reducible exact Calls.extq ((band_any a b c v3 v4 v5 v6 v7 v8 v9 v10 v11 v12 v13 v14 k n (n + ((a - 1) * b + c - 1 + c)) M _ h1 h2 h3 h4 h5 h6 h7 (by omega) (by omega) (by omega) (by omega) HM.out).mono fun _ _ ⟨h, k⟩ => ⟨h.trans (ret_int HL.out), k⟩)) | (with_reducible exact Calls.extq (BZ.out (n + u + x) n (by omega) (by omega) (by omega) (by omega) _))))
      refine wpQuiet_nil ?_
      rintro _ ⟨x3, rfl⟩
      go_wp2
      go_ret
      exact ⟨by simp, Ext.below ((Below.refl _ _).alloc (Nat.le_refl _) _) (by simp) _⟩

set_option maxHeartbeats 2000000 in
theorem splits_out (a b c : Int) (v3 v4 v5 v6 v7 v8 v9 v10 v11 v12 v13 v14 : Value) (k n u x : Int) (w : World) (h : vld a b c = false ∨ (k < 0 ∨ a ≤ k)) :
    Calls Try.prog 5 #[.agg #[.int .i64 a, .int .i64 b, .int .i64 c, v3, v4, v5, v6, v7, v8, v9, v10, v11, v12, v13, v14], .int .i64 k, .int .u32 n, .int .u16 u, .int .u16 x] w fun e w' => e = .returned (.bool true) ∧ Below w.heap.size w w' := by
  have H := Lib.hid h
  clear h
  go_enter Try.func5, Try.ntmps5
  go_wp2_with fail
  refine (Calls.ext (awake_any _)).mono ?_
  rintro e _ ⟨rfl, y1, rfl⟩
  go_wp2_with fail
  refine (Calls.extq (valid_any a b c v3 v4 v5 v6 v7 v8 v9 v10 v11 v12 v13 v14 _)).mono ?_
  rintro e _ ⟨rfl, y2, rfl⟩
  by_cases hv : vld a b c = true
  · rw [hv]
    have HV := Lib.hid hv
    clear hv
    have hk : k < 0 ∨ a ≤ k := by
      rcases H.out with h | h
      · rw [HV.out] at h; cases h
      · exact h
    by_cases k0 : k < 0
    · go_wp2_with fail
      refine (Calls.extq (awake_any _)).mono ?_
      rintro e _ ⟨rfl, y3, rfl⟩
      go_wp2
      go_ret
      exact ⟨rfl, Ext.below ((Below.refl _ _).alloc (Nat.le_refl _) _) (by simp) _⟩

    · have k1 : a ≤ k := by omega
      clear hk
      go_wp2_with fail
      refine (Calls.extq (awake_any _)).mono ?_
      rintro e _ ⟨rfl, y3, rfl⟩
      go_wp2
      go_ret
      exact ⟨rfl, Ext.below ((Below.refl _ _).alloc (Nat.le_refl _) _) (by simp) _⟩

  · have hv' : vld a b c = false := by simpa using hv
    rw [hv']
    clear hv hv'
    go_wp2_with fail
    refine (Calls.extq (awake_any _)).mono ?_
    rintro e _ ⟨rfl, y3, rfl⟩
    go_wp2
    go_ret
    exact ⟨rfl, Ext.below ((Below.refl _ _).alloc (Nat.le_refl _) _) (by simp) _⟩

theorem splits_any (a b c : Int) (v3 v4 v5 v6 v7 v8 v9 v10 v11 v12 v13 v14 : Value) (k n u x : Int) (w : World) (h8 : 0 ≤ n) (h9 : n ≤ 4294967295) (h10 : 0 ≤ u) (h11 : u ≤ 65535) (h12 : 0 ≤ x) (h13 : x ≤ 65535) :
    Calls Try.prog 5 #[.agg #[.int .i64 a, .int .i64 b, .int .i64 c, v3, v4, v5, v6, v7, v8, v9, v10, v11, v12, v13, v14], .int .i64 k, .int .u32 n, .int .u16 u, .int .u16 x] w fun e w' => e = .returned (.bool true) ∧ Below w.heap.size w w' := by
  by_cases h : vld a b c = true ∧ 0 ≤ k ∧ k < a
  · obtain ⟨h, h6, h7⟩ := h
    obtain ⟨h1, h2, h3, h4, h5⟩ := vld_parts h
    exact splits_in a b c v3 v4 v5 v6 v7 v8 v9 v10 v11 v12 v13 v14 k n u x w h1 h2 h3 h4 h5 h6 h7 h8 h9 h10 h11 h12 h13
  · refine splits_out a b c v3 v4 v5 v6 v7 v8 v9 v10 v11 v12 v13 v14 k n u x w ?_
    by_cases hv : vld a b c = true
    · exact .inr (by simp [hv] at h; omega)
    · exact .inl (by simpa using hv)

set_option maxRecDepth 100000 in
theorem busSplits_lifted (os : Os) (started : os.Started) (H : Type) (enc : TypeId × Value → H) :
    ReturnsInHanded {} Try.checked os 5 .any (Rows.busSplitsSpec.pre6 enc Try.prog Try.f5 Rows.busSplitsRow.domain false) (Rows.busSplitsSpec.post enc Try.prog Try.f5 false true false false) := by
  refine returnsInHanded_of_change (C := Try.checked) own started (by kernel_rfl) Try.func5
    (ChangeSpec.witness6 (enc := enc) (C := Try.checked) false ⟨#[], #[.agg #[.int .i64 0, .int .i64 0, .int .i64 0, .int .i64 0, .int .i64 0, .int .i64 0, .int .i64 0, .int .i64 0, .int .i64 0, .int .i64 0, .int .i64 0, .int .i64 0, .int .i64 0, .int .i64 0, .int .i64 0], .int .i64 0, .int .u32 0, .int .u16 0, .int .u16 0], []⟩ 8 (by kernel_rfl) (by kernel_rfl) (by kernel_rfl) (by kernel_rfl)) ?_
  intro W base args ds gs before hval0 hW hcnd _
  have hval : ∀ (j : Nat) t v, Try.f5.params[j]? = some t → args[j]? = some v → Value.okWide Try.prog W .any base t v := hval0
  have hW' := hW
  obtain ⟨p, q, hA0, hV, rfl, hfz, hnd⟩ := hW
  have hA : DataW.TrodAll enc Try.prog W 0 (fun _ => true) true Try.f5.params.toList args.toList ds p := hA0
  rw [Try.params5] at hA hval
  obtain ⟨v0, vs0, d0, ds0, p0, q0, hargs, rfl, rfl, h0, r0⟩ := trodAll_cons hA
  obtain ⟨v1, vs1, d1, ds1, p1, q1, rfl, rfl, rfl, h1, r1⟩ := trodAll_cons r0
  obtain ⟨v2, vs2, d2, ds2, p2, q2, rfl, rfl, rfl, h2, r2⟩ := trodAll_cons r1
  obtain ⟨v3, vs3, d3, ds3, p3, q3, rfl, rfl, rfl, h3, r3⟩ := trodAll_cons r2
  obtain ⟨v4, vs4, d4, ds4, p4, q4, rfl, rfl, rfl, h4, r4⟩ := trodAll_cons r3
  obtain ⟨rfl, rfl, rfl⟩ := trodAll_nil r4
  obtain rfl : args = #[v0, v1, v2, v3, v4] := by cases args; simp_all
  obtain ⟨rfl, rfl⟩ := trodVars_none hV
  have k0 := h0
  have lt0 : ∀ x ∈ p0, x.block < W.heap.size := by obtain ⟨m, hm⟩ := k0; exact DataW.trod_lt m _ _ _ hm
  have ok0 := hval 0 27 v0 rfl rfl
  have k1 := h1
  have lt1 : ∀ x ∈ p1, x.block < W.heap.size := by obtain ⟨m, hm⟩ := k1; exact DataW.trod_lt m _ _ _ hm
  have ok1 := hval 1 3 v1 rfl rfl
  have k2 := h2
  have lt2 : ∀ x ∈ p2, x.block < W.heap.size := by obtain ⟨m, hm⟩ := k2; exact DataW.trod_lt m _ _ _ hm
  have ok2 := hval 2 28 v2 rfl rfl
  have k3 := h3
  have lt3 : ∀ x ∈ p3, x.block < W.heap.size := by obtain ⟨m, hm⟩ := k3; exact DataW.trod_lt m _ _ _ hm
  have ok3 := hval 3 34 v3 rfl rfl
  have k4 := h4
  have lt4 : ∀ x ∈ p4, x.block < W.heap.size := by obtain ⟨m, hm⟩ := k4; exact DataW.trod_lt m _ _ _ hm
  have ok4 := hval 4 34 v4 rfl rfl
  obtain ⟨a, b, c, v3, v4, v5, v6, v7, v8, v9, v10, v11, v12, v13, v14, rfl, wa, wb, wc⟩ := open_cfg ok0 h0
  obtain ⟨a1, rfl, e1, f1, w1⟩ := open_int Try.underlying3 ok1 h1
  obtain ⟨a2, rfl, e2, f2, w2⟩ := open_int Try.underlying28 ok2 h2
  obtain ⟨a3, rfl, e3, f3, w3⟩ := open_int Try.underlying34 ok3 h3
  obtain ⟨a4, rfl, e4, f4, w4⟩ := open_int Try.underlying34 ok4 h4
  clear hA0 hval0
  refine (splits_any a b c v3 v4 v5 v6 v7 v8 v9 v10 v11 v12 v13 v14 a1 a2 a3 a4 W (bounds_u32 w2).1 (bounds_u32 w2).2 (bounds_u16 w3).1 (bounds_u16 w3).2 (bounds_u16 w4).1 (bounds_u16 w4).2).mono fun e W' ⟨he, bel⟩ => ?_
  subst he
  exact ⟨_, rfl, _, _, _, [], _, [], hW', trodAll_mk1 (shut_bool Try.underlying4 _), (trodAll_cons_mk (Below.trod laidOut (by kernel_rfl) (of_decide_eq_true (by kernel_rfl)) k0 bel lt0) (trodAll_cons_mk (Below.trod laidOut (by kernel_rfl) (of_decide_eq_true (by kernel_rfl)) k1 bel lt1) (trodAll_cons_mk (Below.trod laidOut (by kernel_rfl) (of_decide_eq_true (by kernel_rfl)) k2 bel lt2) (trodAll_cons_mk (Below.trod laidOut (by kernel_rfl) (of_decide_eq_true (by kernel_rfl)) k3 bel lt3) (trodAll_cons_mk (Below.trod laidOut (by kernel_rfl) (of_decide_eq_true (by kernel_rfl)) k4 bel lt4) trodAll_mk0))))), rfl, bel.frame _, fun h => by cases h⟩

/-- The statement. -/
theorem busSplits_holds : Rows.BusSplitsSaid :=
  OpenClaim.holds_of_wide 5 Try.f5 rfl rfl rfl rfl rfl rfl rfl ⟨rfl, rfl, rfl, rfl, rfl⟩ rfl rfl rfl rfl rfl (by kernel_rfl) Try.func5 (by kernel_rfl)
    (of_decide_eq_true (by kernel_rfl)) (by unfold Func.isWrapper; first | (rw [if_pos (by decide +kernel)]; kernel_rfl) | (rw [if_neg (by decide +kernel)]; exact ⟨rfl, rfl⟩))
    (fun os started H enc _ => busSplits_lifted os started H enc)

end Go.Proofs.Ytbphlcldbcjncaa
