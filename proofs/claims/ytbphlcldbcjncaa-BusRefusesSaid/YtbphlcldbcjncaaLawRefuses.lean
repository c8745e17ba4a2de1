/-
  What is proved here: the law BusRefuses returns true for every input.
-/
import Derived.Test.YtbphlcldbcjncaaLawRefuses1
import Derived.Test.YtbphlcldbcjncaaLawRefuses2
import Derived.Test.YtbphlcldbcjncaaLawRefuses3
namespace Go.Proofs.Ytbphlcldbcjncaa
open Go.ChangeShapes Go.WideShapes Go.ChangeAt Go.RowKit

theorem refuses_any (a b c : Int) (v3 v4 v5 v6 v7 v8 v9 v10 v11 v12 v13 v14 : Value) (k t : Int) (w : World) :
    Calls Try.prog 9 #[.agg #[.int .i64 a, .int .i64 b, .int .i64 c, v3, v4, v5, v6, v7, v8, v9, v10, v11, v12, v13, v14], .int .i64 k, .int .i64 t] w fun e w' => e = .returned (.bool true) ∧ Below w.heap.size w w' := by
  by_cases hv : vld a b c = true
  · obtain ⟨h1, h2, h3, h4, h5⟩ := vld_parts hv
    by_cases ht : t < 0 ∨ 1099511627776 < t
    · by_cases g1 : 0 ≤ t
      · have g2 : decide (t ≤ 1099511627776) = false := by simp; omega
        by_cases k1 : k < 0
        · exact refuses_late_g2k1 a b c v3 v4 v5 v6 v7 v8 v9 v10 v11 v12 v13 v14 k t w h1 h2 h3 h4 h5 ht (by simpa using g1) g2 (by simpa using k1)
        · by_cases k2 : a ≤ k
          · exact refuses_late_g2k2 a b c v3 v4 v5 v6 v7 v8 v9 v10 v11 v12 v13 v14 k t w h1 h2 h3 h4 h5 ht (by simpa using g1) g2 (by simpa using k1) (by simpa using k2)
          · exact refuses_late_g2k3 a b c v3 v4 v5 v6 v7 v8 v9 v10 v11 v12 v13 v14 k t w h1 h2 h3 h4 h5 ht (by simpa using g1) g2 (by simpa using k1) (by simpa using k2)
      · by_cases k1 : k < 0
        · exact refuses_late_g1k1 a b c v3 v4 v5 v6 v7 v8 v9 v10 v11 v12 v13 v14 k t w h1 h2 h3 h4 h5 ht (by simpa using g1) (by simpa using k1)
        · by_cases k2 : a ≤ k
          · exact refuses_late_g1k2 a b c v3 v4 v5 v6 v7 v8 v9 v10 v11 v12 v13 v14 k t w h1 h2 h3 h4 h5 ht (by simpa using g1) (by simpa using k1) (by simpa using k2)
          · exact refuses_late_g1k3 a b c v3 v4 v5 v6 v7 v8 v9 v10 v11 v12 v13 v14 k t w h1 h2 h3 h4 h5 ht (by simpa using g1) (by simpa using k1) (by simpa using k2)
    · by_cases hk : k < 0 ∨ a ≤ k
      · by_cases k1 : k < 0
        · exact refuses_core_k1 a b c v3 v4 v5 v6 v7 v8 v9 v10 v11 v12 v13 v14 k t w h1 h2 h3 h4 h5 (by omega) (by omega) hk (by simpa using k1)
        · exact refuses_core_k2 a b c v3 v4 v5 v6 v7 v8 v9 v10 v11 v12 v13 v14 k t w h1 h2 h3 h4 h5 (by omega) (by omega) hk (by simpa using k1) (by simp; omega)
      · exact refuses_good a b c v3 v4 v5 v6 v7 v8 v9 v10 v11 v12 v13 v14 k t w h1 h2 h3 h4 h5 (by omega) (by omega) (by omega) (by omega)
  · exact refuses_invalid a b c v3 v4 v5 v6 v7 v8 v9 v10 v11 v12 v13 v14 k t w (by simpa using hv)

set_option maxRecDepth 100000 in
theorem busRefuses_lifted (os : Os) (started : os.Started) (H : Type) (enc : TypeId × Value → H) :
    ReturnsInHanded {} Try.checked os 9 .any (Rows.busRefusesSpec.pre6 enc Try.prog Try.f9 Rows.busRefusesRow.domain false) (Rows.busRefusesSpec.post enc Try.prog Try.f9 false true false false) := by
  refine returnsInHanded_of_change (C := Try.checked) own started (by kernel_rfl) Try.func9
    (ChangeSpec.witness6 (enc := enc) (C := Try.checked) false ⟨#[], #[.agg #[.int .i64 0, .int .i64 0, .int .i64 0, .int .i64 0, .int .i64 0, .int .i64 0, .int .i64 0, .int .i64 0, .int .i64 0, .int .i64 0, .int .i64 0, .int .i64 0, .int .i64 0, .int .i64 0, .int .i64 0], .int .i64 0, .int .i64 0], []⟩ 8 (by kernel_rfl) (by kernel_rfl) (by kernel_rfl) (by kernel_rfl)) ?_
  intro W base args ds gs before hval0 hW hcnd _
  have hval : ∀ (j : Nat) t v, Try.f9.params[j]? = some t → args[j]? = some v → Value.okWide Try.prog W .any base t v := hval0
  have hW' := hW
  obtain ⟨p, q, hA0, hV, rfl, hfz, hnd⟩ := hW
  have hA : DataW.TrodAll enc Try.prog W 0 (fun _ => true) true Try.f9.params.toList args.toList ds p := hA0
  rw [Try.params9] at hA hval
  obtain ⟨v0, vs0, d0, ds0, p0, q0, hargs, rfl, rfl, h0, r0⟩ := trodAll_cons hA
  obtain ⟨v1, vs1, d1, ds1, p1, q1, rfl, rfl, rfl, h1, r1⟩ := trodAll_cons r0
  obtain ⟨v2, vs2, d2, ds2, p2, q2, rfl, rfl, rfl, h2, r2⟩ := trodAll_cons r1
  obtain ⟨rfl, rfl, rfl⟩ := trodAll_nil r2
  obtain rfl : args = #[v0, v1, v2] := by cases args; simp_all
  obtain ⟨rfl, rfl⟩ := trodVars_none hV
  have k0 := h0
  have lt0 : ∀ x ∈ p0, x.block < W.heap.size := by obtain ⟨m, hm⟩ := k0; exact DataW.trod_lt m _ _ _ hm
  have ok0 := hval 0 27 v0 rfl rfl
  have k1 := h1
  have lt1 : ∀ x ∈ p1, x.block < W.heap.size := by obtain ⟨m, hm⟩ := k1; exact DataW.trod_lt m _ _ _ hm
  have ok1 := hval 1 3 v1 rfl rfl
  have k2 := h2
  have lt2 : ∀ x ∈ p2, x.block < W.heap.size := by obtain ⟨m, hm⟩ := k2; exact DataW.trod_lt m _ _ _ hm
  have ok2 := hval 2 3 v2 rfl rfl
  obtain ⟨a, b, c, v3, v4, v5, v6, v7, v8, v9, v10, v11, v12, v13, v14, rfl, wa, wb, wc⟩ := open_cfg ok0 h0
  obtain ⟨a1, rfl, e1, f1, w1⟩ := open_int Try.underlying3 ok1 h1
  obtain ⟨a2, rfl, e2, f2, w2⟩ := open_int Try.underlying3 ok2 h2
  clear hA0 hval0
  refine (refuses_any a b c v3 v4 v5 v6 v7 v8 v9 v10 v11 v12 v13 v14 a1 a2 W).mono fun e W' ⟨he, bel⟩ => ?_
  subst he
  exact ⟨_, rfl, _, _, _, [], _, [], hW', trodAll_mk1 (shut_bool Try.underlying4 _), (trodAll_cons_mk (Below.trod laidOut (by kernel_rfl) (of_decide_eq_true (by kernel_rfl)) k0 bel lt0) (trodAll_cons_mk (Below.trod laidOut (by kernel_rfl) (of_decide_eq_true (by kernel_rfl)) k1 bel lt1) (trodAll_cons_mk (Below.trod laidOut (by kernel_rfl) (of_decide_eq_true (by kernel_rfl)) k2 bel lt2) trodAll_mk0))), rfl, bel.frame _, fun h => by cases h⟩

/-- The statement. -/
theorem busRefuses_holds : Rows.BusRefusesSaid :=
  OpenClaim.holds_of_wide 9 Try.f9 rfl rfl rfl rfl rfl rfl rfl ⟨rfl, rfl, rfl, rfl, rfl⟩ rfl rfl rfl rfl rfl (by kernel_rfl) Try.func9 (by kernel_rfl)
    (of_decide_eq_true (by kernel_rfl)) (by unfold Func.isWrapper; first | (rw [if_pos (by decide +kernel)]; kernel_rfl) | (rw [if_neg (by decide +kernel)]; exact ⟨rfl, rfl⟩))
    (fun os started H enc _ => busRefuses_lifted os started H enc)

end Go.Proofs.Ytbphlcldbcjncaa
