/-
  What is proved here: Bandwidth refuses with -1; bounds of its result.
-/
import Derived.Test.YtbphlcldbcjncaaBand
namespace Go.Proofs.Ytbphlcldbcjncaa
open Go.RowKit

theorem bw_nonneg {p b c k f t : Int} (hb : 0 ≤ b) (hc : 1 ≤ c) : 0 ≤ bw p b c k f t := by
  have c1 := cntw_bd (p := p) (k := k) (f := f) (t := t) (n := f / p) hb hc
  have c2 := cntw_bd (p := p) (k := k) (f := f) (t := t) (n := t / p) hb hc
  have q := quo_bd hb hc
  unfold bw
  split
  · omega
  · have := Int.mul_nonneg (show 0 ≤ t / p - f / p - 1 by omega) q.1
    omega

set_option maxHeartbeats 2000000 in
theorem band_no (a b c : Int) (v3 v4 v5 v6 v7 v8 v9 v10 v11 v12 v13 v14 : Value) (k f t : Int) (w : World) (h : vld a b c = false ∨ (k < 0 ∨ a ≤ k) ∨ (f < 0 ∨ 1099511627776 < f) ∨ (t < 0 ∨ 1099511627776 < t)) :
    Calls Try.prog 16 #[.agg #[.int .i64 a, .int .i64 b, .int .i64 c, v3, v4, v5, v6, v7, v8, v9, v10, v11, v12, v13, v14], .int .i64 k, .int .i64 f, .int .i64 t] w fun e w' => e = .returned (.int .i64 (-1)) ∧ Below w.heap.size w w' := by
  have H := Lib.hid h
  clear h
  go_enter Try.func16, Try.ntmps16
  go_wp2_with fail
  refine (Calls.ext (valid_any a b c v3 v4 v5 v6 v7 v8 v9 v10 v11 v12 v13 v14 _)).mono ?_
  rintro e _ ⟨rfl, y1, rfl⟩
  by_cases hv : vld a b c = true
  · rw [hv]
    have HV := Lib.hid hv
    clear hv
    by_cases hk : k < 0 ∨ a ≤ k
    · have HK := Lib.hid hk
      clear hk
      go_wp2_with fail
      refine (Calls.extq (isCore_no a b c v3 v4 v5 v6 v7 v8 v9 v10 v11 v12 v13 v14 k _ HK.out)).mono ?_
      rintro e _ ⟨rfl, y2, rfl⟩
      go_wp2
      go_ret
      exact ⟨rfl, Ext.below ((Below.refl _ _).alloc (Nat.le_refl _) _) (by simp) _⟩

    · have HK := Lib.hid hk
      clear hk
      go_wp2_with fail
      refine (Calls.extq (isCore_yes a b c v3 v4 v5 v6 v7 v8 v9 v10 v11 v12 v13 v14 k _ (by have := HK.out; omega) (by have := HK.out; omega))).mono ?_
      rintro e _ ⟨rfl, y2, rfl⟩

      by_cases hf : f < 0 ∨ 1099511627776 < f
      · have HF := Lib.hid hf
        clear hf
        go_wp2_with fail
        refine (Calls.extq (isCycle_no f _ HF.out)).mono ?_
        rintro e _ ⟨rfl, y3, rfl⟩
        go_wp2
        go_ret
        exact ⟨rfl, Ext.below ((Below.refl _ _).alloc (Nat.le_refl _) _) (by simp) _⟩

      · have HF := Lib.hid hf
        clear hf
        have ht : t < 0 ∨ 1099511627776 < t := by
          rcases H.out with h | h | h | h
          · rw [HV.out] at h; cases h
          · exact absurd h HK.out
          · exact absurd h HF.out
          · exact h
        have HT := Lib.hid ht
        clear ht
        go_wp2_with fail
        refine (Calls.extq (isCycle_yes f _ (by have := HF.out; omega) (by have := HF.out; omega))).mono ?_
        rintro e _ ⟨rfl, y3, rfl⟩
        go_wp2_with fail
        refine (Calls.extq (isCycle_no t _ HT.out)).mono ?_
        rintro e _ ⟨rfl, y4, rfl⟩
        go_wp2
        go_ret
        exact ⟨rfl, Ext.below ((Below.refl _ _).alloc (Nat.le_refl _) _) (by simp) _⟩

  · have hv' : vld a b c = false := by simpa using hv
    rw [hv']
    clear hv hv'
    go_wp2
    go_ret
    exact ⟨rfl, Ext.below ((Below.refl _ _).alloc (Nat.le_refl _) _) (by simp) _⟩

end Go.Proofs.Ytbphlcldbcjncaa
