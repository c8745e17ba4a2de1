/-
  What is proved here: what the functions of the reference (ontimeref07) return.
-/
import Derived.Test.YtbphlcldbcjncaaPlain6
namespace Go.Proofs.Ytbphlcldbcjncaa
open Go.RowKit

set_option maxHeartbeats 400000 in
theorem rvalid_any (a b c : Int) (v3 v4 v5 v6 v7 v8 v9 v10 v11 v12 v13 v14 : Value) (w : World) :
    Calls Try.prog 15 #[.agg #[.int .i64 a, .int .i64 b, .int .i64 c, v3, v4, v5, v6, v7, v8, v9, v10, v11, v12, v13, v14]] w fun e w' => e = .returned (.bool (vld a b c)) ∧ Below w.heap.size w w' := by
  go_enter Try.func15, Try.ntmps15
  go_wp2
  all_goals
    go_ret
    refine ⟨?_, (Below.refl _ _).alloc (Nat.le_refl _) _⟩
    simp [vld, *]
  all_goals omega
theorem rvalid_yes (a b c : Int) (v3 v4 v5 v6 v7 v8 v9 v10 v11 v12 v13 v14 : Value) (w : World) (h1 : 1 ≤ a) (h2 : a ≤ 4) (h3 : 1 ≤ c) (h4 : c ≤ b) (h5 : b ≤ 1000000) :
    Calls Try.prog 15 #[.agg #[.int .i64 a, .int .i64 b, .int .i64 c, v3, v4, v5, v6, v7, v8, v9, v10, v11, v12, v13, v14]] w fun e w' => e = .returned (.bool true) ∧ Below w.heap.size w w' :=
  (rvalid_any a b c v3 v4 v5 v6 v7 v8 v9 v10 v11 v12 v13 v14 w).mono fun _ _ ⟨h, k⟩ => ⟨by rw [h, vld_true h1 h2 h3 h4 h5], k⟩

set_option maxHeartbeats 1000000 in
theorem rowner_any (a b c : Int) (v3 v4 v5 v6 v7 v8 v9 v10 v11 v12 v13 v14 : Value) (t : Int) (w : World) (h1 : 1 ≤ a) (hb : 1 ≤ b) (h8 : 0 ≤ t) (h9 : t ≤ 1099511627776) :
    Calls Try.prog 23 #[.agg #[.int .i64 a, .int .i64 b, .int .i64 c, v3, v4, v5, v6, v7, v8, v9, v10, v11, v12, v13, v14], .int .i64 t] w fun e w' => e = .returned (.int .i64 (t / b % a)) ∧ Below w.heap.size w w' := by
  obtain ⟨d1, d2, d3, d4, d5⟩ := div_bd (p := b) h8 (by omega)
  go_enter Try.func23, Try.ntmps23
  go_wp2_with fail
  refine wp_region_ext (by kernel_rfl) (by kernel_rfl) ?_
  repeat (go_big_quiet_step (fail))
  refine wpQuiet_nil ?_
  rintro _ ⟨x1, rfl⟩
  go_wp2
  go_ret
  exact ⟨rfl, Ext.below ((Below.refl _ _).alloc (Nat.le_refl _) _) (by simp) _⟩

/-- Inside the slot. -/
theorem in_slot {b s q : Int} (hb : 1 ≤ b) (h : s % b + q < b) (hq : 0 ≤ q) : (s + q) / b = s / b := by
  have e := emod_eq (s := s) (p := b)
  have e0 := Int.emod_nonneg s (show b ≠ 0 by omega)
  exact ediv_of (by omega) (by omega)

set_option maxHeartbeats 2000000 in
theorem fits_yes (a b c : Int) (v3 v4 v5 v6 v7 v8 v9 v10 v11 v12 v13 v14 : Value) (k s : Int) (w : World) (h1 : 1 ≤ a) (h3 : 1 ≤ c) (h4 : c ≤ b) (h5 : b ≤ 1000000) (h8 : 0 ≤ s) (h9 : s ≤ 549755813888) (hk : s / b % a = k) (hs : s % b + c ≤ b) :
    Calls Try.prog 26 #[.agg #[.int .i64 a, .int .i64 b, .int .i64 c, v3, v4, v5, v6, v7, v8, v9, v10, v11, v12, v13, v14], .int .i64 k, .int .i64 s] w fun e w' => e = .returned (.bool true) ∧ Below w.heap.size w w' := by
  obtain ⟨d1, d2, d3, d4, d5⟩ := div_bd (p := b) h8 (by omega)
  have HK := Lib.hid hk
  clear hk
  go_enter Try.func26, Try.ntmps26
  go_wp2_with fail
  go_loopw [7] (fun i wr => ∃ q : Nat, (q : Int) ≤ c ∧ i = .int .i64 q ∧ ∃ y : Ext (w.alloc (Obj.cells #[Value.int IntKind.i64 a, Value.int IntKind.i64 b, Value.int IntKind.i64 c, v3, v4, v5, v6, v7, v8, v9, v10, v11, v12, v13, v14] 27)), wr = y.w) (fun i _ => (c - intOf i).toNat)
  case atStart => exact ⟨0, by omega, rfl, ⟨_, Below.refl _ _⟩, rfl⟩
  case round =>
    obtain ⟨q, hq, rfl, y, rfl⟩ := hrel
    by_cases hlt : (q : Int) < c
    · have e := in_slot (b := b) (s := s) (q := q) (by omega) (by omega) (by omega)
      have HE := Lib.hid e
      clear e
      go_wp2_with fail
      refine wp_region_extq (by kernel_rfl) (by kernel_rfl) ?_
      repeat (go_big_quiet_step (exact Calls.extq ((rowner_any a b c v3 v4 v5 v6 v7 v8 v9 v10 v11 v12 v13 v14 _ _ h1 (by omega) (by omega) (by omega)).mono fun _ _ ⟨h, k⟩ => ⟨h.trans (ret_int (by rw [HE.out, HK.out])), k⟩)))
      refine wpQuiet_nil ?_
      rintro _ ⟨x1, rfl⟩
      rw [HE.out]
      go_wp2
      go_roundw
      case rel => exact ⟨q + 1, by omega, by go_num, x1, rfl⟩
      case measure => simp [intOf]; omega
    · go_wp2
      go_ret
      exact ⟨rfl, Ext.below ((Below.refl _ _).alloc (Nat.le_refl _) _) (by simp) _⟩

theorem at_edge {b s : Int} (hb : 1 ≤ b) : (s + (b - s % b)) / b = s / b + 1 := by
  have e := emod_eq (s := s) (p := b)
  have e0 := Int.emod_nonneg s (show b ≠ 0 by omega)
  have e1 := Int.emod_lt_of_pos s (show 0 < b by omega)
  have e2 : (s / b + 1) * b = s / b * b + b := by rw [Int.add_mul]; omega
  exact ediv_of (by omega) (by omega)

set_option maxHeartbeats 2000000 in
theorem fits_other (a b c : Int) (v3 v4 v5 v6 v7 v8 v9 v10 v11 v12 v13 v14 : Value) (k s : Int) (w : World) (h1 : 1 ≤ a) (h3 : 1 ≤ c) (h4 : c ≤ b) (h8 : 0 ≤ s) (h9 : s ≤ 549755813888) (hk : (s / b % a != k) = true) :
    Calls Try.prog 26 #[.agg #[.int .i64 a, .int .i64 b, .int .i64 c, v3, v4, v5, v6, v7, v8, v9, v10, v11, v12, v13, v14], .int .i64 k, .int .i64 s] w fun e w' => e = .returned (.bool false) ∧ Below w.heap.size w w' := by
  obtain ⟨d1, d2, d3, d4, d5⟩ := div_bd (p := b) h8 (by omega)
  go_enter Try.func26, Try.ntmps26
  go_wp2_with fail
  go_loopw [7] (fun i wr => i = .int .i64 0 ∧ ∃ y : Ext (w.alloc (Obj.cells #[Value.int IntKind.i64 a, Value.int IntKind.i64 b, Value.int IntKind.i64 c, v3, v4, v5, v6, v7, v8, v9, v10, v11, v12, v13, v14] 27)), wr = y.w) (fun _ _ => 0)
  case atStart => exact ⟨rfl, ⟨_, Below.refl _ _⟩, rfl⟩
  case round =>
    obtain ⟨rfl, y, rfl⟩ := hrel
    go_wp2_with fail
    refine wp_region_extq (by kernel_rfl) (by kernel_rfl) ?_
    repeat (go_big_quiet_step (exact Calls.extq (rowner_any a b c v3 v4 v5 v6 v7 v8 v9 v10 v11 v12 v13 v14 _ _ h1 (by omega) (by omega) (by omega))))
    refine wpQuiet_nil ?_
    rintro _ ⟨x1, rfl⟩
    go_wp2
    go_ret
    exact ⟨rfl, Ext.below ((Below.refl _ _).alloc (Nat.le_refl _) _) (by simp) _⟩

set_option maxHeartbeats 2000000 in
theorem fits_over (a b c : Int) (v3 v4 v5 v6 v7 v8 v9 v10 v11 v12 v13 v14 : Value) (k s : Int) (w : World) (h1 : 1 ≤ a) (h3 : 1 ≤ c) (h4 : c ≤ b) (h5 : b ≤ 1000000) (h8 : 0 ≤ s) (h9 : s ≤ 549755813888) (hk : s / b % a = k) (hs : b < s % b + c) :
    Calls Try.prog 26 #[.agg #[.int .i64 a, .int .i64 b, .int .i64 c, v3, v4, v5, v6, v7, v8, v9, v10, v11, v12, v13, v14], .int .i64 k, .int .i64 s] w fun e w' => e = .returned (.bool false) ∧ Below w.heap.size w w' := by
  obtain ⟨d1, d2, d3, d4, d5⟩ := div_bd (p := b) h8 (by omega)
  have e0 := Int.emod_nonneg s (show b ≠ 0 by omega)
  have e1 := Int.emod_lt_of_pos s (show 0 < b by omega)
  have HK := Lib.hid hk
  clear hk
  go_enter Try.func26, Try.ntmps26
  go_wp2_with fail
  go_loopw [7] (fun i wr => ∃ q : Nat, (q : Int) ≤ b - s % b ∧ i = .int .i64 q ∧ ∃ y : Ext (w.alloc (Obj.cells #[Value.int IntKind.i64 a, Value.int IntKind.i64 b, Value.int IntKind.i64 c, v3, v4, v5, v6, v7, v8, v9, v10, v11, v12, v13, v14] 27)), wr = y.w) (fun i _ => (b - s % b - intOf i).toNat)
  case atStart => exact ⟨0, by omega, rfl, ⟨_, Below.refl _ _⟩, rfl⟩
  case round =>
    obtain ⟨q, hq, rfl, y, rfl⟩ := hrel
    have hqc : (q : Int) < c := by omega
    by_cases hlt : (q : Int) < b - s % b
    · have e := in_slot (b := b) (s := s) (q := q) (by omega) (by omega) (by omega)
      have HE := Lib.hid e
      clear e
      go_wp2_with fail
      refine wp_region_extq (by kernel_rfl) (by kernel_rfl) ?_
      repeat (go_big_quiet_step (exact Calls.extq ((rowner_any a b c v3 v4 v5 v6 v7 v8 v9 v10 v11 v12 v13 v14 _ _ h1 (by omega) (by omega) (by omega)).mono fun _ _ ⟨h, k⟩ => ⟨h.trans (ret_int (by rw [HE.out, HK.out])), k⟩)))
      refine wpQuiet_nil ?_
      rintro _ ⟨x1, rfl⟩
      rw [HE.out]
      go_wp2
      go_roundw
      case rel => exact ⟨q + 1, by omega, by go_num, x1, rfl⟩
      case measure => simp [intOf]; omega
    · have e : (s + q) / b = s / b + 1 := by
        have : (q : Int) = b - s % b := by omega
        rw [this]
        exact at_edge (by omega)
      have HE := Lib.hid e
      clear e
      by_cases ho : (s / b + 1) % a = k
      · have HO := Lib.hid ho
        clear ho
        have hne : ((s + q) / b != s / b) = true := by rw [HE.out]; simp; omega
        go_wp2_with fail
        refine wp_region_extq (by kernel_rfl) (by kernel_rfl) ?_
        repeat (go_big_quiet_step (exact Calls.extq ((rowner_any a b c v3 v4 v5 v6 v7 v8 v9 v10 v11 v12 v13 v14 _ _ h1 (by omega) (by omega) (by omega)).mono fun _ _ ⟨h, k⟩ => ⟨h.trans (ret_int (by rw [HE.out, HO.out])), k⟩)))
        refine wpQuiet_nil ?_
        rintro _ ⟨x1, rfl⟩
        go_wp2
        go_ret
        exact ⟨rfl, Ext.below ((Below.refl _ _).alloc (Nat.le_refl _) _) (by simp) _⟩
      · have hne : ((s / b + 1) % a != k) = true := by simpa using ho
        clear ho
        go_wp2_with fail
        refine wp_region_extq (by kernel_rfl) (by kernel_rfl) ?_
        repeat (go_big_quiet_step (exact Calls.extq ((rowner_any a b c v3 v4 v5 v6 v7 v8 v9 v10 v11 v12 v13 v14 _ _ h1 (by omega) (by omega) (by omega)).mono fun _ _ ⟨h, k⟩ => ⟨h.trans (ret_int (by rw [HE.out])), k⟩)))
        refine wpQuiet_nil ?_
        rintro _ ⟨x1, rfl⟩
        go_wp2
        go_ret
        exact ⟨rfl, Ext.below ((Below.refl _ _).alloc (Nat.le_refl _) _) (by simp) _⟩

theorem fits_no (a b c : Int) (v3 v4 v5 v6 v7 v8 v9 v10 v11 v12 v13 v14 : Value) (k s : Int) (w : World) (h1 : 1 ≤ a) (h3 : 1 ≤ c) (h4 : c ≤ b) (h5 : b ≤ 1000000) (h8 : 0 ≤ s) (h9 : s ≤ 549755813888) (hk : ¬ Fit a b c k s) :
    Calls Try.prog 26 #[.agg #[.int .i64 a, .int .i64 b, .int .i64 c, v3, v4, v5, v6, v7, v8, v9, v10, v11, v12, v13, v14], .int .i64 k, .int .i64 s] w fun e w' => e = .returned (.bool false) ∧ Below w.heap.size w w' := by
  rw [fit_iff h1 h3 h4] at hk
  by_cases h : s / b % a = k
  · exact fits_over a b c v3 v4 v5 v6 v7 v8 v9 v10 v11 v12 v13 v14 k s w h1 h3 h4 h5 h8 h9 h (by omega)
  · exact fits_other a b c v3 v4 v5 v6 v7 v8 v9 v10 v11 v12 v13 v14 k s w h1 h3 h4 h8 h9 (by simpa using h)

set_option maxHeartbeats 2000000 in
theorem rstart_any (a b c : Int) (v3 v4 v5 v6 v7 v8 v9 v10 v11 v12 v13 v14 : Value) (k t : Int) (w : World) (h1 : 1 ≤ a) (h2 : a ≤ 4) (h3 : 1 ≤ c) (h4 : c ≤ b) (h5 : b ≤ 1000000) (h6 : 0 ≤ k) (h7 : k < a) (h8 : 0 ≤ t) (h9 : t ≤ 137438953472) :
    Calls Try.prog 21 #[.agg #[.int .i64 a, .int .i64 b, .int .i64 c, v3, v4, v5, v6, v7, v8, v9, v10, v11, v12, v13, v14], .int .i64 k, .int .i64 t] w fun e w' => e = .returned (.int .i64 (stt a b c k t)) ∧ Below w.heap.size w w' := by
  obtain ⟨b1, b2⟩ := stt_bd h1 h2 h3 h4 h5 h6 h7 h8
  go_enter Try.func21, Try.ntmps21
  go_wp2_with fail
  go_loopw [2] (fun i wr => ∃ s : Int, t ≤ s ∧ s ≤ stt a b c k t ∧ i = .int .i64 s ∧ ∃ y : Ext (w.alloc (Obj.cells #[Value.int IntKind.i64 a, Value.int IntKind.i64 b, Value.int IntKind.i64 c, v3, v4, v5, v6, v7, v8, v9, v10, v11, v12, v13, v14] 27)), wr = y.w) (fun i _ => (stt a b c k t - intOf i).toNat)
  case atStart => exact ⟨t, by omega, b1, rfl, ⟨_, Below.refl _ _⟩, rfl⟩
  case round =>
    obtain ⟨s, hs1, hs2, rfl, y, rfl⟩ := hrel
    by_cases he : s = stt a b c k t
    · have hf := (fit_iff h1 h3 h4).1 (stt_fits (t := t) h1 h2 h3 h4 h5 h6 h7 h8)
      rw [← he] at hf
      obtain ⟨hf1, hf2⟩ := hf
      have HE := Lib.hid he
      have HF1 := Lib.hid hf1
      clear he hf1
      go_wp2_with fail
      refine (Calls.extq (fits_yes a b c v3 v4 v5 v6 v7 v8 v9 v10 v11 v12 v13 v14 k s _ h1 h3 h4 h5 (by omega) (by omega) HF1.out hf2)).mono ?_
      rintro e _ ⟨rfl, y2, rfl⟩

      go_wp2
      go_ret
      exact ⟨ret_int HE.out, Ext.below ((Below.refl _ _).alloc (Nat.le_refl _) _) (by simp) _⟩
    · have hnf : ¬ Fit a b c k s := fun hf => by have := stt_least h1 h2 h3 h4 h5 h6 h7 h8 hs1 hf; omega
      have HF := Lib.hid hnf
      clear hnf
      go_wp2_with fail
      refine (Calls.extq (fits_no a b c v3 v4 v5 v6 v7 v8 v9 v10 v11 v12 v13 v14 k s _ h1 h3 h4 h5 (by omega) (by omega) HF.out)).mono ?_
      rintro e _ ⟨rfl, y2, rfl⟩

      go_wp2
      go_roundw
      case rel => exact ⟨s + 1, by omega, by omega, by go_num, y2, rfl⟩
      case measure => simp [intOf]; omega

set_option maxHeartbeats 2000000 in
theorem rband_any (a b c : Int) (v3 v4 v5 v6 v7 v8 v9 v10 v11 v12 v13 v14 : Value) (k f t : Int) (N : Nat) (w : World) (h1 : 1 ≤ a) (h2 : a ≤ 4) (h3 : 1 ≤ c) (h4 : c ≤ b) (h5 : b ≤ 1000000) (h6 : 0 ≤ k) (h7 : k < a) (h8 : 0 ≤ f) (h9 : f ≤ 68719476736) (h10 : 0 ≤ t) (h11 : t ≤ 68719476736) (hN : t / (a * b) < N) (hB : bs (a * b) b c k f t N ≤ 1099511629776000000) :
    Calls Try.prog 17 #[.agg #[.int .i64 a, .int .i64 b, .int .i64 c, v3, v4, v5, v6, v7, v8, v9, v10, v11, v12, v13, v14], .int .i64 k, .int .i64 f, .int .i64 t] w fun e w' => e = .returned (.int .i64 (bs (a * b) b c k f t N)) ∧ Below w.heap.size w w' := by
  obtain ⟨b1, b2⟩ := stt_bd h1 h2 h3 h4 h5 h6 h7 h8
  have HN := Lib.hid hN
  have R := Lib.hid (bs_rec h1 h2 h3 h4 h5 h6 h7 h8 h10 hN)
  clear hN
  go_enter Try.func17, Try.ntmps17
  go_wp2_with fail
  refine wp_region_ext (by kernel_rfl) (by kernel_rfl) ?_
  repeat (go_big_quiet_step (exact Calls.extq (rstart_any a b c v3 v4 v5 v6 v7 v8 v9 v10 v11 v12 v13 v14 k f _ h1 h2 h3 h4 h5 h6 h7 h8 (by omega))))
  refine wpQuiet_nil ?_
  rintro _ ⟨x1, rfl⟩
  go_wp2_with fail
  go_loopw [9, 10] (fun u i wr => ∃ n z : Int, 0 ≤ n ∧ 0 ≤ z ∧ z ≤ 70000000000 ∧ bs (a * b) b c k f t N = n + (if z ≤ t then 1 + bs (a * b) b c k z t N else 0) ∧ u = .int .i64 n ∧ i = .int .i64 z ∧ ∃ y : Ext (w.alloc (Obj.cells #[Value.int IntKind.i64 a, Value.int IntKind.i64 b, Value.int IntKind.i64 c, v3, v4, v5, v6, v7, v8, v9, v10, v11, v12, v13, v14] 27)), wr = y.w) (fun _ i _ => (t + 1 - intOf i).toNat)
  case atStart => exact ⟨0, stt a b c k f + c, by omega, by omega, by omega, by rw [R.out]; omega, rfl, rfl, x1, rfl⟩
  case round =>
    obtain ⟨n, z, hn, hz0, hz, hsum, rfl, rfl, y, rfl⟩ := hrel
    have HS := Lib.hid hsum
    clear hsum
    by_cases hle : z ≤ t
    · have R2 := Lib.hid (bs_rec h1 h2 h3 h4 h5 h6 h7 hz0 h10 HN.out)
      have hb := bs_nonneg (p := a * b) (b := b) (c := c) (k := k) (f := z) (t := t) (N := N) (by omega) h3
      obtain ⟨s1, s2⟩ := stt_bd h1 h2 h3 h4 h5 h6 h7 hz0
      have hn' : n ≤ 1099511629776000000 := by have := HS.out; rw [if_pos hle] at this; omega
      go_wp2_with fail
      refine wp_region_extq (by kernel_rfl) (by kernel_rfl) ?_
      repeat (go_big_quiet_step (exact Calls.extq (rstart_any a b c v3 v4 v5 v6 v7 v8 v9 v10 v11 v12 v13 v14 k z _ h1 h2 h3 h4 h5 h6 h7 hz0 (by omega))))
      refine wpQuiet_nil ?_
      rintro _ ⟨x2, rfl⟩
      go_wp2
      go_roundw
      case rel => exact ⟨n + 1, stt a b c k z + c, by omega, by omega, by omega, by rw [HS.out, if_pos hle, R2.out]; omega, rfl, rfl, x2, rfl⟩
      case measure => simp [intOf]; omega
    · have hfin : n = bs (a * b) b c k f t N := by rw [HS.out, if_neg hle]; omega
      have HF := Lib.hid hfin
      clear hfin
      go_wp2
      go_ret
      exact ⟨ret_int HF.out, Ext.below ((Below.refl _ _).alloc (Nat.le_refl _) _) (by simp) _⟩

end Go.Proofs.Ytbphlcldbcjncaa
