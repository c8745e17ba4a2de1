/-
  What is proved here: what the small functions of the reference ontimeref27 return; hull and corners.
-/
import Derived.Test.YtjkjcnamlankoaaIvRef4
import Derived.Test.YtjkjcnamlankoaaIvApp2
import Derived.Test.YtjkjcnamlankoaaQTail2
namespace Go.Proofs.Ytjkjcnamlankoaa
open Go.RowKit
set_option linter.unusedVariables false
set_option linter.unusedSimpArgs false

set_option maxHeartbeats 400000 in
theorem rfull_any  (w : World) :
    Calls Try.prog 36 #[] w fun e w' => e = .returned (.agg #[.int .i32 (-2147483648), .int .i32 2147483647]) ∧ Below w.heap.size w w' := by
  go_enter Try.func36, Try.ntmps36
  go_wp2
  all_goals
    refine bodyPost_ret (v := .agg #[.int .i32 (-2147483648), .int .i32 2147483647]) ?hr rfl ⟨rfl, ?bel⟩
    case hr =>
      simp [results, Try.results36, go_sem]
    case bel =>
      (repeat (first | exact Below.refl _ _ | refine Below.setCell ?_ ?_ _ | refine Ext.below ?_ ?_ _ | refine Below.alloc ?_ ?_ _)) <;> (first | (simp; done) | (simp; omega) | omega | (simp only [World.size_setCell, World.size_alloc]; refine Nat.le_trans ?_ (Below.size (Ext.h _)); simp only [World.size_setCell, World.size_alloc]; omega))

set_option maxHeartbeats 400000 in
theorem rempty0_any  (w : World) :
    Calls Try.prog 38 #[] w fun e w' => e = .returned (.agg #[.int .i32 1, .int .i32 0]) ∧ Below w.heap.size w w' := by
  go_enter Try.func38, Try.ntmps38
  go_wp2
  all_goals
    refine bodyPost_ret (v := .agg #[.int .i32 1, .int .i32 0]) ?hr rfl ⟨rfl, ?bel⟩
    case hr =>
      simp [results, Try.results38, go_sem]
    case bel =>
      (repeat (first | exact Below.refl _ _ | refine Below.setCell ?_ ?_ _ | refine Ext.below ?_ ?_ _ | refine Below.alloc ?_ ?_ _)) <;> (first | (simp; done) | (simp; omega) | omega | (simp only [World.size_setCell, World.size_alloc]; refine Nat.le_trans ?_ (Below.size (Ext.h _)); simp only [World.size_setCell, World.size_alloc]; omega))

set_option maxHeartbeats 400000 in
theorem rempty_any (xl xh : Int) (w : World) :
    Calls Try.prog 37 #[.agg #[.int .i32 xl, .int .i32 xh]] w fun e w' => e = .returned (.bool (decide (xh < xl))) ∧ Below w.heap.size w w' := by
  go_enter Try.func37, Try.ntmps37
  go_wp2
  all_goals
    go_ret
    refine ⟨rfl, ?_⟩
    (repeat (first | exact Below.refl _ _ | refine Below.setCell ?_ ?_ _ | refine Ext.below ?_ ?_ _ | refine Below.alloc ?_ ?_ _)) <;> (first | (simp; done) | (simp; omega) | omega | (simp only [World.size_setCell, World.size_alloc]; refine Nat.le_trans ?_ (Below.size (Ext.h _)); simp only [World.size_setCell, World.size_alloc]; omega))

set_option maxHeartbeats 400000 in
theorem rsingle_any (xl xh : Int) (w : World) :
    Calls Try.prog 39 #[.agg #[.int .i32 xl, .int .i32 xh]] w fun e w' => e = .returned (.bool (xl == xh)) ∧ Below w.heap.size w w' := by
  go_enter Try.func39, Try.ntmps39
  go_wp2
  all_goals
    go_ret
    refine ⟨rfl, ?_⟩
    (repeat (first | exact Below.refl _ _ | refine Below.setCell ?_ ?_ _ | refine Ext.below ?_ ?_ _ | refine Below.alloc ?_ ?_ _)) <;> (first | (simp; done) | (simp; omega) | omega | (simp only [World.size_setCell, World.size_alloc]; refine Nat.le_trans ?_ (Below.size (Ext.h _)); simp only [World.size_setCell, World.size_alloc]; omega))

set_option maxHeartbeats 400000 in
theorem rhas_any (xl xh n : Int) (w : World) :
    Calls Try.prog 48 #[.agg #[.int .i32 xl, .int .i32 xh], .int .i32 n] w fun e w' => e = .returned (.bool (decide (xl ≤ n) && decide (n ≤ xh))) ∧ Below w.heap.size w w' := by
  by_cases h1 : xl ≤ n
  · have d1 : decide (xl ≤ n) = true := by simpa using h1
    go_enter Try.func48, Try.ntmps48
    go_wp2
    all_goals
      go_ret
      refine ⟨by simp [d1], ?_⟩
      (repeat (first | exact Below.refl _ _ | refine Below.setCell ?_ ?_ _ | refine Ext.below ?_ ?_ _ | refine Below.alloc ?_ ?_ _)) <;> (first | (simp; done) | (simp; omega) | omega | (simp only [World.size_setCell, World.size_alloc]; refine Nat.le_trans ?_ (Below.size (Ext.h _)); simp only [World.size_setCell, World.size_alloc]; omega))
  · have d1 : decide (xl ≤ n) = false := by simpa using h1
    go_enter Try.func48, Try.ntmps48
    go_wp2
    all_goals
      go_ret
      refine ⟨by simp, ?_⟩
      (repeat (first | exact Below.refl _ _ | refine Below.setCell ?_ ?_ _ | refine Ext.below ?_ ?_ _ | refine Below.alloc ?_ ?_ _)) <;> (first | (simp; done) | (simp; omega) | omega | (simp only [World.size_setCell, World.size_alloc]; refine Nat.le_trans ?_ (Below.size (Ext.h _)); simp only [World.size_setCell, World.size_alloc]; omega))

set_option maxHeartbeats 400000 in
theorem rleast_any (a b : Int) (w : World) : Calls Try.prog 59 #[.int .i64 a, .int .i64 b] w fun e w' => e = .returned (.int .i64 (min a b)) ∧ w = w' := by
  go_enter Try.func59, Try.ntmps59
  go_wp2
  all_goals
    go_ret
    exact ⟨ret_int (by omega), rfl⟩

set_option maxHeartbeats 400000 in
theorem rmost_any (a b : Int) (w : World) : Calls Try.prog 60 #[.int .i64 a, .int .i64 b] w fun e w' => e = .returned (.int .i64 (max a b)) ∧ w = w' := by
  go_enter Try.func60, Try.ntmps60
  go_wp2
  all_goals
    go_ret
    exact ⟨ret_int (by omega), rfl⟩

set_option maxHeartbeats 400000 in
theorem rtr_true_true  (w : World) :
    Calls Try.prog 47 #[.bool true, .bool true] w fun e w' => e = .returned (.agg #[.int .i32 (trI true true).1, .int .i32 (trI true true).2]) ∧ Below w.heap.size w w' := by
  go_enter Try.func47, Try.ntmps47
  go_wp2
  all_goals
    refine bodyPost_ret (v := .agg #[.int .i32 (trI true true).1, .int .i32 (trI true true).2]) ?hr rfl ⟨rfl, ?bel⟩
    case hr =>
      simp [trI, results, Try.results47, go_sem]
    case bel =>
      (repeat (first | exact Below.refl _ _ | refine Below.setCell ?_ ?_ _ | refine Ext.below ?_ ?_ _ | refine Below.alloc ?_ ?_ _)) <;> (first | (simp; done) | (simp; omega) | omega | (simp only [World.size_setCell, World.size_alloc]; refine Nat.le_trans ?_ (Below.size (Ext.h _)); simp only [World.size_setCell, World.size_alloc]; omega))

set_option maxHeartbeats 400000 in
theorem rtr_true_false  (w : World) :
    Calls Try.prog 47 #[.bool true, .bool false] w fun e w' => e = .returned (.agg #[.int .i32 (trI true false).1, .int .i32 (trI true false).2]) ∧ Below w.heap.size w w' := by
  go_enter Try.func47, Try.ntmps47
  go_wp2
  all_goals
    refine bodyPost_ret (v := .agg #[.int .i32 (trI true false).1, .int .i32 (trI true false).2]) ?hr rfl ⟨rfl, ?bel⟩
    case hr =>
      simp [trI, results, Try.results47, go_sem]
    case bel =>
      (repeat (first | exact Below.refl _ _ | refine Below.setCell ?_ ?_ _ | refine Ext.below ?_ ?_ _ | refine Below.alloc ?_ ?_ _)) <;> (first | (simp; done) | (simp; omega) | omega | (simp only [World.size_setCell, World.size_alloc]; refine Nat.le_trans ?_ (Below.size (Ext.h _)); simp only [World.size_setCell, World.size_alloc]; omega))

set_option maxHeartbeats 400000 in
theorem rtr_false_true  (w : World) :
    Calls Try.prog 47 #[.bool false, .bool true] w fun e w' => e = .returned (.agg #[.int .i32 (trI false true).1, .int .i32 (trI false true).2]) ∧ Below w.heap.size w w' := by
  go_enter Try.func47, Try.ntmps47
  go_wp2
  all_goals
    refine bodyPost_ret (v := .agg #[.int .i32 (trI false true).1, .int .i32 (trI false true).2]) ?hr rfl ⟨rfl, ?bel⟩
    case hr =>
      simp [trI, results, Try.results47, go_sem]
    case bel =>
      (repeat (first | exact Below.refl _ _ | refine Below.setCell ?_ ?_ _ | refine Ext.below ?_ ?_ _ | refine Below.alloc ?_ ?_ _)) <;> (first | (simp; done) | (simp; omega) | omega | (simp only [World.size_setCell, World.size_alloc]; refine Nat.le_trans ?_ (Below.size (Ext.h _)); simp only [World.size_setCell, World.size_alloc]; omega))

set_option maxHeartbeats 400000 in
theorem rtr_false_false  (w : World) :
    Calls Try.prog 47 #[.bool false, .bool false] w fun e w' => e = .returned (.agg #[.int .i32 (trI false false).1, .int .i32 (trI false false).2]) ∧ Below w.heap.size w w' := by
  go_enter Try.func47, Try.ntmps47
  go_wp2
  all_goals
    refine bodyPost_ret (v := .agg #[.int .i32 (trI false false).1, .int .i32 (trI false false).2]) ?hr rfl ⟨rfl, ?bel⟩
    case hr =>
      simp [trI, results, Try.results47, go_sem]
    case bel =>
      (repeat (first | exact Below.refl _ _ | refine Below.setCell ?_ ?_ _ | refine Ext.below ?_ ?_ _ | refine Below.alloc ?_ ?_ _)) <;> (first | (simp; done) | (simp; omega) | omega | (simp only [World.size_setCell, World.size_alloc]; refine Nat.le_trans ?_ (Below.size (Ext.h _)); simp only [World.size_setCell, World.size_alloc]; omega))

theorem rtr_any (a n : Bool) (w : World) : Calls Try.prog 47 #[.bool a, .bool n] w fun e w' => e = .returned (.agg #[.int .i32 (trI a n).1, .int .i32 (trI a n).2]) ∧ Below w.heap.size w w' := by
  cases a <;> cases n
  · exact rtr_false_false w
  · exact rtr_false_true w
  · exact rtr_true_false w
  · exact rtr_true_true w

set_option maxHeartbeats 400000 in
theorem rexact_6 (a b : Int) (w : World) (ha1 : -2147483648 ≤ a) (ha2 : a ≤ 2147483647) (hb1 : -2147483648 ≤ b) (hb2 : b ≤ 2147483647) : Calls Try.prog 61 #[.int .u8 6, .int .i64 a, .int .i64 b] w fun e w' => e = .returned (.int .i64 (a + b)) ∧ w = w' := by
  go_enter Try.func61, Try.ntmps61
  go_wp2
  all_goals
    go_ret
    exact ⟨rfl, rfl⟩

set_option maxHeartbeats 400000 in
theorem rexact_7 (a b : Int) (w : World) (ha1 : -2147483648 ≤ a) (ha2 : a ≤ 2147483647) (hb1 : -2147483648 ≤ b) (hb2 : b ≤ 2147483647) : Calls Try.prog 61 #[.int .u8 7, .int .i64 a, .int .i64 b] w fun e w' => e = .returned (.int .i64 (a - b)) ∧ w = w' := by
  go_enter Try.func61, Try.ntmps61
  go_wp2
  all_goals
    go_ret
    exact ⟨rfl, rfl⟩

set_option maxHeartbeats 400000 in
theorem rexact_8 (a b : Int) (w : World) (ha1 : -2147483648 ≤ a) (ha2 : a ≤ 2147483647) (hb1 : -2147483648 ≤ b) (hb2 : b ≤ 2147483647) : Calls Try.prog 61 #[.int .u8 8, .int .i64 a, .int .i64 b] w fun e w' => e = .returned (.int .i64 (a * b)) ∧ w = w' := by
  have hm := mul_word ha1 ha2 hb1 hb2
  obtain ⟨m1, m2⟩ := hm
  go_enter Try.func61, Try.ntmps61
  go_wp2
  all_goals
    go_ret
    exact ⟨rfl, rfl⟩

set_option maxHeartbeats 400000 in
theorem rexact_9 (a b : Int) (w : World) (ha1 : -2147483648 ≤ a) (ha2 : a ≤ 2147483647) (hb1 : -2147483648 ≤ b) (hb2 : b ≤ 2147483647) (h0 : ¬ b = 0) : Calls Try.prog 61 #[.int .u8 9, .int .i64 a, .int .i64 b] w fun e w' => e = .returned (.int .i64 (a.tdiv b)) ∧ w = w' := by
  have z : (b == 0) = false := by simpa using h0
  have tb := tdiv_bd a b ha1 ha2
  obtain ⟨t1, t2⟩ := tb
  go_enter Try.func61, Try.ntmps61
  go_wp2
  all_goals
    go_ret
    exact ⟨rfl, rfl⟩

set_option maxHeartbeats 1000000 in
theorem rhull_any (g cap : Nat) (l : List Int) (w : World) (hl : 1 ≤ l.length) (hl' : l.length ≤ 1000) (hg : g < w.heap.size) (hc : ∀ i, i < l.length → w.cell? ⟨g, i, none⟩ = some (.int .i64 (nth l i))) :
    Calls Try.prog 41 #[.slice (some ⟨g, 0, none⟩) l.length cap] w fun e w' => e = .returned (.agg #[.int .i32 (hullL l).1, .int .i32 (hullL l).2]) ∧ Below w.heap.size w w' := by
  have c0 := hc 0 (by omega)
  have hl0 : (0 : Int) < (l.length : Int) := by omega
  have HC := Lib.hid hc
  clear hc
  go_enter Try.func41, Try.ntmps41
  go_wp2_with fail
  go_loop [3, 4, 5] (fun a b i => ∃ k : Nat, k ≤ l.length ∧ i = .int .i64 k ∧ a = .int .i64 ((l.take k).foldl min (nth l 0)) ∧ b = .int .i64 ((l.take k).foldl max (nth l 0))) (fun _ _ i => l.length - (intOf i).toNat)
  case atStart => exact ⟨0, by omega, rfl, rfl, rfl⟩
  case round =>
    obtain ⟨k, hk, rfl, rfl, rfl⟩ := hrel
    by_cases hlt : k < l.length
    · have ck := HC.out k hlt
      have s1 := Lib.hid (foldl_step min l (nth l 0) k hlt)
      have s2 := Lib.hid (foldl_step max l (nth l 0) k hlt)
      have hlt' : (k : Int) < (l.length : Int) := by omega
      go_wp2_with (first | (go_at_call 59; refine (rleast_any _ _ _).mono ?_; rintro e _ ⟨rfl, rfl⟩) | (go_at_call 60; refine (rmost_any _ _ _).mono ?_; rintro e _ ⟨rfl, rfl⟩))
      all_goals
        go_round
        case rel => exact ⟨k + 1, by omega, by go_num, int_eq (by rw [s1.out]), int_eq (by rw [s2.out])⟩
        case measure => simp [intOf]; omega
    · have ek : l.take k = l := List.take_of_length_le (by omega)
      rw [ek]
      have hge : ¬ ((k : Int) < (l.length : Int)) := by omega
      clear HC
      have e1 : l.foldl min (nth l 0) = loL l := rfl
      have e2 : l.foldl max (nth l 0) = hiL l := rfl
      rw [e1, e2]
      have hle := loL_le_hiL l
      by_cases h1 : loL l < -2147483648
      · have d1 := decide_eq_true h1
        have HV := Lib.hid (show hullL l = (-2147483648, 2147483647) by unfold hullL; rw [if_pos (.inl h1)])
        clear ek e1 e2
        go_wp2_with (go_at_call 36; ((first | (with_reducible refine (Calls.extq (rfull_any _)).mono ?_) | (refine (Calls.ext (rfull_any _)).mono ?_)); rintro e _ ⟨rfl, y, rfl⟩))
        all_goals
          refine bodyPost_ret (v := .agg #[.int .i32 (hullL l).1, .int .i32 (hullL l).2]) ?hr rfl ⟨rfl, ?bel⟩
          case hr =>
            rw [HV.out]
            simp [results, Try.results41, go_sem]
          case bel =>
            (repeat (first | exact Below.refl _ _ | refine Below.setCell ?_ ?_ _ | refine Ext.below ?_ ?_ _ | refine Below.alloc ?_ ?_ _)) <;> (first | (simp; done) | (simp; omega) | omega | (simp only [World.size_setCell, World.size_alloc]; refine Nat.le_trans ?_ (Below.size (Ext.h _)); simp only [World.size_setCell, World.size_alloc]; omega))
      · by_cases h2 : 2147483647 < hiL l
        · have d1 := decide_eq_false h1
          have d2 := decide_eq_true h2
          have HV := Lib.hid (show hullL l = (-2147483648, 2147483647) by unfold hullL; rw [if_pos (.inr h2)])
          clear ek e1 e2
          go_wp2_with (go_at_call 36; ((first | (with_reducible refine (Calls.extq (rfull_any _)).mono ?_) | (refine (Calls.ext (rfull_any _)).mono ?_)); rintro e _ ⟨rfl, y, rfl⟩))
          all_goals
            refine bodyPost_ret (v := .agg #[.int .i32 (hullL l).1, .int .i32 (hullL l).2]) ?hr rfl ⟨rfl, ?bel⟩
            case hr =>
              rw [HV.out]
              simp [results, Try.results41, go_sem]
            case bel =>
              (repeat (first | exact Below.refl _ _ | refine Below.setCell ?_ ?_ _ | refine Ext.below ?_ ?_ _ | refine Below.alloc ?_ ?_ _)) <;> (first | (simp; done) | (simp; omega) | omega | (simp only [World.size_setCell, World.size_alloc]; refine Nat.le_trans ?_ (Below.size (Ext.h _)); simp only [World.size_setCell, World.size_alloc]; omega))
        · have d1 := decide_eq_false h1
          have d2 := decide_eq_false h2
          have HV := Lib.hid (show hullL l = (loL l, hiL l) by unfold hullL; rw [if_neg (by omega)])
          clear ek e1 e2
          go_wp2
          all_goals
            refine bodyPost_ret (v := .agg #[.int .i32 (hullL l).1, .int .i32 (hullL l).2]) ?hr rfl ⟨rfl, ?bel⟩
            case hr =>
              rw [HV.out]
              simp [results, Try.results41, go_sem]
            case bel =>
              (repeat (first | exact Below.refl _ _ | refine Below.setCell ?_ ?_ _ | refine Ext.below ?_ ?_ _ | refine Below.alloc ?_ ?_ _)) <;> (first | (simp; done) | (simp; omega) | omega | (simp only [World.size_setCell, World.size_alloc]; refine Nat.le_trans ?_ (Below.size (Ext.h _)); simp only [World.size_setCell, World.size_alloc]; omega))

end Go.Proofs.Ytjkjcnamlankoaa
