/-
 What is proved here: what operator, without and proper return.
-/
import Derived.Test.YtebklpnkcicpjaaDoorFaMem
import Derived.Test.YtebklpnkcicpjaaDoorFbIa
namespace Go.Proofs.YtebklpnkcicpjaaDoor
open Go.RowKit
set_option linter.unusedVariables false
set_option linter.unusedSimpArgs false

theorem two_boxes (w : World) (cA cB : Array Value) (tA tB : TypeId) (x : Ext ((w.alloc (.cells cA tA)).alloc (.cells cB tB))) : w.heap.size + 1 < x.w.heap.size ∧ x.w.heap[w.heap.size]? = some (.cells cA tA (0, 0)) ∧ x.w.heap[w.heap.size + 1]? = some (.cells cB tB (0, 0)) ∧ Below w.heap.size w x.w := by
 have e2 : ((w.alloc (.cells cA tA)).alloc (.cells cB tB)).heap.size = w.heap.size + 1 + 1 := by simp only [World.size_alloc]
 have hs := x.h.size
 refine ⟨by omega, ?_, ?_, Ext.below (((Below.refl _ _).alloc (Nat.le_refl _) _).alloc (by simp) _) (by omega) x⟩
 ·rw [x.h.block _ (by omega), heap_alloc_old _ _ (by simp)]; exact heap_alloc_new _ _
 ·rw [x.h.block _ (by omega)]; exact heap_alloc_at _ _ (by simp)

set_option maxHeartbeats 1000000 in
theorem operator_any (op : Int) (h1 : 2 ≤ op) (h2 : op ≤ 13) (w : World) : Calls Tryd.prog 48 #[.int .u8 op] w fun e w' => e = .returned (.int .u8 (opN op)) ∧ w = w' := by
 have h : op = 2 ∨ op = 3 ∨ op = 4 ∨ op = 5 ∨ op = 6 ∨ op = 7 ∨ op = 8 ∨ op = 9 ∨ op = 10 ∨ op = 11 ∨ op = 12 ∨ op = 13 := by omega
 rcases h with rfl | rfl | rfl | rfl | rfl | rfl | rfl | rfl | rfl | rfl | rfl | rfl
 all_goals
  go_enter Tryd.func48, Tryd.ntmps48
  go_wp2
  go_ret
  exact ⟨rfl, rfl⟩

set_option maxHeartbeats 1000000 in
theorem without_zz (xl xh : Int) (h1 : xl = 0) (h2 : xh = 0) (w : World) : Calls Tryd.prog 38 #[.agg #[.int .i32 xl, .int .i32 xh]] w fun e w' => e = .returned (.agg #[.int .i32 (1), .int .i32 (0)]) ∧ Below w.heap.size w w' := by
 have E := eq_iv xl xh 0 0
 have hb : (xl == 0 && xh == 0) = true := by simp [h1, h2]
 rw [hb] at E
 clear h1 h2
 go_enter Tryd.func38, Tryd.ntmps38
 go_wp2
 refine wp_region_ext (by kernel_rfl) (by kernel_rfl) ?_
 repeat (go_big_quiet_step (exact Calls.extq (of_any 0 _)))
 refine wpQuiet_nil ?_
 rintro _ ⟨x, rfl⟩
 obtain ⟨hz2, k0, k1, hbw⟩ := two_boxes w _ _ _ _ x
 have hz1 : w.heap.size < x.w.heap.size := by omega
 have c0 : x.w.cell? ⟨w.heap.size, 0, none⟩ = some (.int .i32 xl) := by rw [cell_of_row _ _ _ _ _ _ k0]; rfl
 have c1 : x.w.cell? ⟨w.heap.size, 1, none⟩ = some (.int .i32 xh) := by rw [cell_of_row _ _ _ _ _ _ k0]; rfl
 have c2 : x.w.cell? ⟨w.heap.size + 1, 0, none⟩ = some (.int .i32 0) := by rw [cell_of_row _ _ _ _ _ _ k1]; rfl
 have c3 : x.w.cell? ⟨w.heap.size + 1, 1, none⟩ = some (.int .i32 0) := by rw [cell_of_row _ _ _ _ _ _ k1]; rfl
 clear k0 k1 hbw
 go_wp2_with (go_at_call 50; refine (Calls.extq (empty_any _)).mono ?_; rintro e w' ⟨rfl, y, rfl⟩)
 all_goals
  refine bodyPost_ret (v := .agg #[.int .i32 (1), .int .i32 (0)]) ?hr rfl ⟨rfl, ?bel⟩
  case hr =>
   simp [results, Tryd.results38, go_sem]
  case bel =>
   (repeat (first | exact Below.refl _ _ | refine Below.setCell ?_ ?_ _ | refine Ext.below ?_ ?_ _ | refine Below.alloc ?_ ?_ _)) <;> (first | (simp; done) | (simp; omega) | omega)
set_option maxHeartbeats 1000000 in
theorem without_lo (xl xh : Int) (h1 : xl = 0) (h2 : xh ≠ 0) (w : World) : Calls Tryd.prog 38 #[.agg #[.int .i32 xl, .int .i32 xh]] w fun e w' => e = .returned (.agg #[.int .i32 (1), .int .i32 (xh)]) ∧ Below w.heap.size w w' := by
 have E := eq_iv xl xh 0 0
 have hb : (xl == 0 && xh == 0) = false := by simp [h2]
 rw [hb] at E
 have d1 : (xl == 0) = true := by simp [h1]
 clear h1 h2
 go_enter Tryd.func38, Tryd.ntmps38
 go_wp2
 refine wp_region_ext (by kernel_rfl) (by kernel_rfl) ?_
 repeat (go_big_quiet_step (exact Calls.extq (of_any 0 _)))
 refine wpQuiet_nil ?_
 rintro _ ⟨x, rfl⟩
 obtain ⟨hz2, k0, k1, hbw⟩ := two_boxes w _ _ _ _ x
 have hz1 : w.heap.size < x.w.heap.size := by omega
 have c0 : x.w.cell? ⟨w.heap.size, 0, none⟩ = some (.int .i32 xl) := by rw [cell_of_row _ _ _ _ _ _ k0]; rfl
 have c1 : x.w.cell? ⟨w.heap.size, 1, none⟩ = some (.int .i32 xh) := by rw [cell_of_row _ _ _ _ _ _ k0]; rfl
 have c2 : x.w.cell? ⟨w.heap.size + 1, 0, none⟩ = some (.int .i32 0) := by rw [cell_of_row _ _ _ _ _ _ k1]; rfl
 have c3 : x.w.cell? ⟨w.heap.size + 1, 1, none⟩ = some (.int .i32 0) := by rw [cell_of_row _ _ _ _ _ _ k1]; rfl
 clear k0 k1 hbw
 go_wp2_with (go_at_call 50; refine (Calls.extq (empty_any _)).mono ?_; rintro e w' ⟨rfl, y, rfl⟩)
 all_goals
  refine bodyPost_ret (v := .agg #[.int .i32 (1), .int .i32 (xh)]) ?hr rfl ⟨rfl, ?bel⟩
  case hr =>
   simp [results, Tryd.results38, go_sem]
  case bel =>
   (repeat (first | exact Below.refl _ _ | refine Below.setCell ?_ ?_ _ | refine Ext.below ?_ ?_ _ | refine Below.alloc ?_ ?_ _)) <;> (first | (simp; done) | (simp; omega) | omega)
set_option maxHeartbeats 1000000 in
theorem without_hi (xl xh : Int) (h1 : xl ≠ 0) (h2 : xh = 0) (w : World) : Calls Tryd.prog 38 #[.agg #[.int .i32 xl, .int .i32 xh]] w fun e w' => e = .returned (.agg #[.int .i32 (xl), .int .i32 (-1)]) ∧ Below w.heap.size w w' := by
 have E := eq_iv xl xh 0 0
 have hb : (xl == 0 && xh == 0) = false := by simp [h1]
 rw [hb] at E
 have d1 : (xl == 0) = false := by simp [h1]
 have d2 : (xh == 0) = true := by simp [h2]
 clear h1 h2
 go_enter Tryd.func38, Tryd.ntmps38
 go_wp2
 refine wp_region_ext (by kernel_rfl) (by kernel_rfl) ?_
 repeat (go_big_quiet_step (exact Calls.extq (of_any 0 _)))
 refine wpQuiet_nil ?_
 rintro _ ⟨x, rfl⟩
 obtain ⟨hz2, k0, k1, hbw⟩ := two_boxes w _ _ _ _ x
 have hz1 : w.heap.size < x.w.heap.size := by omega
 have c0 : x.w.cell? ⟨w.heap.size, 0, none⟩ = some (.int .i32 xl) := by rw [cell_of_row _ _ _ _ _ _ k0]; rfl
 have c1 : x.w.cell? ⟨w.heap.size, 1, none⟩ = some (.int .i32 xh) := by rw [cell_of_row _ _ _ _ _ _ k0]; rfl
 have c2 : x.w.cell? ⟨w.heap.size + 1, 0, none⟩ = some (.int .i32 0) := by rw [cell_of_row _ _ _ _ _ _ k1]; rfl
 have c3 : x.w.cell? ⟨w.heap.size + 1, 1, none⟩ = some (.int .i32 0) := by rw [cell_of_row _ _ _ _ _ _ k1]; rfl
 clear k0 k1 hbw
 go_wp2_with (go_at_call 50; refine (Calls.extq (empty_any _)).mono ?_; rintro e w' ⟨rfl, y, rfl⟩)
 all_goals
  refine bodyPost_ret (v := .agg #[.int .i32 (xl), .int .i32 (-1)]) ?hr rfl ⟨rfl, ?bel⟩
  case hr =>
   simp [results, Tryd.results38, go_sem]
  case bel =>
   (repeat (first | exact Below.refl _ _ | refine Below.setCell ?_ ?_ _ | refine Ext.below ?_ ?_ _ | refine Below.alloc ?_ ?_ _)) <;> (first | (simp; done) | (simp; omega) | omega)
set_option maxHeartbeats 1000000 in
theorem without_no (xl xh : Int) (h1 : xl ≠ 0) (h2 : xh ≠ 0) (w : World) : Calls Tryd.prog 38 #[.agg #[.int .i32 xl, .int .i32 xh]] w fun e w' => e = .returned (.agg #[.int .i32 (xl), .int .i32 (xh)]) ∧ Below w.heap.size w w' := by
 have E := eq_iv xl xh 0 0
 have hb : (xl == 0 && xh == 0) = false := by simp [h1]
 rw [hb] at E
 have d1 : (xl == 0) = false := by simp [h1]
 have d2 : (xh == 0) = false := by simp [h2]
 clear h1 h2
 go_enter Tryd.func38, Tryd.ntmps38
 go_wp2
 refine wp_region_ext (by kernel_rfl) (by kernel_rfl) ?_
 repeat (go_big_quiet_step (exact Calls.extq (of_any 0 _)))
 refine wpQuiet_nil ?_
 rintro _ ⟨x, rfl⟩
 obtain ⟨hz2, k0, k1, hbw⟩ := two_boxes w _ _ _ _ x
 have hz1 : w.heap.size < x.w.heap.size := by omega
 have c0 : x.w.cell? ⟨w.heap.size, 0, none⟩ = some (.int .i32 xl) := by rw [cell_of_row _ _ _ _ _ _ k0]; rfl
 have c1 : x.w.cell? ⟨w.heap.size, 1, none⟩ = some (.int .i32 xh) := by rw [cell_of_row _ _ _ _ _ _ k0]; rfl
 have c2 : x.w.cell? ⟨w.heap.size + 1, 0, none⟩ = some (.int .i32 0) := by rw [cell_of_row _ _ _ _ _ _ k1]; rfl
 have c3 : x.w.cell? ⟨w.heap.size + 1, 1, none⟩ = some (.int .i32 0) := by rw [cell_of_row _ _ _ _ _ _ k1]; rfl
 clear k0 k1 hbw
 go_wp2_with (go_at_call 50; refine (Calls.extq (empty_any _)).mono ?_; rintro e w' ⟨rfl, y, rfl⟩)
 all_goals
  refine bodyPost_ret (v := .agg #[.int .i32 (xl), .int .i32 (xh)]) ?hr rfl ⟨rfl, ?bel⟩
  case hr =>
   simp [results, Tryd.results38, go_sem]
  case bel =>
   (repeat (first | exact Below.refl _ _ | refine Below.setCell ?_ ?_ _ | refine Ext.below ?_ ?_ _ | refine Below.alloc ?_ ?_ _)) <;> (first | (simp; done) | (simp; omega) | omega)
theorem without_any (xl xh : Int) (w : World) : Calls Tryd.prog 38 #[.agg #[.int .i32 xl, .int .i32 xh]] w fun e w' => e = .returned (.agg #[.int .i32 (withoutI (xl, xh)).1, .int .i32 (withoutI (xl, xh)).2]) ∧ Below w.heap.size w w' := by
 by_cases h1 : xl = 0 <;> by_cases h2 : xh = 0
 ·refine (without_zz xl xh h1 h2 w).mono fun e w' ⟨q, hb⟩ => ⟨q.trans ?_, hb⟩
  simp [withoutI, h1, h2]
 ·refine (without_lo xl xh h1 h2 w).mono fun e w' ⟨q, hb⟩ => ⟨q.trans ?_, hb⟩
  simp [withoutI, h1, h2]
 ·refine (without_hi xl xh h1 h2 w).mono fun e w' ⟨q, hb⟩ => ⟨q.trans ?_, hb⟩
  simp [withoutI, h1, h2]
 ·refine (without_no xl xh h1 h2 w).mono fun e w' ⟨q, hb⟩ => ⟨q.trans ?_, hb⟩
  simp [withoutI, h1, h2]

theorem properR_no {r : RG} {k : Nat} (hk : k < r.length) (h : (rg r (k : Int)).2 < (rg r (k : Int)).1) : properR r = false := by
 have : r.all (fun x => decide (x.1 ≤ x.2)) = false := by
  rw [List.all_eq_false]
  refine ⟨rg r (k : Int), List.mem_of_getElem? (get_rg hk), ?_⟩
  simp; omega
 simp [properR, this]
theorem properR_all {r : RG} (h : ∀ k, k < r.length → (rg r (k : Int)).1 ≤ (rg r (k : Int)).2) : properR r = decide (rg r 0 = (0, 0)) := by
 have : r.all (fun x => decide (x.1 ≤ x.2)) = true := by
  rw [List.all_eq_true]
  intro x hx
  obtain ⟨k, hk⟩ := List.mem_iff_getElem?.1 hx
  have hl := (List.getElem?_eq_some_iff.1 hk).1
  have e := get_rg hl
  rw [hk] at e
  have := h k hl
  rw [← Option.some.inj e] at this
  simpa using this
 simp [properR, this]
set_option maxRecDepth 100000 in
set_option maxHeartbeats 1000000 in
theorem proper_any (r : RG) (hr : r.length = 16) (w : World) : Calls Tryd.prog 35 #[.agg (cellsR r).toArray] w fun e w' => e = .returned (.bool (properR r)) ∧ Below w.heap.size w w' := by
 obtain ⟨V, hV⟩ : ∃ V, w.alloc (.cells (cellsR r).toArray 27) = V := ⟨_, rfl⟩
 have bV : Below w.heap.size w V := hV ▸ (Below.refl _ _).alloc (Nat.le_refl _) _
 have kV : RBox V w.heap.size 27 r := by rw [← hV]; exact heap_alloc_new _ _
 have hrg := kV.range
 have hi27 : (Tryd.prog.info? 27).map (·.size) = some (cellsR r).length := by rw [cellsR_len, hr]; kernel_rfl
 have sV := kV.lt
 have KV := Lib.hid kV
 have BV := Lib.hid bV
 have HR := Lib.hid hr
 clear kV bV hr
 go_enter Tryd.func35, Tryd.ntmps35
 go_upto_region 2 with (refine wpList_load_mid rfl 27 (.tmp 1) rfl w.heap.size 0 rfl (cellsR r) _ hrg Tryd.underlying27 rfl hi27 ?_)
 clear hV
 go_loopw [4, 6] (fun a4 a6 wr => ∃ k : Nat, k ≤ 16 ∧ a6 = .int .i64 (k : Int) ∧ (∀ j : Nat, j < k → (rg r (j : Int)).1 ≤ (rg r (j : Int)).2) ∧ Below V.heap.size V wr) (fun _ a6 _ => 16 - (intOf a6).toNat)
 case atStart => exact ⟨0, by omega, rfl, fun j hj => by omega, Below.refl _ _⟩
 case round =>
  obtain ⟨k, hk, rfl, hall, hb⟩ := hrel
  have HA := Lib.hid hall
  have HB := Lib.hid hb
  have hsz := hb.size
  clear hall hb
  by_cases hlt : k < 16
  ·have dl : decide ((k : Int) < 16) = true := decide_eq_true (by omega)
   have hix := index_regs HR.out hlt
   obtain ⟨lo, hlo⟩ : ∃ lo, (rg r (k : Int)).1 = lo := ⟨_, rfl⟩
   obtain ⟨hi, hhi⟩ : ∃ hi, (rg r (k : Int)).2 = hi := ⟨_, rfl⟩
   rw [hlo, hhi] at hix
   have HLO := Lib.hid hlo
   have HHI := Lib.hid hhi
   clear hlo hhi
   have HIE := Lib.hid (isEmpty_any lo hi)
   by_cases he : hi < lo
   ·have d2 : decide (hi < lo) = true := decide_eq_true he
    go_wp2_with (go_at_call 39; refine (HIE.out _).mono ?_; rintro e w' ⟨rfl, hb2⟩)
    go_ret
    refine ⟨by rw [properR_no (by rw [HR.out]; exact hlt) (by rw [HLO.out, HHI.out]; exact he)]; rfl, BV.out.trans ((HB.out.trans ?_).mono BV.out.size)⟩
    exact (((Below.refl _ _).alloc (Nat.le_refl _) _).trans (hb2.mono (by simp))).mono hsz
   ·have d2 : decide (hi < lo) = false := decide_eq_false he
    go_wp2_with (go_at_call 39; refine (HIE.out _).mono ?_; rintro e w' ⟨rfl, hb2⟩)
    go_roundw
    case rel =>
     refine ⟨k + 1, by omega, by go_num, fun j hj => ?_, HB.out.trans ((((Below.refl _ _).alloc (Nat.le_refl _) _).trans (hb2.mono (by simp))).mono hsz)⟩
     by_cases hjk : j = k
     ·subst hjk; rw [HLO.out, HHI.out]; omega
     ·exact HA.out j (by omega)
    case measure => simp [intOf]; omega
  ·have HK := Lib.hid (show k = 16 by omega)
   have HP := Lib.hid (properR_all (r := r) (fun j hj => HA.out j (by rw [HR.out] at hj; rw [HK.out]; exact hj)))
   have KW := KV.out.keep HB.out
   obtain ⟨lo, hlo⟩ : ∃ lo, (rg r 0).1 = lo := ⟨_, rfl⟩
   obtain ⟨hi, hhi⟩ : ∃ hi, (rg r 0).2 = hi := ⟨_, rfl⟩
   have c0 : wr.cell? ⟨w.heap.size, 0, none⟩ = some (.int .i32 lo) := by rw [← hlo]; simpa using KW.lo (k := 0) (by rw [HR.out]; omega)
   have c1 : wr.cell? ⟨w.heap.size, 1, none⟩ = some (.int .i32 hi) := by rw [← hhi]; simpa using KW.hi (k := 0) (by rw [HR.out]; omega)
   have E := eq_iv lo hi 0 0
   have HQ := Lib.hid (show properR r = (lo == 0 && hi == 0) by
    rw [HP.out, ← hlo, ← hhi, Bool.eq_iff_iff, decide_eq_true_eq, Bool.and_eq_true, beq_iff_eq, beq_iff_eq, Prod.ext_iff])
   have sW : w.heap.size < wr.heap.size := by omega
   clear KW hlo hhi hrg
   have dl : decide ((k : Int) < 16) = false := decide_eq_false (by omega)
   go_upto_region 7 with fail
   refine wp_region_ext (by kernel_rfl) (by kernel_rfl) ?_
   repeat (go_big_quiet_step (exact Calls.extq (of_any 0 _)))
   refine wpQuiet_nil ?_
   rintro _ ⟨x, rfl⟩
   go_wp2_with fail
   go_ret
   exact ⟨by rw [HQ.out]; rfl, BV.out.trans ((HB.out.trans (x.h.mono hsz)).mono BV.out.size)⟩

end Go.Proofs.YtebklpnkcicpjaaDoor


