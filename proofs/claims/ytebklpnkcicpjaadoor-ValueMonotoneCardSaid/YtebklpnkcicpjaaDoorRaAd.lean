/-
 What is proved here: what Address returns.
-/
import Derived.Test.YtebklpnkcicpjaaDoorRaAf
import Derived.Test.YtebklpnkcicpjaaDoorRaMono
namespace Go.Proofs.YtebklpnkcicpjaaDoor
open Go.RowKit
set_option linter.unusedVariables false
set_option linter.unusedSimpArgs false

set_option maxHeartbeats 1000000 in
theorem near_any (n : Int) (w : World) : Calls Tryd.prog 51 #[.int .i64 n] w fun e w' => e = .returned (.int .i32 (nearI n)) ∧ w = w' := by
 have HN := Lib.hid (show min (max n (-2147483648)) 2147483647 = nearI n by
  unfold nearI
  (repeat' split) <;> omega)
 go_enter Tryd.func51, Tryd.ntmps51
 go_wp2_with fail
 all_goals
  go_ret
  refine ⟨?_, by first | rfl | trivial⟩
  rw [← HN.out]
  rfl
theorem iv_box {w : World} {b : Nat} {l h : Int} {T : TypeId} (hb : w.heap[b]? = some (.cells #[.int .i32 l, .int .i32 h] T (0, 0))) : w.cell? ⟨b, 0, none⟩ = some (.int .i32 l) ∧ w.cell? ⟨b, 1, none⟩ = some (.int .i32 h) ∧ w.frozen? ⟨b, 0, none⟩ = false ∧ w.frozen? ⟨b, 1, none⟩ = false ∧ b < w.heap.size :=
 ⟨by simp [World.cell?, hb], by simp [World.cell?, hb], by simp [World.frozen?, hb], by simp [World.frozen?, hb], (Array.getElem?_eq_some_iff.1 hb).1⟩

set_option maxRecDepth 100000 in
set_option maxHeartbeats 2000000 in
theorem address_no (op a b c im : Int) (h0 : 0 ≤ op) (hop : op ≠ 18 ∧ op ≠ 19 ∧ op ≠ 20 ∧ op ≠ 21) (r : RG) (hr : R16 r) (w : World) (T : Tab w) :
  Calls Tryd.prog 25 #[.agg #[.int .u8 op, .int .i64 a, .int .i64 b, .int .i64 c, .int .i64 im], .agg (cellsR r).toArray] w fun e w' => e = .returned (.agg #[.int .i32 1, .int .i32 0]) ∧ Below w.heap.size w w' := by
 have e1 : (op == 18) = false := by rw [beq_eq_false_iff_ne]; exact hop.1
 have e2 : (op == 19) = false := by rw [beq_eq_false_iff_ne]; exact hop.2.1
 have e3 : (op == 20) = false := by rw [beq_eq_false_iff_ne]; exact hop.2.2.1
 have e4 : (op == 21) = false := by rw [beq_eq_false_iff_ne]; exact hop.2.2.2
 clear hop
 obtain ⟨V, hV, k0, k1, k2, bV, sV⟩ := three_new w #[.int .u8 op, .int .i64 a, .int .i64 b, .int .i64 c, .int .i64 im] (cellsR r).toArray #[.int .i32 0, .int .i32 0] 23 27 25
 obtain ⟨a0, a1, a2, a3, a4, lV⟩ := ins_block k0
 obtain ⟨o0, o1, o2, o3, lO⟩ := iv_box k2
 have K1 := Lib.hid (show RBox V (w.heap.size + 1) 27 r from k1)
 have K2 := Lib.hid k2
 have BV := Lib.hid bV
 have HVA := Lib.hid (Calls.ext (valid_any ⟨op, a, b, c, im⟩ h0 V (T.below bV)))
 have HEM := Lib.hid (fun x : Ext V => Calls.extq (x := x) (empty_any x.w))
 have HHR := Lib.hid hr
 clear k0 k1 k2 bV hr
 have HE0 := Lib.hid (Calls.ext (empty_any V))
 go_enter Tryd.func25, Tryd.ntmps25
 go_upto_region 1 with fail
 clear hV
 go_wp2_with (first | (go_at_call 50; refine HE0.out.mono ?_; rintro e w' ⟨rfl, y, rfl⟩) | (refine wpList_store_row rfl 25 (.tmp 4) (.tmp 9) rfl (w.heap.size + 1 + 1) #[.int .i32 1, .int .i32 0] rfl rfl 25 _ ((Ext.h _).block _ lO |>.trans K2.out) (by kernel_rfl) rfl (by simp [Value.oneCell']) ?_))
 refine bodyPost_ret (results_cell (P := Tryd.prog) Tryd.results25 _ _ (w.heap.size + 1 + 1) [.int .i32 1, .int .i32 0] _ rfl (rangeAt_block (setRow_heap _ _ _ _ _ _ ((Ext.h _).block _ lO |>.trans K2.out))) Tryd.underlying25 rfl (by kernel_rfl)) rfl ⟨rfl, below_setRow (BV.out.trans ((Ext.h _).mono BV.out.size)) (by omega) _⟩

set_option maxRecDepth 100000 in
set_option maxHeartbeats 2000000 in
theorem address_18 (a b c im : Int) (r : RG) (hr : R16 r) (w : World) (T : Tab w) :
  Calls Tryd.prog 25 #[.agg #[.int .u8 18, .int .i64 a, .int .i64 b, .int .i64 c, .int .i64 im], .agg (cellsR r).toArray] w fun e w' => e = .returned (.agg #[.int .i32 (addrR ⟨18, a, b, c, im⟩ r).1, .int .i32 (addrR ⟨18, a, b, c, im⟩ r).2]) ∧ Below w.heap.size w w' := by
 have h0 : (0 : Int) ≤ 18 := by omega
 obtain ⟨V, hV, k0, k1, k2, bV, sV⟩ := three_new w #[.int .u8 18, .int .i64 a, .int .i64 b, .int .i64 c, .int .i64 im] (cellsR r).toArray #[.int .i32 0, .int .i32 0] 23 27 25
 obtain ⟨a0, a1, a2, a3, a4, lV⟩ := ins_block k0
 obtain ⟨o0, o1, o2, o3, lO⟩ := iv_box k2
 have K1 := Lib.hid (show RBox V (w.heap.size + 1) 27 r from k1)
 have K2 := Lib.hid k2
 have BV := Lib.hid bV
 have HVA := Lib.hid (Calls.ext (valid_any ⟨18, a, b, c, im⟩ h0 V (T.below bV)))
 have HEM := Lib.hid (fun x : Ext V => Calls.extq (x := x) (empty_any x.w))
 have HHR := Lib.hid hr
 clear k0 k1 k2 bV hr
 have HE0 := Lib.hid (fun x : Ext V => Calls.extq (x := x) (empty_any x.w))
 rcases hv : validI ⟨18, a, b, c, im⟩ with _ | _
 ·rw [hv] at HVA
  have HAD := Lib.hid (show addrR ⟨18, a, b, c, im⟩ r = (1, 0) by unfold addrR; rw [if_neg (by rw [hv]; simp)])
  clear hv
  go_enter Tryd.func25, Tryd.ntmps25
  go_upto_region 1 with fail
  clear hV
  go_wp2_with (first | (go_at_call 11; refine HVA.out.mono ?_; rintro e w' ⟨rfl, y, rfl⟩) | (go_at_call 50; refine (HE0.out _).mono ?_; rintro e w' ⟨rfl, y2, rfl⟩) | (refine wpList_store_row rfl 25 (.tmp 4) (.tmp 25) rfl (w.heap.size + 1 + 1) #[.int .i32 1, .int .i32 0] rfl rfl 25 _ ((Ext.h _).block _ lO |>.trans K2.out) (by kernel_rfl) rfl (by simp [Value.oneCell']) ?_))
  rw [HAD.out]
  refine bodyPost_ret (results_cell (P := Tryd.prog) Tryd.results25 _ _ (w.heap.size + 1 + 1) [.int .i32 1, .int .i32 0] _ rfl (rangeAt_block (setRow_heap _ _ _ _ _ _ ((Ext.h _).block _ lO |>.trans K2.out))) Tryd.underlying25 rfl (by kernel_rfl)) rfl ⟨rfl, below_setRow (BV.out.trans ((Ext.h _).mono BV.out.size)) (by omega) _⟩
 ·rw [hv] at HVA
  obtain ⟨-, ⟨b1, b2⟩, -, i1, i2⟩ := valid_in h0 hv
  simp only at b1 b2 i1 i2
  obtain ⟨bn, rfl⟩ : ∃ n : Nat, b = (n : Int) := ⟨b.toNat, by omega⟩
  have hb : bn < 16 := by omega
  obtain ⟨xl, hxl⟩ : ∃ v, (rg r (bn : Int)).1 = v := ⟨_, rfl⟩
  obtain ⟨xh, hxh⟩ : ∃ v, (rg r (bn : Int)).2 = v := ⟨_, rfl⟩
  have r4 : V.cell? ⟨w.heap.size + 1, bn * 2, none⟩ = some (.int .i32 xl) := by rw [← hxl]; exact K1.out.lo (by rw [HHR.out.len]; exact hb)
  have r5 : V.cell? ⟨w.heap.size + 1, bn * 2 + 1, none⟩ = some (.int .i32 xh) := by rw [← hxh]; exact K1.out.hi (by rw [HHR.out.len]; exact hb)
  have hw := HHR.out.at_ (bn : Int)
  rw [hxl, hxh] at hw
  have ib : (bn : Int) < 16 := by omega
  have lR : w.heap.size + 1 < V.heap.size := by omega
  have HIE := Lib.hid (fun x : Ext V => Calls.extq (x := x) (isEmpty_any xl xh x.w))
  by_cases he : xh < xl
  ·have d := decide_eq_true he
   have HAD := Lib.hid (show addrR ⟨18, a, bn, c, im⟩ r = (1, 0) by
    unfold addrR
    rw [if_neg (by
     rintro ⟨_, _, h⟩
     unfold emp at h
     rw [show rg r ((⟨18, a, (bn : Int), c, im⟩ : Ins)).b = rg r (bn : Int) from rfl, hxl, hxh] at h
     simp at h
     omega)])
   clear hv hxl hxh he
   go_enter Tryd.func25, Tryd.ntmps25
   go_upto_region 1 with fail
   clear hV
   go_wp2_with (first | (go_at_call 11; refine HVA.out.mono ?_; rintro e w' ⟨rfl, y, rfl⟩) | (go_at_call 39; refine (HIE.out _).mono ?_; rintro e w' ⟨rfl, y3, rfl⟩) | (go_at_call 50; refine (HE0.out _).mono ?_; rintro e w' ⟨rfl, y2, rfl⟩) | (refine wpList_store_row rfl 25 (.tmp 4) (.tmp 25) rfl (w.heap.size + 1 + 1) #[.int .i32 1, .int .i32 0] rfl rfl 25 _ ((Ext.h _).block _ lO |>.trans K2.out) (by kernel_rfl) rfl (by simp [Value.oneCell']) ?_))
   rw [HAD.out]
   refine bodyPost_ret (results_cell (P := Tryd.prog) Tryd.results25 _ _ (w.heap.size + 1 + 1) [.int .i32 1, .int .i32 0] _ rfl (rangeAt_block (setRow_heap _ _ _ _ _ _ ((Ext.h _).block _ lO |>.trans K2.out))) Tryd.underlying25 rfl (by kernel_rfl)) rfl ⟨rfl, below_setRow (BV.out.trans ((Ext.h _).mono BV.out.size)) (by omega) _⟩
  ·have d := decide_eq_false he
   have HAD := Lib.hid (show addrR ⟨18, a, bn, c, im⟩ r = (nearI (xl + im), nearI (xh + im)) by
    unfold addrR
    rw [if_pos ⟨by simp, hv, by
     unfold emp
     rw [show rg r ((⟨18, a, (bn : Int), c, im⟩ : Ins)).b = rg r (bn : Int) from rfl, hxl, hxh]
     simpa using he⟩]
    show (nearI ((rg r (bn : Int)).1 + im), nearI ((rg r (bn : Int)).2 + im)) = _
    rw [hxl, hxh])
   unfold W32 at hw
   have w1 : IntKind.i64.wrap (xl + im) = xl + im := IntWalk.i64_in _ (by omega)
   have w2 : IntKind.i64.wrap (xh + im) = xh + im := IntWalk.i64_in _ (by omega)
   have hcf : ∀ (args : Array Value) (w : World), (callFunc 51 args).run Tryd.prog w = .ok (.enter 51 args) w := fun _ _ => by kernel_rfl
   have HNE := Lib.hid near_any
   clear hv hxl hxh he
   go_enter Tryd.func25, Tryd.ntmps25
   go_upto_region 1 with fail
   clear hV
   go_upto_region 11 with (first | (go_at_call 11; refine HVA.out.mono ?_; rintro e w' ⟨rfl, y, rfl⟩) | (go_at_call 39; refine (HIE.out _).mono ?_; rintro e w' ⟨rfl, y3, rfl⟩))
   refine wp_region_extq_tail 21 (by kernel_rfl) (by kernel_rfl) ?_
   simp only [List.take_succ_cons, List.take_zero, List.drop_succ_cons, List.drop_zero]
   repeat (go_big_quiet_step (exact Calls.extq_same (HNE.out _ _)))
   refine wpQuiet_nil ?_
   rintro _ ⟨x1, rfl⟩
   go_wp2_with (refine wpList_store_row rfl 25 (.tmp 4) (.tmp 48) rfl (w.heap.size + 1 + 1) #[.int .i32 (nearI (xl + im)), .int .i32 (nearI (xh + im))] rfl rfl 25 _ ((Ext.h _).block _ lO |>.trans K2.out) (by kernel_rfl) rfl (by simp [Value.oneCell']) ?_)
   rw [HAD.out]
   refine bodyPost_ret (results_cell (P := Tryd.prog) Tryd.results25 _ _ (w.heap.size + 1 + 1) [.int .i32 (nearI (xl + im)), .int .i32 (nearI (xh + im))] _ rfl (rangeAt_block (setRow_heap _ _ _ _ _ _ ((Ext.h _).block _ lO |>.trans K2.out))) Tryd.underlying25 rfl (by kernel_rfl)) rfl ⟨rfl, below_setRow (BV.out.trans ((Ext.h _).mono BV.out.size)) (by omega) _⟩

set_option maxRecDepth 100000 in
set_option maxHeartbeats 2000000 in
theorem address_19 (a b c im : Int) (r : RG) (hr : R16 r) (w : World) (T : Tab w) :
  Calls Tryd.prog 25 #[.agg #[.int .u8 19, .int .i64 a, .int .i64 b, .int .i64 c, .int .i64 im], .agg (cellsR r).toArray] w fun e w' => e = .returned (.agg #[.int .i32 (addrR ⟨19, a, b, c, im⟩ r).1, .int .i32 (addrR ⟨19, a, b, c, im⟩ r).2]) ∧ Below w.heap.size w w' := by
 have h0 : (0 : Int) ≤ 19 := by omega
 obtain ⟨V, hV, k0, k1, k2, bV, sV⟩ := three_new w #[.int .u8 19, .int .i64 a, .int .i64 b, .int .i64 c, .int .i64 im] (cellsR r).toArray #[.int .i32 0, .int .i32 0] 23 27 25
 obtain ⟨a0, a1, a2, a3, a4, lV⟩ := ins_block k0
 obtain ⟨o0, o1, o2, o3, lO⟩ := iv_box k2
 have K1 := Lib.hid (show RBox V (w.heap.size + 1) 27 r from k1)
 have K2 := Lib.hid k2
 have BV := Lib.hid bV
 have HVA := Lib.hid (Calls.ext (valid_any ⟨19, a, b, c, im⟩ h0 V (T.below bV)))
 have HEM := Lib.hid (fun x : Ext V => Calls.extq (x := x) (empty_any x.w))
 have HHR := Lib.hid hr
 clear k0 k1 k2 bV hr
 have HE0 := Lib.hid (fun x : Ext V => Calls.extq (x := x) (empty_any x.w))
 rcases hv : validI ⟨19, a, b, c, im⟩ with _ | _
 ·rw [hv] at HVA
  have HAD := Lib.hid (show addrR ⟨19, a, b, c, im⟩ r = (1, 0) by unfold addrR; rw [if_neg (by rw [hv]; simp)])
  clear hv
  go_enter Tryd.func25, Tryd.ntmps25
  go_upto_region 1 with fail
  clear hV
  go_wp2_with (first | (go_at_call 11; refine HVA.out.mono ?_; rintro e w' ⟨rfl, y, rfl⟩) | (go_at_call 50; refine (HE0.out _).mono ?_; rintro e w' ⟨rfl, y2, rfl⟩) | (refine wpList_store_row rfl 25 (.tmp 4) (.tmp 25) rfl (w.heap.size + 1 + 1) #[.int .i32 1, .int .i32 0] rfl rfl 25 _ ((Ext.h _).block _ lO |>.trans K2.out) (by kernel_rfl) rfl (by simp [Value.oneCell']) ?_))
  rw [HAD.out]
  refine bodyPost_ret (results_cell (P := Tryd.prog) Tryd.results25 _ _ (w.heap.size + 1 + 1) [.int .i32 1, .int .i32 0] _ rfl (rangeAt_block (setRow_heap _ _ _ _ _ _ ((Ext.h _).block _ lO |>.trans K2.out))) Tryd.underlying25 rfl (by kernel_rfl)) rfl ⟨rfl, below_setRow (BV.out.trans ((Ext.h _).mono BV.out.size)) (by omega) _⟩
 ·rw [hv] at HVA
  obtain ⟨-, ⟨b1, b2⟩, -, i1, i2⟩ := valid_in h0 hv
  simp only at b1 b2 i1 i2
  obtain ⟨bn, rfl⟩ : ∃ n : Nat, b = (n : Int) := ⟨b.toNat, by omega⟩
  have hb : bn < 16 := by omega
  obtain ⟨xl, hxl⟩ : ∃ v, (rg r (bn : Int)).1 = v := ⟨_, rfl⟩
  obtain ⟨xh, hxh⟩ : ∃ v, (rg r (bn : Int)).2 = v := ⟨_, rfl⟩
  have r4 : V.cell? ⟨w.heap.size + 1, bn * 2, none⟩ = some (.int .i32 xl) := by rw [← hxl]; exact K1.out.lo (by rw [HHR.out.len]; exact hb)
  have r5 : V.cell? ⟨w.heap.size + 1, bn * 2 + 1, none⟩ = some (.int .i32 xh) := by rw [← hxh]; exact K1.out.hi (by rw [HHR.out.len]; exact hb)
  have hw := HHR.out.at_ (bn : Int)
  rw [hxl, hxh] at hw
  have ib : (bn : Int) < 16 := by omega
  have lR : w.heap.size + 1 < V.heap.size := by omega
  have HIE := Lib.hid (fun x : Ext V => Calls.extq (x := x) (isEmpty_any xl xh x.w))
  by_cases he : xh < xl
  ·have d := decide_eq_true he
   have HAD := Lib.hid (show addrR ⟨19, a, bn, c, im⟩ r = (1, 0) by
    unfold addrR
    rw [if_neg (by
     rintro ⟨_, _, h⟩
     unfold emp at h
     rw [show rg r ((⟨19, a, (bn : Int), c, im⟩ : Ins)).b = rg r (bn : Int) from rfl, hxl, hxh] at h
     simp at h
     omega)])
   clear hv hxl hxh he
   go_enter Tryd.func25, Tryd.ntmps25
   go_upto_region 1 with fail
   clear hV
   go_wp2_with (first | (go_at_call 11; refine HVA.out.mono ?_; rintro e w' ⟨rfl, y, rfl⟩) | (go_at_call 39; refine (HIE.out _).mono ?_; rintro e w' ⟨rfl, y3, rfl⟩) | (go_at_call 50; refine (HE0.out _).mono ?_; rintro e w' ⟨rfl, y2, rfl⟩) | (refine wpList_store_row rfl 25 (.tmp 4) (.tmp 25) rfl (w.heap.size + 1 + 1) #[.int .i32 1, .int .i32 0] rfl rfl 25 _ ((Ext.h _).block _ lO |>.trans K2.out) (by kernel_rfl) rfl (by simp [Value.oneCell']) ?_))
   rw [HAD.out]
   refine bodyPost_ret (results_cell (P := Tryd.prog) Tryd.results25 _ _ (w.heap.size + 1 + 1) [.int .i32 1, .int .i32 0] _ rfl (rangeAt_block (setRow_heap _ _ _ _ _ _ ((Ext.h _).block _ lO |>.trans K2.out))) Tryd.underlying25 rfl (by kernel_rfl)) rfl ⟨rfl, below_setRow (BV.out.trans ((Ext.h _).mono BV.out.size)) (by omega) _⟩
  ·have d := decide_eq_false he
   have HAD := Lib.hid (show addrR ⟨19, a, bn, c, im⟩ r = (nearI (xl + im), nearI (xh + im)) by
    unfold addrR
    rw [if_pos ⟨by simp, hv, by
     unfold emp
     rw [show rg r ((⟨19, a, (bn : Int), c, im⟩ : Ins)).b = rg r (bn : Int) from rfl, hxl, hxh]
     simpa using he⟩]
    show (nearI ((rg r (bn : Int)).1 + im), nearI ((rg r (bn : Int)).2 + im)) = _
    rw [hxl, hxh])
   unfold W32 at hw
   have w1 : IntKind.i64.wrap (xl + im) = xl + im := IntWalk.i64_in _ (by omega)
   have w2 : IntKind.i64.wrap (xh + im) = xh + im := IntWalk.i64_in _ (by omega)
   have hcf : ∀ (args : Array Value) (w : World), (callFunc 51 args).run Tryd.prog w = .ok (.enter 51 args) w := fun _ _ => by kernel_rfl
   have HNE := Lib.hid near_any
   clear hv hxl hxh he
   go_enter Tryd.func25, Tryd.ntmps25
   go_upto_region 1 with fail
   clear hV
   go_upto_region 11 with (first | (go_at_call 11; refine HVA.out.mono ?_; rintro e w' ⟨rfl, y, rfl⟩) | (go_at_call 39; refine (HIE.out _).mono ?_; rintro e w' ⟨rfl, y3, rfl⟩))
   refine wp_region_extq_tail 21 (by kernel_rfl) (by kernel_rfl) ?_
   simp only [List.take_succ_cons, List.take_zero, List.drop_succ_cons, List.drop_zero]
   repeat (go_big_quiet_step (exact Calls.extq_same (HNE.out _ _)))
   refine wpQuiet_nil ?_
   rintro _ ⟨x1, rfl⟩
   go_wp2_with (refine wpList_store_row rfl 25 (.tmp 4) (.tmp 48) rfl (w.heap.size + 1 + 1) #[.int .i32 (nearI (xl + im)), .int .i32 (nearI (xh + im))] rfl rfl 25 _ ((Ext.h _).block _ lO |>.trans K2.out) (by kernel_rfl) rfl (by simp [Value.oneCell']) ?_)
   rw [HAD.out]
   refine bodyPost_ret (results_cell (P := Tryd.prog) Tryd.results25 _ _ (w.heap.size + 1 + 1) [.int .i32 (nearI (xl + im)), .int .i32 (nearI (xh + im))] _ rfl (rangeAt_block (setRow_heap _ _ _ _ _ _ ((Ext.h _).block _ lO |>.trans K2.out))) Tryd.underlying25 rfl (by kernel_rfl)) rfl ⟨rfl, below_setRow (BV.out.trans ((Ext.h _).mono BV.out.size)) (by omega) _⟩

set_option maxRecDepth 100000 in
set_option maxHeartbeats 2000000 in
theorem address_20 (a b c im : Int) (r : RG) (hr : R16 r) (w : World) (T : Tab w) :
  Calls Tryd.prog 25 #[.agg #[.int .u8 20, .int .i64 a, .int .i64 b, .int .i64 c, .int .i64 im], .agg (cellsR r).toArray] w fun e w' => e = .returned (.agg #[.int .i32 (addrR ⟨20, a, b, c, im⟩ r).1, .int .i32 (addrR ⟨20, a, b, c, im⟩ r).2]) ∧ Below w.heap.size w w' := by
 have h0 : (0 : Int) ≤ 20 := by omega
 obtain ⟨V, hV, k0, k1, k2, bV, sV⟩ := three_new w #[.int .u8 20, .int .i64 a, .int .i64 b, .int .i64 c, .int .i64 im] (cellsR r).toArray #[.int .i32 0, .int .i32 0] 23 27 25
 obtain ⟨a0, a1, a2, a3, a4, lV⟩ := ins_block k0
 obtain ⟨o0, o1, o2, o3, lO⟩ := iv_box k2
 have K1 := Lib.hid (show RBox V (w.heap.size + 1) 27 r from k1)
 have K2 := Lib.hid k2
 have BV := Lib.hid bV
 have HVA := Lib.hid (Calls.ext (valid_any ⟨20, a, b, c, im⟩ h0 V (T.below bV)))
 have HEM := Lib.hid (fun x : Ext V => Calls.extq (x := x) (empty_any x.w))
 have HHR := Lib.hid hr
 clear k0 k1 k2 bV hr
 have HE0 := Lib.hid (fun x : Ext V => Calls.extq (x := x) (empty_any x.w))
 rcases hv : validI ⟨20, a, b, c, im⟩ with _ | _
 ·rw [hv] at HVA
  have HAD := Lib.hid (show addrR ⟨20, a, b, c, im⟩ r = (1, 0) by unfold addrR; rw [if_neg (by rw [hv]; simp)])
  clear hv
  go_enter Tryd.func25, Tryd.ntmps25
  go_upto_region 1 with fail
  clear hV
  go_wp2_with (first | (go_at_call 11; refine HVA.out.mono ?_; rintro e w' ⟨rfl, y, rfl⟩) | (go_at_call 50; refine (HE0.out _).mono ?_; rintro e w' ⟨rfl, y2, rfl⟩) | (refine wpList_store_row rfl 25 (.tmp 4) (.tmp 25) rfl (w.heap.size + 1 + 1) #[.int .i32 1, .int .i32 0] rfl rfl 25 _ ((Ext.h _).block _ lO |>.trans K2.out) (by kernel_rfl) rfl (by simp [Value.oneCell']) ?_))
  rw [HAD.out]
  refine bodyPost_ret (results_cell (P := Tryd.prog) Tryd.results25 _ _ (w.heap.size + 1 + 1) [.int .i32 1, .int .i32 0] _ rfl (rangeAt_block (setRow_heap _ _ _ _ _ _ ((Ext.h _).block _ lO |>.trans K2.out))) Tryd.underlying25 rfl (by kernel_rfl)) rfl ⟨rfl, below_setRow (BV.out.trans ((Ext.h _).mono BV.out.size)) (by omega) _⟩
 ·rw [hv] at HVA
  obtain ⟨-, ⟨b1, b2⟩, -, i1, i2⟩ := valid_in h0 hv
  simp only at b1 b2 i1 i2
  obtain ⟨bn, rfl⟩ : ∃ n : Nat, b = (n : Int) := ⟨b.toNat, by omega⟩
  have hb : bn < 16 := by omega
  obtain ⟨xl, hxl⟩ : ∃ v, (rg r (bn : Int)).1 = v := ⟨_, rfl⟩
  obtain ⟨xh, hxh⟩ : ∃ v, (rg r (bn : Int)).2 = v := ⟨_, rfl⟩
  have r4 : V.cell? ⟨w.heap.size + 1, bn * 2, none⟩ = some (.int .i32 xl) := by rw [← hxl]; exact K1.out.lo (by rw [HHR.out.len]; exact hb)
  have r5 : V.cell? ⟨w.heap.size + 1, bn * 2 + 1, none⟩ = some (.int .i32 xh) := by rw [← hxh]; exact K1.out.hi (by rw [HHR.out.len]; exact hb)
  have hw := HHR.out.at_ (bn : Int)
  rw [hxl, hxh] at hw
  have ib : (bn : Int) < 16 := by omega
  have lR : w.heap.size + 1 < V.heap.size := by omega
  have HIE := Lib.hid (fun x : Ext V => Calls.extq (x := x) (isEmpty_any xl xh x.w))
  by_cases he : xh < xl
  ·have d := decide_eq_true he
   have HAD := Lib.hid (show addrR ⟨20, a, bn, c, im⟩ r = (1, 0) by
    unfold addrR
    rw [if_neg (by
     rintro ⟨_, _, h⟩
     unfold emp at h
     rw [show rg r ((⟨20, a, (bn : Int), c, im⟩ : Ins)).b = rg r (bn : Int) from rfl, hxl, hxh] at h
     simp at h
     omega)])
   clear hv hxl hxh he
   go_enter Tryd.func25, Tryd.ntmps25
   go_upto_region 1 with fail
   clear hV
   go_wp2_with (first | (go_at_call 11; refine HVA.out.mono ?_; rintro e w' ⟨rfl, y, rfl⟩) | (go_at_call 39; refine (HIE.out _).mono ?_; rintro e w' ⟨rfl, y3, rfl⟩) | (go_at_call 50; refine (HE0.out _).mono ?_; rintro e w' ⟨rfl, y2, rfl⟩) | (refine wpList_store_row rfl 25 (.tmp 4) (.tmp 25) rfl (w.heap.size + 1 + 1) #[.int .i32 1, .int .i32 0] rfl rfl 25 _ ((Ext.h _).block _ lO |>.trans K2.out) (by kernel_rfl) rfl (by simp [Value.oneCell']) ?_))
   rw [HAD.out]
   refine bodyPost_ret (results_cell (P := Tryd.prog) Tryd.results25 _ _ (w.heap.size + 1 + 1) [.int .i32 1, .int .i32 0] _ rfl (rangeAt_block (setRow_heap _ _ _ _ _ _ ((Ext.h _).block _ lO |>.trans K2.out))) Tryd.underlying25 rfl (by kernel_rfl)) rfl ⟨rfl, below_setRow (BV.out.trans ((Ext.h _).mono BV.out.size)) (by omega) _⟩
  ·have d := decide_eq_false he
   have HAD := Lib.hid (show addrR ⟨20, a, bn, c, im⟩ r = (nearI (xl + im), nearI (xh + im)) by
    unfold addrR
    rw [if_pos ⟨by simp, hv, by
     unfold emp
     rw [show rg r ((⟨20, a, (bn : Int), c, im⟩ : Ins)).b = rg r (bn : Int) from rfl, hxl, hxh]
     simpa using he⟩]
    show (nearI ((rg r (bn : Int)).1 + im), nearI ((rg r (bn : Int)).2 + im)) = _
    rw [hxl, hxh])
   unfold W32 at hw
   have w1 : IntKind.i64.wrap (xl + im) = xl + im := IntWalk.i64_in _ (by omega)
   have w2 : IntKind.i64.wrap (xh + im) = xh + im := IntWalk.i64_in _ (by omega)
   have hcf : ∀ (args : Array Value) (w : World), (callFunc 51 args).run Tryd.prog w = .ok (.enter 51 args) w := fun _ _ => by kernel_rfl
   have HNE := Lib.hid near_any
   clear hv hxl hxh he
   go_enter Tryd.func25, Tryd.ntmps25
   go_upto_region 1 with fail
   clear hV
   go_upto_region 11 with (first | (go_at_call 11; refine HVA.out.mono ?_; rintro e w' ⟨rfl, y, rfl⟩) | (go_at_call 39; refine (HIE.out _).mono ?_; rintro e w' ⟨rfl, y3, rfl⟩))
   refine wp_region_extq_tail 21 (by kernel_rfl) (by kernel_rfl) ?_
   simp only [List.take_succ_cons, List.take_zero, List.drop_succ_cons, List.drop_zero]
   repeat (go_big_quiet_step (exact Calls.extq_same (HNE.out _ _)))
   refine wpQuiet_nil ?_
   rintro _ ⟨x1, rfl⟩
   go_wp2_with (refine wpList_store_row rfl 25 (.tmp 4) (.tmp 48) rfl (w.heap.size + 1 + 1) #[.int .i32 (nearI (xl + im)), .int .i32 (nearI (xh + im))] rfl rfl 25 _ ((Ext.h _).block _ lO |>.trans K2.out) (by kernel_rfl) rfl (by simp [Value.oneCell']) ?_)
   rw [HAD.out]
   refine bodyPost_ret (results_cell (P := Tryd.prog) Tryd.results25 _ _ (w.heap.size + 1 + 1) [.int .i32 (nearI (xl + im)), .int .i32 (nearI (xh + im))] _ rfl (rangeAt_block (setRow_heap _ _ _ _ _ _ ((Ext.h _).block _ lO |>.trans K2.out))) Tryd.underlying25 rfl (by kernel_rfl)) rfl ⟨rfl, below_setRow (BV.out.trans ((Ext.h _).mono BV.out.size)) (by omega) _⟩

set_option maxRecDepth 100000 in
set_option maxHeartbeats 2000000 in
theorem address_21 (a b c im : Int) (r : RG) (hr : R16 r) (w : World) (T : Tab w) :
  Calls Tryd.prog 25 #[.agg #[.int .u8 21, .int .i64 a, .int .i64 b, .int .i64 c, .int .i64 im], .agg (cellsR r).toArray] w fun e w' => e = .returned (.agg #[.int .i32 (addrR ⟨21, a, b, c, im⟩ r).1, .int .i32 (addrR ⟨21, a, b, c, im⟩ r).2]) ∧ Below w.heap.size w w' := by
 have h0 : (0 : Int) ≤ 21 := by omega
 obtain ⟨V, hV, k0, k1, k2, bV, sV⟩ := three_new w #[.int .u8 21, .int .i64 a, .int .i64 b, .int .i64 c, .int .i64 im] (cellsR r).toArray #[.int .i32 0, .int .i32 0] 23 27 25
 obtain ⟨a0, a1, a2, a3, a4, lV⟩ := ins_block k0
 obtain ⟨o0, o1, o2, o3, lO⟩ := iv_box k2
 have K1 := Lib.hid (show RBox V (w.heap.size + 1) 27 r from k1)
 have K2 := Lib.hid k2
 have BV := Lib.hid bV
 have HVA := Lib.hid (Calls.ext (valid_any ⟨21, a, b, c, im⟩ h0 V (T.below bV)))
 have HEM := Lib.hid (fun x : Ext V => Calls.extq (x := x) (empty_any x.w))
 have HHR := Lib.hid hr
 clear k0 k1 k2 bV hr
 have HE0 := Lib.hid (fun x : Ext V => Calls.extq (x := x) (empty_any x.w))
 rcases hv : validI ⟨21, a, b, c, im⟩ with _ | _
 ·rw [hv] at HVA
  have HAD := Lib.hid (show addrR ⟨21, a, b, c, im⟩ r = (1, 0) by unfold addrR; rw [if_neg (by rw [hv]; simp)])
  clear hv
  go_enter Tryd.func25, Tryd.ntmps25
  go_upto_region 1 with fail
  clear hV
  go_wp2_with (first | (go_at_call 11; refine HVA.out.mono ?_; rintro e w' ⟨rfl, y, rfl⟩) | (go_at_call 50; refine (HE0.out _).mono ?_; rintro e w' ⟨rfl, y2, rfl⟩) | (refine wpList_store_row rfl 25 (.tmp 4) (.tmp 25) rfl (w.heap.size + 1 + 1) #[.int .i32 1, .int .i32 0] rfl rfl 25 _ ((Ext.h _).block _ lO |>.trans K2.out) (by kernel_rfl) rfl (by simp [Value.oneCell']) ?_))
  rw [HAD.out]
  refine bodyPost_ret (results_cell (P := Tryd.prog) Tryd.results25 _ _ (w.heap.size + 1 + 1) [.int .i32 1, .int .i32 0] _ rfl (rangeAt_block (setRow_heap _ _ _ _ _ _ ((Ext.h _).block _ lO |>.trans K2.out))) Tryd.underlying25 rfl (by kernel_rfl)) rfl ⟨rfl, below_setRow (BV.out.trans ((Ext.h _).mono BV.out.size)) (by omega) _⟩
 ·rw [hv] at HVA
  obtain ⟨-, ⟨b1, b2⟩, -, i1, i2⟩ := valid_in h0 hv
  simp only at b1 b2 i1 i2
  obtain ⟨bn, rfl⟩ : ∃ n : Nat, b = (n : Int) := ⟨b.toNat, by omega⟩
  have hb : bn < 16 := by omega
  obtain ⟨xl, hxl⟩ : ∃ v, (rg r (bn : Int)).1 = v := ⟨_, rfl⟩
  obtain ⟨xh, hxh⟩ : ∃ v, (rg r (bn : Int)).2 = v := ⟨_, rfl⟩
  have r4 : V.cell? ⟨w.heap.size + 1, bn * 2, none⟩ = some (.int .i32 xl) := by rw [← hxl]; exact K1.out.lo (by rw [HHR.out.len]; exact hb)
  have r5 : V.cell? ⟨w.heap.size + 1, bn * 2 + 1, none⟩ = some (.int .i32 xh) := by rw [← hxh]; exact K1.out.hi (by rw [HHR.out.len]; exact hb)
  have hw := HHR.out.at_ (bn : Int)
  rw [hxl, hxh] at hw
  have ib : (bn : Int) < 16 := by omega
  have lR : w.heap.size + 1 < V.heap.size := by omega
  have HIE := Lib.hid (fun x : Ext V => Calls.extq (x := x) (isEmpty_any xl xh x.w))
  by_cases he : xh < xl
  ·have d := decide_eq_true he
   have HAD := Lib.hid (show addrR ⟨21, a, bn, c, im⟩ r = (1, 0) by
    unfold addrR
    rw [if_neg (by
     rintro ⟨_, _, h⟩
     unfold emp at h
     rw [show rg r ((⟨21, a, (bn : Int), c, im⟩ : Ins)).b = rg r (bn : Int) from rfl, hxl, hxh] at h
     simp at h
     omega)])
   clear hv hxl hxh he
   go_enter Tryd.func25, Tryd.ntmps25
   go_upto_region 1 with fail
   clear hV
   go_wp2_with (first | (go_at_call 11; refine HVA.out.mono ?_; rintro e w' ⟨rfl, y, rfl⟩) | (go_at_call 39; refine (HIE.out _).mono ?_; rintro e w' ⟨rfl, y3, rfl⟩) | (go_at_call 50; refine (HE0.out _).mono ?_; rintro e w' ⟨rfl, y2, rfl⟩) | (refine wpList_store_row rfl 25 (.tmp 4) (.tmp 25) rfl (w.heap.size + 1 + 1) #[.int .i32 1, .int .i32 0] rfl rfl 25 _ ((Ext.h _).block _ lO |>.trans K2.out) (by kernel_rfl) rfl (by simp [Value.oneCell']) ?_))
   rw [HAD.out]
   refine bodyPost_ret (results_cell (P := Tryd.prog) Tryd.results25 _ _ (w.heap.size + 1 + 1) [.int .i32 1, .int .i32 0] _ rfl (rangeAt_block (setRow_heap _ _ _ _ _ _ ((Ext.h _).block _ lO |>.trans K2.out))) Tryd.underlying25 rfl (by kernel_rfl)) rfl ⟨rfl, below_setRow (BV.out.trans ((Ext.h _).mono BV.out.size)) (by omega) _⟩
  ·have d := decide_eq_false he
   have HAD := Lib.hid (show addrR ⟨21, a, bn, c, im⟩ r = (nearI (xl + im), nearI (xh + im)) by
    unfold addrR
    rw [if_pos ⟨by simp, hv, by
     unfold emp
     rw [show rg r ((⟨21, a, (bn : Int), c, im⟩ : Ins)).b = rg r (bn : Int) from rfl, hxl, hxh]
     simpa using he⟩]
    show (nearI ((rg r (bn : Int)).1 + im), nearI ((rg r (bn : Int)).2 + im)) = _
    rw [hxl, hxh])
   unfold W32 at hw
   have w1 : IntKind.i64.wrap (xl + im) = xl + im := IntWalk.i64_in _ (by omega)
   have w2 : IntKind.i64.wrap (xh + im) = xh + im := IntWalk.i64_in _ (by omega)
   have hcf : ∀ (args : Array Value) (w : World), (callFunc 51 args).run Tryd.prog w = .ok (.enter 51 args) w := fun _ _ => by kernel_rfl
   have HNE := Lib.hid near_any
   clear hv hxl hxh he
   go_enter Tryd.func25, Tryd.ntmps25
   go_upto_region 1 with fail
   clear hV
   go_upto_region 11 with (first | (go_at_call 11; refine HVA.out.mono ?_; rintro e w' ⟨rfl, y, rfl⟩) | (go_at_call 39; refine (HIE.out _).mono ?_; rintro e w' ⟨rfl, y3, rfl⟩))
   refine wp_region_extq_tail 21 (by kernel_rfl) (by kernel_rfl) ?_
   simp only [List.take_succ_cons, List.take_zero, List.drop_succ_cons, List.drop_zero]
   repeat (go_big_quiet_step (exact Calls.extq_same (HNE.out _ _)))
   refine wpQuiet_nil ?_
   rintro _ ⟨x1, rfl⟩
   go_wp2_with (refine wpList_store_row rfl 25 (.tmp 4) (.tmp 48) rfl (w.heap.size + 1 + 1) #[.int .i32 (nearI (xl + im)), .int .i32 (nearI (xh + im))] rfl rfl 25 _ ((Ext.h _).block _ lO |>.trans K2.out) (by kernel_rfl) rfl (by simp [Value.oneCell']) ?_)
   rw [HAD.out]
   refine bodyPost_ret (results_cell (P := Tryd.prog) Tryd.results25 _ _ (w.heap.size + 1 + 1) [.int .i32 (nearI (xl + im)), .int .i32 (nearI (xh + im))] _ rfl (rangeAt_block (setRow_heap _ _ _ _ _ _ ((Ext.h _).block _ lO |>.trans K2.out))) Tryd.underlying25 rfl (by kernel_rfl)) rfl ⟨rfl, below_setRow (BV.out.trans ((Ext.h _).mono BV.out.size)) (by omega) _⟩

theorem address_any (op a b c im : Int) (h0 : 0 ≤ op) (r : RG) (hr : R16 r) (w : World) (T : Tab w) :
  Calls Tryd.prog 25 #[.agg #[.int .u8 op, .int .i64 a, .int .i64 b, .int .i64 c, .int .i64 im], .agg (cellsR r).toArray] w fun e w' => e = .returned (.agg #[.int .i32 (addrR ⟨op, a, b, c, im⟩ r).1, .int .i32 (addrR ⟨op, a, b, c, im⟩ r).2]) ∧ Below w.heap.size w w' := by
 by_cases h : op = 18 ∨ op = 19 ∨ op = 20 ∨ op = 21
 ·rcases h with rfl | rfl | rfl | rfl
  ·exact address_18 a b c im r hr w T
  ·exact address_19 a b c im r hr w T
  ·exact address_20 a b c im r hr w T
  ·exact address_21 a b c im r hr w T
 ·have e : addrR ⟨op, a, b, c, im⟩ r = (1, 0) := by unfold addrR; rw [if_neg (fun hh => h hh.1)]
  rw [e]
  exact address_no op a b c im h0 (by omega) r hr w T

end Go.Proofs.YtebklpnkcicpjaaDoor


