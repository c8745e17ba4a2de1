/-
 What is proved here: what Refine returns.
-/
import Derived.Test.YtebklpnkcicpjaaDoorFaTr
import Derived.Test.YtebklpnkcicpjaaDoorFbIa
import Derived.Test.YtebklpnkcicpjaaDoorFbCb
namespace Go.Proofs.YtebklpnkcicpjaaDoor
open Go.RowKit
set_option linter.unusedVariables false
set_option linter.unusedSimpArgs false

set_option maxRecDepth 100000 in
set_option maxHeartbeats 1000000 in
theorem refine_no (op a b c im : Int) (h0 : 0 ≤ op) (r : RG) (hr : R16 r) (tk : Bool) (w : World) (T : Tab w) (hno : validI ⟨op, a, b, c, im⟩ = false ∨ (validI ⟨op, a, b, c, im⟩ = true ∧ properR r = false)) :
  Calls Tryd.prog 13 #[.agg #[.int .u8 op, .int .i64 a, .int .i64 b, .int .i64 c, .int .i64 im], .agg (cellsR r).toArray, .bool tk] w fun e w' => e = .returned (outR none) ∧ Below w.heap.size w w' := by
 obtain ⟨V, hV, k0, k1, k2, bV, sV⟩ := three_new w #[.int .u8 op, .int .i64 a, .int .i64 b, .int .i64 c, .int .i64 im] (cellsR r).toArray #[.int .i32 0, .int .i32 0, .int .i32 0, .int .i32 0, .int .i32 0, .int .i32 0, .int .i32 0, .int .i32 0, .int .i32 0, .int .i32 0, .int .i32 0, .int .i32 0, .int .i32 0, .int .i32 0, .int .i32 0, .int .i32 0, .int .i32 0, .int .i32 0, .int .i32 0, .int .i32 0, .int .i32 0, .int .i32 0, .int .i32 0, .int .i32 0, .int .i32 0, .int .i32 0, .int .i32 0, .int .i32 0, .int .i32 0, .int .i32 0, .int .i32 0, .int .i32 0] 23 27 27
 obtain ⟨a0, a1, a2, a3, a4, lV⟩ := ins_block k0
 have K1 := Lib.hid (show RBox V (w.heap.size + 1) 27 r from k1)
 have HI27 := Lib.hid (show (Tryd.prog.info? 27).map (·.size) = some (cellsR r).length by rw [cellsR_len, hr.len]; kernel_rfl)
 have K2 := Lib.hid k2
 have BV := Lib.hid bV
 have HVA := Lib.hid (Calls.ext (valid_any ⟨op, a, b, c, im⟩ h0 V (T.below bV)))
 have HPR := Lib.hid (fun x : Ext V => Calls.extq (x := x) (proper_any r hr.len x.w))
 clear k0 k1 k2 bV
 go_enter Tryd.func13, Tryd.ntmps13
 go_upto_region 1 with fail
 clear hV
 rcases hno with hv | ⟨hv, hp⟩
 ·rw [hv] at HVA
  go_wp2_with (first | (go_at_call 11; refine HVA.out.mono ?_; rintro e w' ⟨rfl, y, rfl⟩) | (refine wpList_store_row rfl 27 (.tmp 6) (.tmp 16) rfl (w.heap.size + 1 + 1) #[.int .i32 0, .int .i32 0, .int .i32 0, .int .i32 0, .int .i32 0, .int .i32 0, .int .i32 0, .int .i32 0, .int .i32 0, .int .i32 0, .int .i32 0, .int .i32 0, .int .i32 0, .int .i32 0, .int .i32 0, .int .i32 0, .int .i32 0, .int .i32 0, .int .i32 0, .int .i32 0, .int .i32 0, .int .i32 0, .int .i32 0, .int .i32 0, .int .i32 0, .int .i32 0, .int .i32 0, .int .i32 0, .int .i32 0, .int .i32 0, .int .i32 0, .int .i32 0] rfl rfl 27 _ (((Ext.h _).block _ sV).trans K2.out) (by kernel_rfl) rfl (by simp [Value.oneCell']) ?_))
  refine bodyPost_ret (results_cell_tmp (P := Tryd.prog) Tryd.results13 _ _ (w.heap.size + 1 + 1) [.int .i32 0, .int .i32 0, .int .i32 0, .int .i32 0, .int .i32 0, .int .i32 0, .int .i32 0, .int .i32 0, .int .i32 0, .int .i32 0, .int .i32 0, .int .i32 0, .int .i32 0, .int .i32 0, .int .i32 0, .int .i32 0, .int .i32 0, .int .i32 0, .int .i32 0, .int .i32 0, .int .i32 0, .int .i32 0, .int .i32 0, .int .i32 0, .int .i32 0, .int .i32 0, .int .i32 0, .int .i32 0, .int .i32 0, .int .i32 0, .int .i32 0, .int .i32 0] _ rfl (rangeAt_block (setRow_heap _ _ _ _ _ _ ((y.h.block _ sV).trans K2.out))) Tryd.underlying27 rfl (by kernel_rfl)) rfl ⟨rfl, below_setRow (BV.out.trans (y.h.mono BV.out.size)) (by omega) _⟩
 ·rw [hv] at HVA
  rw [hp] at HPR
  go_wp2_with (first | (go_at_call 11; refine HVA.out.mono ?_; rintro e w' ⟨rfl, y, rfl⟩) | (go_at_call 35; refine (HPR.out _).mono ?_; rintro e w' ⟨rfl, z, rfl⟩) | (refine wpList_load_midG (by first | rfl | kernel_rfl) _ _ rfl _ _ rfl (cellsR r) _ (K1.out.keep (Ext.h _)).range Tryd.underlying27 rfl HI27.out ?_) | (refine wpList_store_row rfl 27 (.tmp 6) (.tmp 16) rfl (w.heap.size + 1 + 1) #[.int .i32 0, .int .i32 0, .int .i32 0, .int .i32 0, .int .i32 0, .int .i32 0, .int .i32 0, .int .i32 0, .int .i32 0, .int .i32 0, .int .i32 0, .int .i32 0, .int .i32 0, .int .i32 0, .int .i32 0, .int .i32 0, .int .i32 0, .int .i32 0, .int .i32 0, .int .i32 0, .int .i32 0, .int .i32 0, .int .i32 0, .int .i32 0, .int .i32 0, .int .i32 0, .int .i32 0, .int .i32 0, .int .i32 0, .int .i32 0, .int .i32 0, .int .i32 0] rfl rfl 27 _ (((Ext.h _).block _ sV).trans K2.out) (by kernel_rfl) rfl (by simp [Value.oneCell']) ?_))
  refine bodyPost_ret (results_cell_tmp (P := Tryd.prog) Tryd.results13 _ _ (w.heap.size + 1 + 1) [.int .i32 0, .int .i32 0, .int .i32 0, .int .i32 0, .int .i32 0, .int .i32 0, .int .i32 0, .int .i32 0, .int .i32 0, .int .i32 0, .int .i32 0, .int .i32 0, .int .i32 0, .int .i32 0, .int .i32 0, .int .i32 0, .int .i32 0, .int .i32 0, .int .i32 0, .int .i32 0, .int .i32 0, .int .i32 0, .int .i32 0, .int .i32 0, .int .i32 0, .int .i32 0, .int .i32 0, .int .i32 0, .int .i32 0, .int .i32 0, .int .i32 0, .int .i32 0] _ rfl (rangeAt_block (setRow_heap _ _ _ _ _ _ ((z.h.block _ sV).trans K2.out))) Tryd.underlying27 rfl (by kernel_rfl)) rfl ⟨rfl, below_setRow (BV.out.trans (z.h.mono BV.out.size)) (by omega) _⟩

set_option maxRecDepth 100000 in
set_option maxHeartbeats 2000000 in
theorem refine_rest (op : Int) (an bn cn : Nat) (im : Int) (ha : an < 16) (hop : (0 ≤ op ∧ op ≤ 21) ∨ (25 ≤ op ∧ op ≤ 29)) (r : RG) (hr : R16 r) (w : World) (T : Tab w) (hv : validI ⟨op, an, bn, cn, im⟩ = true) (hp : properR r = true) :
  Calls Tryd.prog 13 #[.agg #[.int .u8 op, .int .i64 (an : Int), .int .i64 (bn : Int), .int .i64 (cn : Int), .int .i64 im], .agg (cellsR r).toArray, .bool false] w fun e w' => e = .returned (outR (some r)) ∧ Below w.heap.size w w' := by
 have h0 : 0 ≤ op := by omega
 have HOPE := Lib.hid hop
 clear hop
 obtain ⟨V, hV, k0, k1, k2, bV, sV⟩ := three_new w #[.int .u8 op, .int .i64 (an : Int), .int .i64 (bn : Int), .int .i64 (cn : Int), .int .i64 im] (cellsR r).toArray #[.int .i32 0, .int .i32 0, .int .i32 0, .int .i32 0, .int .i32 0, .int .i32 0, .int .i32 0, .int .i32 0, .int .i32 0, .int .i32 0, .int .i32 0, .int .i32 0, .int .i32 0, .int .i32 0, .int .i32 0, .int .i32 0, .int .i32 0, .int .i32 0, .int .i32 0, .int .i32 0, .int .i32 0, .int .i32 0, .int .i32 0, .int .i32 0, .int .i32 0, .int .i32 0, .int .i32 0, .int .i32 0, .int .i32 0, .int .i32 0, .int .i32 0, .int .i32 0] 23 27 27
 obtain ⟨a0, a1, a2, a3, a4, lV⟩ := ins_block k0
 have K1 := Lib.hid (show RBox V (w.heap.size + 1) 27 r from k1)
 have HI27 := Lib.hid (show (Tryd.prog.info? 27).map (·.size) = some (cellsR r).length by rw [cellsR_len, hr.len]; kernel_rfl)
 have K2 := Lib.hid k2
 have BV := Lib.hid bV
 have HVA := Lib.hid (Calls.ext (valid_any ⟨op, an, bn, cn, im⟩ h0 V (T.below bV)))
 have HPR := Lib.hid (fun x : Ext V => Calls.extq (x := x) (proper_any r hr.len x.w))
 clear k0 k1 k2 bV
 go_enter Tryd.func13, Tryd.ntmps13
 go_upto_region 1 with fail
 clear hV
 rw [hv] at HVA
 rw [hp] at HPR
 have HP := Lib.hid hp
 clear hp hv
 have hop := HOPE.out
 clear HOPE
 have e1 : (op == 22) = false := by rw [beq_eq_false_iff_ne]; omega
 have e2 : (op == 23) = false := by rw [beq_eq_false_iff_ne]; omega
 have e3 : (op == 24) = false := by rw [beq_eq_false_iff_ne]; omega
 clear hop
 go_upto_region 16 with (first | (go_at_call 11; refine HVA.out.mono ?_; rintro e w' ⟨rfl, y, rfl⟩) | (go_at_call 35; refine (HPR.out _).mono ?_; rintro e w' ⟨rfl, z, rfl⟩) | (refine wpList_load_midG (by first | rfl | kernel_rfl) _ _ rfl _ _ rfl (cellsR r) _ (K1.out.keep (Ext.h _)).range Tryd.underlying27 rfl HI27.out ?_))
 obtain ⟨r3, hr3⟩ : ∃ r3, r = r3 := ⟨_, rfl⟩
 have l3 : r3.length = 16 := by rw [← hr3]; exact hr.len
 have HR3 := Lib.hid hr3
 obtain ⟨Z, hZ⟩ : ∃ Z, z.w = Z := ⟨_, rfl⟩
 have kZ : RBox Z (w.heap.size + 1) 27 r3 := by rw [← hZ]; exact HR3.out ▸ K1.out.keep z.h
 have kZO : Z.heap[w.heap.size + 1 + 1]? = some (.cells #[.int .i32 0, .int .i32 0, .int .i32 0, .int .i32 0, .int .i32 0, .int .i32 0, .int .i32 0, .int .i32 0, .int .i32 0, .int .i32 0, .int .i32 0, .int .i32 0, .int .i32 0, .int .i32 0, .int .i32 0, .int .i32 0, .int .i32 0, .int .i32 0, .int .i32 0, .int .i32 0, .int .i32 0, .int .i32 0, .int .i32 0, .int .i32 0, .int .i32 0, .int .i32 0, .int .i32 0, .int .i32 0, .int .i32 0, .int .i32 0, .int .i32 0, .int .i32 0] 27 (0, 0)) := by rw [← hZ]; exact (z.h.block _ sV).trans K2.out
 have bZ : Below w.heap.size w Z := by rw [← hZ]; exact BV.out.trans (z.h.mono BV.out.size)
 rw [hZ]
 have HRG := Lib.hid kZ.range
 have KZO := Lib.hid kZO
 have BZ := Lib.hid bZ
 have HI3 := Lib.hid (show (Tryd.prog.info? 27).map (·.size) = some (cellsR r3).length by rw [cellsR_len, l3]; kernel_rfl)
 have HI4 := Lib.hid (show (Tryd.prog.info? 27).map (·.size) = some (cellsR r3).toArray.size by rw [List.size_toArray, cellsR_len, l3]; kernel_rfl)
 have HI5 := Lib.hid (show (#[.int .i32 0, .int .i32 0, .int .i32 0, .int .i32 0, .int .i32 0, .int .i32 0, .int .i32 0, .int .i32 0, .int .i32 0, .int .i32 0, .int .i32 0, .int .i32 0, .int .i32 0, .int .i32 0, .int .i32 0, .int .i32 0, .int .i32 0, .int .i32 0, .int .i32 0, .int .i32 0, .int .i32 0, .int .i32 0, .int .i32 0, .int .i32 0, .int .i32 0, .int .i32 0, .int .i32 0, .int .i32 0, .int .i32 0, .int .i32 0, .int .i32 0, .int .i32 0] : Array Value).size = (cellsR r3).toArray.size by rw [show (cellsR r3).toArray.size = 32 by rw [List.size_toArray, cellsR_len, l3]]; rfl)
 have HONE := Lib.hid (cellsR_one r3)
 clear hZ kZ kZO bZ l3
 go_wp2_with (first | (refine wpList_load_mid rfl _ _ rfl _ _ rfl (cellsR r3) _ HRG.out Tryd.underlying27 rfl HI3.out ?_) | (refine wpList_store_row rfl 27 (.tmp 6) (.tmp 57) rfl (w.heap.size + 1 + 1) (cellsR r3).toArray rfl rfl 27 _ KZO.out HI4.out HI5.out HONE.out ?_))
 refine bodyPost_ret (results_cell_tmp (P := Tryd.prog) Tryd.results13 _ _ (w.heap.size + 1 + 1) (cellsR r3) _ rfl (rangeAt_block (setRow_heap _ _ _ _ _ _ KZO.out)) Tryd.underlying27 rfl HI3.out) rfl ⟨?_, below_setRow BZ.out (by omega) _⟩
 rw [HR3.out]
 rfl

set_option maxRecDepth 100000 in
set_option maxHeartbeats 2000000 in
theorem refine_restT (op : Int) (an bn cn : Nat) (im : Int) (ha : an < 16) (hop : (0 ≤ op ∧ op ≤ 21) ∨ (25 ≤ op ∧ op ≤ 29)) (r : RG) (hr : R16 r) (w : World) (T : Tab w) (hv : validI ⟨op, an, bn, cn, im⟩ = true) (hp : properR r = true) :
  Calls Tryd.prog 13 #[.agg #[.int .u8 op, .int .i64 (an : Int), .int .i64 (bn : Int), .int .i64 (cn : Int), .int .i64 im], .agg (cellsR r).toArray, .bool true] w fun e w' => e = .returned (outR (none)) ∧ Below w.heap.size w w' := by
 have h0 : 0 ≤ op := by omega
 have HOPE := Lib.hid hop
 clear hop
 obtain ⟨V, hV, k0, k1, k2, bV, sV⟩ := three_new w #[.int .u8 op, .int .i64 (an : Int), .int .i64 (bn : Int), .int .i64 (cn : Int), .int .i64 im] (cellsR r).toArray #[.int .i32 0, .int .i32 0, .int .i32 0, .int .i32 0, .int .i32 0, .int .i32 0, .int .i32 0, .int .i32 0, .int .i32 0, .int .i32 0, .int .i32 0, .int .i32 0, .int .i32 0, .int .i32 0, .int .i32 0, .int .i32 0, .int .i32 0, .int .i32 0, .int .i32 0, .int .i32 0, .int .i32 0, .int .i32 0, .int .i32 0, .int .i32 0, .int .i32 0, .int .i32 0, .int .i32 0, .int .i32 0, .int .i32 0, .int .i32 0, .int .i32 0, .int .i32 0] 23 27 27
 obtain ⟨a0, a1, a2, a3, a4, lV⟩ := ins_block k0
 have K1 := Lib.hid (show RBox V (w.heap.size + 1) 27 r from k1)
 have HI27 := Lib.hid (show (Tryd.prog.info? 27).map (·.size) = some (cellsR r).length by rw [cellsR_len, hr.len]; kernel_rfl)
 have K2 := Lib.hid k2
 have BV := Lib.hid bV
 have HVA := Lib.hid (Calls.ext (valid_any ⟨op, an, bn, cn, im⟩ h0 V (T.below bV)))
 have HPR := Lib.hid (fun x : Ext V => Calls.extq (x := x) (proper_any r hr.len x.w))
 clear k0 k1 k2 bV
 go_enter Tryd.func13, Tryd.ntmps13
 go_upto_region 1 with fail
 clear hV
 rw [hv] at HVA
 rw [hp] at HPR
 have HP := Lib.hid hp
 clear hp hv
 have hop := HOPE.out
 clear HOPE
 have e1 : (op == 22) = false := by rw [beq_eq_false_iff_ne]; omega
 have e2 : (op == 23) = false := by rw [beq_eq_false_iff_ne]; omega
 have e3 : (op == 24) = false := by rw [beq_eq_false_iff_ne]; omega
 clear hop
 go_wp2_with (first | (go_at_call 11; refine HVA.out.mono ?_; rintro e w' ⟨rfl, y, rfl⟩) | (go_at_call 35; refine (HPR.out _).mono ?_; rintro e w' ⟨rfl, z, rfl⟩) | (refine wpList_load_midG (by first | rfl | kernel_rfl) _ _ rfl _ _ rfl (cellsR r) _ (K1.out.keep (Ext.h _)).range Tryd.underlying27 rfl HI27.out ?_) | (refine wpList_store_row rfl 27 (.tmp 6) (.tmp 20) rfl (w.heap.size + 1 + 1) #[.int .i32 0, .int .i32 0, .int .i32 0, .int .i32 0, .int .i32 0, .int .i32 0, .int .i32 0, .int .i32 0, .int .i32 0, .int .i32 0, .int .i32 0, .int .i32 0, .int .i32 0, .int .i32 0, .int .i32 0, .int .i32 0, .int .i32 0, .int .i32 0, .int .i32 0, .int .i32 0, .int .i32 0, .int .i32 0, .int .i32 0, .int .i32 0, .int .i32 0, .int .i32 0, .int .i32 0, .int .i32 0, .int .i32 0, .int .i32 0, .int .i32 0, .int .i32 0] rfl rfl 27 _ (((Ext.h _).block _ sV).trans K2.out) (by kernel_rfl) rfl (by simp [Value.oneCell']) ?_))
 refine bodyPost_ret (results_cell_tmp (P := Tryd.prog) Tryd.results13 _ _ (w.heap.size + 1 + 1) [.int .i32 0, .int .i32 0, .int .i32 0, .int .i32 0, .int .i32 0, .int .i32 0, .int .i32 0, .int .i32 0, .int .i32 0, .int .i32 0, .int .i32 0, .int .i32 0, .int .i32 0, .int .i32 0, .int .i32 0, .int .i32 0, .int .i32 0, .int .i32 0, .int .i32 0, .int .i32 0, .int .i32 0, .int .i32 0, .int .i32 0, .int .i32 0, .int .i32 0, .int .i32 0, .int .i32 0, .int .i32 0, .int .i32 0, .int .i32 0, .int .i32 0, .int .i32 0] _ rfl (rangeAt_block (setRow_heap _ _ _ _ _ _ ((z.h.block _ sV).trans K2.out))) Tryd.underlying27 rfl (by kernel_rfl)) rfl ⟨rfl, below_setRow (BV.out.trans (z.h.mono BV.out.size)) (by omega) _⟩

set_option maxRecDepth 100000 in
set_option maxHeartbeats 2000000 in
theorem refine_jmp (op : Int) (an bn cn : Nat) (im : Int) (ha : an < 16) (hop : op = 24) (r : RG) (hr : R16 r) (w : World) (T : Tab w) (hv : validI ⟨op, an, bn, cn, im⟩ = true) (hp : properR r = true) :
  Calls Tryd.prog 13 #[.agg #[.int .u8 op, .int .i64 (an : Int), .int .i64 (bn : Int), .int .i64 (cn : Int), .int .i64 im], .agg (cellsR r).toArray, .bool true] w fun e w' => e = .returned (outR (some r)) ∧ Below w.heap.size w w' := by
 have h0 : 0 ≤ op := by omega
 have HOPE := Lib.hid hop
 clear hop
 obtain ⟨V, hV, k0, k1, k2, bV, sV⟩ := three_new w #[.int .u8 op, .int .i64 (an : Int), .int .i64 (bn : Int), .int .i64 (cn : Int), .int .i64 im] (cellsR r).toArray #[.int .i32 0, .int .i32 0, .int .i32 0, .int .i32 0, .int .i32 0, .int .i32 0, .int .i32 0, .int .i32 0, .int .i32 0, .int .i32 0, .int .i32 0, .int .i32 0, .int .i32 0, .int .i32 0, .int .i32 0, .int .i32 0, .int .i32 0, .int .i32 0, .int .i32 0, .int .i32 0, .int .i32 0, .int .i32 0, .int .i32 0, .int .i32 0, .int .i32 0, .int .i32 0, .int .i32 0, .int .i32 0, .int .i32 0, .int .i32 0, .int .i32 0, .int .i32 0] 23 27 27
 obtain ⟨a0, a1, a2, a3, a4, lV⟩ := ins_block k0
 have K1 := Lib.hid (show RBox V (w.heap.size + 1) 27 r from k1)
 have HI27 := Lib.hid (show (Tryd.prog.info? 27).map (·.size) = some (cellsR r).length by rw [cellsR_len, hr.len]; kernel_rfl)
 have K2 := Lib.hid k2
 have BV := Lib.hid bV
 have HVA := Lib.hid (Calls.ext (valid_any ⟨op, an, bn, cn, im⟩ h0 V (T.below bV)))
 have HPR := Lib.hid (fun x : Ext V => Calls.extq (x := x) (proper_any r hr.len x.w))
 clear k0 k1 k2 bV
 go_enter Tryd.func13, Tryd.ntmps13
 go_upto_region 1 with fail
 clear hV
 rw [hv] at HVA
 rw [hp] at HPR
 have HP := Lib.hid hp
 clear hp hv
 have hop := HOPE.out
 clear HOPE
 subst hop
 go_upto_region 16 with (first | (go_at_call 11; refine HVA.out.mono ?_; rintro e w' ⟨rfl, y, rfl⟩) | (go_at_call 35; refine (HPR.out _).mono ?_; rintro e w' ⟨rfl, z, rfl⟩) | (refine wpList_load_midG (by first | rfl | kernel_rfl) _ _ rfl _ _ rfl (cellsR r) _ (K1.out.keep (Ext.h _)).range Tryd.underlying27 rfl HI27.out ?_))
 obtain ⟨r3, hr3⟩ : ∃ r3, r = r3 := ⟨_, rfl⟩
 have l3 : r3.length = 16 := by rw [← hr3]; exact hr.len
 have HR3 := Lib.hid hr3
 obtain ⟨Z, hZ⟩ : ∃ Z, z.w = Z := ⟨_, rfl⟩
 have kZ : RBox Z (w.heap.size + 1) 27 r3 := by rw [← hZ]; exact HR3.out ▸ K1.out.keep z.h
 have kZO : Z.heap[w.heap.size + 1 + 1]? = some (.cells #[.int .i32 0, .int .i32 0, .int .i32 0, .int .i32 0, .int .i32 0, .int .i32 0, .int .i32 0, .int .i32 0, .int .i32 0, .int .i32 0, .int .i32 0, .int .i32 0, .int .i32 0, .int .i32 0, .int .i32 0, .int .i32 0, .int .i32 0, .int .i32 0, .int .i32 0, .int .i32 0, .int .i32 0, .int .i32 0, .int .i32 0, .int .i32 0, .int .i32 0, .int .i32 0, .int .i32 0, .int .i32 0, .int .i32 0, .int .i32 0, .int .i32 0, .int .i32 0] 27 (0, 0)) := by rw [← hZ]; exact (z.h.block _ sV).trans K2.out
 have bZ : Below w.heap.size w Z := by rw [← hZ]; exact BV.out.trans (z.h.mono BV.out.size)
 rw [hZ]
 have HRG := Lib.hid kZ.range
 have KZO := Lib.hid kZO
 have BZ := Lib.hid bZ
 have HI3 := Lib.hid (show (Tryd.prog.info? 27).map (·.size) = some (cellsR r3).length by rw [cellsR_len, l3]; kernel_rfl)
 have HI4 := Lib.hid (show (Tryd.prog.info? 27).map (·.size) = some (cellsR r3).toArray.size by rw [List.size_toArray, cellsR_len, l3]; kernel_rfl)
 have HI5 := Lib.hid (show (#[.int .i32 0, .int .i32 0, .int .i32 0, .int .i32 0, .int .i32 0, .int .i32 0, .int .i32 0, .int .i32 0, .int .i32 0, .int .i32 0, .int .i32 0, .int .i32 0, .int .i32 0, .int .i32 0, .int .i32 0, .int .i32 0, .int .i32 0, .int .i32 0, .int .i32 0, .int .i32 0, .int .i32 0, .int .i32 0, .int .i32 0, .int .i32 0, .int .i32 0, .int .i32 0, .int .i32 0, .int .i32 0, .int .i32 0, .int .i32 0, .int .i32 0, .int .i32 0] : Array Value).size = (cellsR r3).toArray.size by rw [show (cellsR r3).toArray.size = 32 by rw [List.size_toArray, cellsR_len, l3]]; rfl)
 have HONE := Lib.hid (cellsR_one r3)
 clear hZ kZ kZO bZ l3
 go_wp2_with (first | (refine wpList_load_mid rfl _ _ rfl _ _ rfl (cellsR r3) _ HRG.out Tryd.underlying27 rfl HI3.out ?_) | (refine wpList_store_row rfl 27 (.tmp 6) (.tmp 57) rfl (w.heap.size + 1 + 1) (cellsR r3).toArray rfl rfl 27 _ KZO.out HI4.out HI5.out HONE.out ?_))
 refine bodyPost_ret (results_cell_tmp (P := Tryd.prog) Tryd.results13 _ _ (w.heap.size + 1 + 1) (cellsR r3) _ rfl (rangeAt_block (setRow_heap _ _ _ _ _ _ KZO.out)) Tryd.underlying27 rfl HI3.out) rfl ⟨?_, below_setRow BZ.out (by omega) _⟩
 rw [HR3.out]
 rfl

set_option maxRecDepth 100000 in
set_option maxHeartbeats 2000000 in
theorem refine_jmpF (op : Int) (an bn cn : Nat) (im : Int) (ha : an < 16) (hop : op = 24) (r : RG) (hr : R16 r) (w : World) (T : Tab w) (hv : validI ⟨op, an, bn, cn, im⟩ = true) (hp : properR r = true) :
  Calls Tryd.prog 13 #[.agg #[.int .u8 op, .int .i64 (an : Int), .int .i64 (bn : Int), .int .i64 (cn : Int), .int .i64 im], .agg (cellsR r).toArray, .bool false] w fun e w' => e = .returned (outR (none)) ∧ Below w.heap.size w w' := by
 have h0 : 0 ≤ op := by omega
 have HOPE := Lib.hid hop
 clear hop
 obtain ⟨V, hV, k0, k1, k2, bV, sV⟩ := three_new w #[.int .u8 op, .int .i64 (an : Int), .int .i64 (bn : Int), .int .i64 (cn : Int), .int .i64 im] (cellsR r).toArray #[.int .i32 0, .int .i32 0, .int .i32 0, .int .i32 0, .int .i32 0, .int .i32 0, .int .i32 0, .int .i32 0, .int .i32 0, .int .i32 0, .int .i32 0, .int .i32 0, .int .i32 0, .int .i32 0, .int .i32 0, .int .i32 0, .int .i32 0, .int .i32 0, .int .i32 0, .int .i32 0, .int .i32 0, .int .i32 0, .int .i32 0, .int .i32 0, .int .i32 0, .int .i32 0, .int .i32 0, .int .i32 0, .int .i32 0, .int .i32 0, .int .i32 0, .int .i32 0] 23 27 27
 obtain ⟨a0, a1, a2, a3, a4, lV⟩ := ins_block k0
 have K1 := Lib.hid (show RBox V (w.heap.size + 1) 27 r from k1)
 have HI27 := Lib.hid (show (Tryd.prog.info? 27).map (·.size) = some (cellsR r).length by rw [cellsR_len, hr.len]; kernel_rfl)
 have K2 := Lib.hid k2
 have BV := Lib.hid bV
 have HVA := Lib.hid (Calls.ext (valid_any ⟨op, an, bn, cn, im⟩ h0 V (T.below bV)))
 have HPR := Lib.hid (fun x : Ext V => Calls.extq (x := x) (proper_any r hr.len x.w))
 clear k0 k1 k2 bV
 go_enter Tryd.func13, Tryd.ntmps13
 go_upto_region 1 with fail
 clear hV
 rw [hv] at HVA
 rw [hp] at HPR
 have HP := Lib.hid hp
 clear hp hv
 have hop := HOPE.out
 clear HOPE
 subst hop
 go_wp2_with (first | (go_at_call 11; refine HVA.out.mono ?_; rintro e w' ⟨rfl, y, rfl⟩) | (go_at_call 35; refine (HPR.out _).mono ?_; rintro e w' ⟨rfl, z, rfl⟩) | (refine wpList_load_midG (by first | rfl | kernel_rfl) _ _ rfl _ _ rfl (cellsR r) _ (K1.out.keep (Ext.h _)).range Tryd.underlying27 rfl HI27.out ?_) | (refine wpList_store_row rfl 27 (.tmp 6) (.tmp 51) rfl (w.heap.size + 1 + 1) #[.int .i32 0, .int .i32 0, .int .i32 0, .int .i32 0, .int .i32 0, .int .i32 0, .int .i32 0, .int .i32 0, .int .i32 0, .int .i32 0, .int .i32 0, .int .i32 0, .int .i32 0, .int .i32 0, .int .i32 0, .int .i32 0, .int .i32 0, .int .i32 0, .int .i32 0, .int .i32 0, .int .i32 0, .int .i32 0, .int .i32 0, .int .i32 0, .int .i32 0, .int .i32 0, .int .i32 0, .int .i32 0, .int .i32 0, .int .i32 0, .int .i32 0, .int .i32 0] rfl rfl 27 _ (((Ext.h _).block _ sV).trans K2.out) (by kernel_rfl) rfl (by simp [Value.oneCell']) ?_) | (refine wpList_store_row rfl 27 (.tmp 6) (.tmp 56) rfl (w.heap.size + 1 + 1) #[.int .i32 0, .int .i32 0, .int .i32 0, .int .i32 0, .int .i32 0, .int .i32 0, .int .i32 0, .int .i32 0, .int .i32 0, .int .i32 0, .int .i32 0, .int .i32 0, .int .i32 0, .int .i32 0, .int .i32 0, .int .i32 0, .int .i32 0, .int .i32 0, .int .i32 0, .int .i32 0, .int .i32 0, .int .i32 0, .int .i32 0, .int .i32 0, .int .i32 0, .int .i32 0, .int .i32 0, .int .i32 0, .int .i32 0, .int .i32 0, .int .i32 0, .int .i32 0] rfl rfl 27 _ (((Ext.h _).block _ sV).trans K2.out) (by kernel_rfl) rfl (by simp [Value.oneCell']) ?_))
 refine bodyPost_ret (results_cell_tmp (P := Tryd.prog) Tryd.results13 _ _ (w.heap.size + 1 + 1) [.int .i32 0, .int .i32 0, .int .i32 0, .int .i32 0, .int .i32 0, .int .i32 0, .int .i32 0, .int .i32 0, .int .i32 0, .int .i32 0, .int .i32 0, .int .i32 0, .int .i32 0, .int .i32 0, .int .i32 0, .int .i32 0, .int .i32 0, .int .i32 0, .int .i32 0, .int .i32 0, .int .i32 0, .int .i32 0, .int .i32 0, .int .i32 0, .int .i32 0, .int .i32 0, .int .i32 0, .int .i32 0, .int .i32 0, .int .i32 0, .int .i32 0, .int .i32 0] _ rfl (rangeAt_block (setRow_heap _ _ _ _ _ _ ((z.h.block _ sV).trans K2.out))) Tryd.underlying27 rfl (by kernel_rfl)) rfl ⟨rfl, below_setRow (BV.out.trans (z.h.mono BV.out.size)) (by omega) _⟩

theorem shp_hi3 : ∀ k, k < 30 → (shpOf k).aHi ≤ 15 ∧ (shpOf k).bHi ≤ 15 ∧ (shpOf k).cHi ≤ 15 ∧ -131072 ≤ immLo k ∧ immHi k ≤ 131071 := by decide
def brR (op : Int) (tk : Bool) (r : RG) (a : Int) : Option RG := if emp (outI op tk (rg r a)) = true then none else some (setRg r a (outI op tk (rg r a)))
theorem set_br {op : Int} {tk : Bool} {r : RG} (hl : r.length = 16) (h0 : rg r 0 = (0, 0)) {an : Nat} {x : Int × Int} (hx : outI op tk (rg r (an : Int)) = x) (he : ¬ emp x = true) : r.set an x = setRg r (an : Int) x := by
 unfold setRg
 by_cases ha : an = 0
 ·subst ha
  rw [if_pos (show ((0 : Nat) : Int) = 0 from rfl)]
  rw [show ((0 : Nat) : Int) = 0 from rfl, h0] at hx
  have : x = (0, 0) := by
   unfold outI at hx
   split at hx
   ·rw [← hx]; decide
   ·exfalso
    apply he
    rw [← hx]
    decide
  rw [this]
  exact set_zero0 hl h0
 ·rw [if_neg (by omega)]
  simp
theorem rg_set {r : RG} {an : Nat} {x : Int × Int} (h : an < r.length) : rg (r.set an x) (an : Int) = x := by
 rw [rg_nat]
 simp [List.getD, h]

set_option maxRecDepth 100000 in
set_option maxHeartbeats 2000000 in
theorem refine_br (op : Int) (an bn cn : Nat) (im : Int) (ha : an < 16) (hop : op = 22 ∨ op = 23) (r : RG) (hr : R16 r) (tk : Bool) (w : World) (T : Tab w) (hv : validI ⟨op, an, bn, cn, im⟩ = true) (hp : properR r = true) :
  Calls Tryd.prog 13 #[.agg #[.int .u8 op, .int .i64 (an : Int), .int .i64 (bn : Int), .int .i64 (cn : Int), .int .i64 im], .agg (cellsR r).toArray, .bool tk] w fun e w' => e = .returned (outR (brR op tk r (an : Int))) ∧ Below w.heap.size w w' := by
 have h0 : 0 ≤ op := by omega
 have HOPE := Lib.hid hop
 clear hop
 obtain ⟨V, hV, k0, k1, k2, bV, sV⟩ := three_new w #[.int .u8 op, .int .i64 (an : Int), .int .i64 (bn : Int), .int .i64 (cn : Int), .int .i64 im] (cellsR r).toArray #[.int .i32 0, .int .i32 0, .int .i32 0, .int .i32 0, .int .i32 0, .int .i32 0, .int .i32 0, .int .i32 0, .int .i32 0, .int .i32 0, .int .i32 0, .int .i32 0, .int .i32 0, .int .i32 0, .int .i32 0, .int .i32 0, .int .i32 0, .int .i32 0, .int .i32 0, .int .i32 0, .int .i32 0, .int .i32 0, .int .i32 0, .int .i32 0, .int .i32 0, .int .i32 0, .int .i32 0, .int .i32 0, .int .i32 0, .int .i32 0, .int .i32 0, .int .i32 0] 23 27 27
 obtain ⟨a0, a1, a2, a3, a4, lV⟩ := ins_block k0
 have K1 := Lib.hid (show RBox V (w.heap.size + 1) 27 r from k1)
 have HI27 := Lib.hid (show (Tryd.prog.info? 27).map (·.size) = some (cellsR r).length by rw [cellsR_len, hr.len]; kernel_rfl)
 have K2 := Lib.hid k2
 have BV := Lib.hid bV
 have HVA := Lib.hid (Calls.ext (valid_any ⟨op, an, bn, cn, im⟩ h0 V (T.below bV)))
 have HPR := Lib.hid (fun x : Ext V => Calls.extq (x := x) (proper_any r hr.len x.w))
 clear k0 k1 k2 bV
 go_enter Tryd.func13, Tryd.ntmps13
 go_upto_region 1 with fail
 clear hV
 rw [hv] at HVA
 rw [hp] at HPR
 have HP := Lib.hid hp
 clear hp hv
 have hop := HOPE.out
 clear HOPE
 obtain ⟨O, hO⟩ : ∃ O, brR op tk r (an : Int) = O := ⟨_, rfl⟩
 have HO := Lib.hid hO
 have HXY := Lib.hid (show ∀ x, outI op tk (rg r (an : Int)) = x → (emp x = true → O = none) ∧ (¬ emp x = true → O = some (r.set an x)) from fun x hx => ⟨fun h => by rw [← hO]; unfold brR; rw [hx, if_pos h], fun h => by rw [← hO]; unfold brR; rw [hx, if_neg h, set_br hr.len (proper_zero HP.out) hx h]⟩)
 clear hO
 obtain ⟨al, hal⟩ : ∃ al, (rg r (an : Int)).1 = al := ⟨_, rfl⟩
 obtain ⟨ah, hah⟩ : ∃ ah, (rg r (an : Int)).2 = ah := ⟨_, rfl⟩
 have r4 : V.cell? ⟨w.heap.size + 1, an * 2, none⟩ = some (.int .i32 al) := by rw [← hal]; exact K1.out.lo (by rw [hr.len]; exact ha)
 have r5 : V.cell? ⟨w.heap.size + 1, an * 2 + 1, none⟩ = some (.int .i32 ah) := by rw [← hah]; exact K1.out.hi (by rw [hr.len]; exact ha)
 have rf0 : V.frozen? ⟨w.heap.size + 1, an * 2, none⟩ = false := K1.out.fz _
 have rf1 : V.frozen? ⟨w.heap.size + 1, an * 2 + 1, none⟩ = false := K1.out.fz _
 have HA2 := Lib.hid (show rg r (an : Int) = (al, ah) from Prod.ext hal hah)
 have ia : (an : Int) < 16 := by omega
 have lR : w.heap.size + 1 < V.heap.size := by omega
 clear hal hah
 have hc : ((op = 22 ∧ tk = true) ∨ (op = 23 ∧ tk = false)) ∨ (op = 22 ∧ tk = false) ∨ (op = 23 ∧ tk = true) := by rcases hop with h | h <;> cases tk <;> simp [h]
 clear hop
 rcases hc with hc | hc
 focus
  obtain ⟨xa, xb, hx⟩ : ∃ xa xb, meetI (al, ah) (0, 0) = (xa, xb) := ⟨_, _, rfl⟩
  have hf := fun w => meet_any al ah 0 0 w
  rw [hx] at hf
  have HF := Lib.hid hf
  have HX := Lib.hid (show outI op tk (rg r (an : Int)) = (xa, xb) by rw [HA2.out]; unfold outI; rw [if_pos (by rcases hc with ⟨rfl, rfl⟩ | ⟨rfl, rfl⟩ <;> decide)]; exact hx)
  clear hf hx
  rcases hc with ⟨rfl, rfl⟩ | ⟨rfl, rfl⟩
  all_goals
   go_upto_region 9 with (first | (go_at_call 11; refine HVA.out.mono ?_; rintro e w' ⟨rfl, y, rfl⟩) | (go_at_call 35; refine (HPR.out _).mono ?_; rintro e w' ⟨rfl, z, rfl⟩) | (refine wpList_load_midG (by first | rfl | kernel_rfl) _ _ rfl _ _ rfl (cellsR r) _ (K1.out.keep (Ext.h _)).range Tryd.underlying27 rfl HI27.out ?_))
   refine wp_region_extq_tail 9 (by kernel_rfl) (by kernel_rfl) ?_
   simp only [List.take_succ_cons, List.take_zero, List.drop_succ_cons, List.drop_zero]
   repeat (go_big_quiet_step (first | (go_at_call 37; exact Calls.extq (of_any 0 _)) | (go_at_call 36; exact Calls.extq (HF.out _))))
   refine wpQuiet_nil ?_
   rintro _ ⟨x1, rfl⟩
   go_upto_region 11 with fail
 rotate_left 2
 focus
  obtain ⟨xa, xb, hx⟩ : ∃ xa xb, withoutI (al, ah) = (xa, xb) := ⟨_, _, rfl⟩
  have hf := fun w => without_any al ah w
  rw [hx] at hf
  have HF := Lib.hid hf
  have HX := Lib.hid (show outI op tk (rg r (an : Int)) = (xa, xb) by rw [HA2.out]; unfold outI; rw [if_neg (by rcases hc with ⟨rfl, rfl⟩ | ⟨rfl, rfl⟩ <;> decide)]; exact hx)
  clear hf hx
  rcases hc with ⟨rfl, rfl⟩ | ⟨rfl, rfl⟩
  all_goals
   go_upto_region 10 with (first | (go_at_call 11; refine HVA.out.mono ?_; rintro e w' ⟨rfl, y, rfl⟩) | (go_at_call 35; refine (HPR.out _).mono ?_; rintro e w' ⟨rfl, z, rfl⟩) | (refine wpList_load_midG (by first | rfl | kernel_rfl) _ _ rfl _ _ rfl (cellsR r) _ (K1.out.keep (Ext.h _)).range Tryd.underlying27 rfl HI27.out ?_))
   refine wp_region_extq_tail 8 (by kernel_rfl) (by kernel_rfl) ?_
   simp only [List.take_succ_cons, List.take_zero, List.drop_succ_cons, List.drop_zero]
   repeat (go_big_quiet_step (first | (go_at_call 38; exact Calls.extq (HF.out _))))
   refine wpQuiet_nil ?_
   rintro _ ⟨x1, rfl⟩
   go_upto_region 11 with fail
 all_goals
  obtain ⟨Y, hY⟩ : ∃ Y, (x1.w.setCell ⟨w.heap.size + 1, an * 2, none⟩ (.int .i32 xa)).setCell ⟨w.heap.size + 1, an * 2 + 1, none⟩ (.int .i32 xb) = Y := ⟨_, rfl⟩
  obtain ⟨r3, hr3⟩ : ∃ r3, r.set an (xa, xb) = r3 := ⟨_, rfl⟩
  have l3 : r3.length = 16 := by rw [← hr3, List.length_set]; exact hr.len
  have kY : RBox Y (w.heap.size + 1) 27 r3 := by rw [← hY, ← hr3]; exact (K1.out.keep x1.h).set an (xa, xb)
  have kO : Y.heap[w.heap.size + 1 + 1]? = some (.cells #[.int .i32 0, .int .i32 0, .int .i32 0, .int .i32 0, .int .i32 0, .int .i32 0, .int .i32 0, .int .i32 0, .int .i32 0, .int .i32 0, .int .i32 0, .int .i32 0, .int .i32 0, .int .i32 0, .int .i32 0, .int .i32 0, .int .i32 0, .int .i32 0, .int .i32 0, .int .i32 0, .int .i32 0, .int .i32 0, .int .i32 0, .int .i32 0, .int .i32 0, .int .i32 0, .int .i32 0, .int .i32 0, .int .i32 0, .int .i32 0, .int .i32 0, .int .i32 0] 27 (0, 0)) := by
   rw [← hY, Below.heap_setCell _ _ _ _ (by show w.heap.size + 1 + 1 ≠ w.heap.size + 1; omega), Below.heap_setCell _ _ _ _ (by show w.heap.size + 1 + 1 ≠ w.heap.size + 1; omega)]
   exact (x1.h.block _ sV).trans K2.out
  have bY : Below w.heap.size w Y := by rw [← hY]; exact Below.setCell (Below.setCell (BV.out.trans (x1.h.mono BV.out.size)) (by show w.heap.size ≤ w.heap.size + 1; omega) _) (by show w.heap.size ≤ w.heap.size + 1; omega) _
  have kI : Y.cell? ⟨w.heap.size, 1, none⟩ = some (.int .i64 (an : Int)) := by
   rw [← hY, World.cell?_of_block (Below.heap_setCell _ _ _ _ (by show w.heap.size ≠ w.heap.size + 1; omega)), World.cell?_of_block (Below.heap_setCell _ _ _ _ (by show w.heap.size ≠ w.heap.size + 1; omega)), x1.h.cell (p := ⟨w.heap.size, 1, none⟩) lV]
   exact a1
  rw [hY]
  have lY : w.heap.size + 1 < Y.heap.size := kY.lt
  have lYI : w.heap.size < Y.heap.size := by omega
  have lY2 : w.heap.size + 1 + 1 < Y.heap.size := (Array.getElem?_eq_some_iff.1 kO).1
  have hgs : rg r3 (an : Int) = (xa, xb) := by rw [← hr3]; exact rg_set (by rw [hr.len]; exact ha)
  have z0 : Y.cell? ⟨w.heap.size + 1, an * 2, none⟩ = some (.int .i32 xa) := by have h := kY.lo (k := an) (by rw [l3]; exact ha); rw [hgs] at h; exact h
  have z1 : Y.cell? ⟨w.heap.size + 1, an * 2 + 1, none⟩ = some (.int .i32 xb) := by have h := kY.hi (k := an) (by rw [l3]; exact ha); rw [hgs] at h; exact h
  have KY := Lib.hid kY
  have KO := Lib.hid kO
  have BY := Lib.hid bY
  have HR3 := Lib.hid hr3
  have HIE := Lib.hid (Calls.ext (isEmpty_any xa xb Y))
  clear hY kY kO bY hr3 hgs r4 r5 rf0 rf1 a0 a1 a2 a3 a4
  by_cases he : xb < xa
  ·have d := decide_eq_true he
   have HEM := Lib.hid (show emp (xa, xb) = true by unfold emp; simpa using he)
   clear he
   go_wp2_with (first | (go_at_call 39; refine HIE.out.mono ?_; rintro e w' ⟨rfl, y5, rfl⟩) | (refine wpList_store_row rfl 27 (.tmp 6) (.tmp 51) rfl (w.heap.size + 1 + 1) #[.int .i32 0, .int .i32 0, .int .i32 0, .int .i32 0, .int .i32 0, .int .i32 0, .int .i32 0, .int .i32 0, .int .i32 0, .int .i32 0, .int .i32 0, .int .i32 0, .int .i32 0, .int .i32 0, .int .i32 0, .int .i32 0, .int .i32 0, .int .i32 0, .int .i32 0, .int .i32 0, .int .i32 0, .int .i32 0, .int .i32 0, .int .i32 0, .int .i32 0, .int .i32 0, .int .i32 0, .int .i32 0, .int .i32 0, .int .i32 0, .int .i32 0, .int .i32 0] rfl rfl 27 _ (((Ext.h _).block _ lY2).trans KO.out) (by kernel_rfl) rfl (by simp [Value.oneCell']) ?_))
   refine bodyPost_ret (results_cell_tmp (P := Tryd.prog) Tryd.results13 _ _ (w.heap.size + 1 + 1) [.int .i32 0, .int .i32 0, .int .i32 0, .int .i32 0, .int .i32 0, .int .i32 0, .int .i32 0, .int .i32 0, .int .i32 0, .int .i32 0, .int .i32 0, .int .i32 0, .int .i32 0, .int .i32 0, .int .i32 0, .int .i32 0, .int .i32 0, .int .i32 0, .int .i32 0, .int .i32 0, .int .i32 0, .int .i32 0, .int .i32 0, .int .i32 0, .int .i32 0, .int .i32 0, .int .i32 0, .int .i32 0, .int .i32 0, .int .i32 0, .int .i32 0, .int .i32 0] _ rfl (rangeAt_block (setRow_heap _ _ _ _ _ _ ((y5.h.block _ lY2).trans KO.out))) Tryd.underlying27 rfl (by kernel_rfl)) rfl ⟨?_, below_setRow (BY.out.trans (y5.h.mono BY.out.size)) (by omega) _⟩
   rw [HO.out, (HXY.out _ HX.out).1 HEM.out]
   rfl
  ·have d := decide_eq_false he
   have HEM := Lib.hid (show ¬ emp (xa, xb) = true by unfold emp; simpa using he)
   clear he
   go_upto_region 16 with (go_at_call 39; refine HIE.out.mono ?_; rintro e w' ⟨rfl, y5, rfl⟩)
   obtain ⟨Z, hZ⟩ : ∃ Z, y5.w = Z := ⟨_, rfl⟩
   have kZ : RBox Z (w.heap.size + 1) 27 r3 := by rw [← hZ]; exact KY.out.keep y5.h
   have kZO : Z.heap[w.heap.size + 1 + 1]? = some (.cells #[.int .i32 0, .int .i32 0, .int .i32 0, .int .i32 0, .int .i32 0, .int .i32 0, .int .i32 0, .int .i32 0, .int .i32 0, .int .i32 0, .int .i32 0, .int .i32 0, .int .i32 0, .int .i32 0, .int .i32 0, .int .i32 0, .int .i32 0, .int .i32 0, .int .i32 0, .int .i32 0, .int .i32 0, .int .i32 0, .int .i32 0, .int .i32 0, .int .i32 0, .int .i32 0, .int .i32 0, .int .i32 0, .int .i32 0, .int .i32 0, .int .i32 0, .int .i32 0] 27 (0, 0)) := by rw [← hZ]; exact (y5.h.block _ lY2).trans KO.out
   have bZ : Below w.heap.size w Z := by rw [← hZ]; exact BY.out.trans (y5.h.mono BY.out.size)
   rw [hZ]
   have HRG := Lib.hid kZ.range
   have KZO := Lib.hid kZO
   have BZ := Lib.hid bZ
   have HI3 := Lib.hid (show (Tryd.prog.info? 27).map (·.size) = some (cellsR r3).length by rw [cellsR_len, l3]; kernel_rfl)
   have HI4 := Lib.hid (show (Tryd.prog.info? 27).map (·.size) = some (cellsR r3).toArray.size by rw [List.size_toArray, cellsR_len, l3]; kernel_rfl)
   have HI5 := Lib.hid (show (#[.int .i32 0, .int .i32 0, .int .i32 0, .int .i32 0, .int .i32 0, .int .i32 0, .int .i32 0, .int .i32 0, .int .i32 0, .int .i32 0, .int .i32 0, .int .i32 0, .int .i32 0, .int .i32 0, .int .i32 0, .int .i32 0, .int .i32 0, .int .i32 0, .int .i32 0, .int .i32 0, .int .i32 0, .int .i32 0, .int .i32 0, .int .i32 0, .int .i32 0, .int .i32 0, .int .i32 0, .int .i32 0, .int .i32 0, .int .i32 0, .int .i32 0, .int .i32 0] : Array Value).size = (cellsR r3).toArray.size by rw [show (cellsR r3).toArray.size = 32 by rw [List.size_toArray, cellsR_len, l3]]; rfl)
   have HONE := Lib.hid (cellsR_one r3)
   clear hZ kZ kZO bZ l3 z0 z1
   go_wp2_with (first | (refine wpList_load_mid rfl _ _ rfl _ _ rfl (cellsR r3) _ HRG.out Tryd.underlying27 rfl HI3.out ?_) | (refine wpList_store_row rfl 27 (.tmp 6) (.tmp 57) rfl (w.heap.size + 1 + 1) (cellsR r3).toArray rfl rfl 27 _ KZO.out HI4.out HI5.out HONE.out ?_))
   refine bodyPost_ret (results_cell_tmp (P := Tryd.prog) Tryd.results13 _ _ (w.heap.size + 1 + 1) (cellsR r3) _ rfl (rangeAt_block (setRow_heap _ _ _ _ _ _ KZO.out)) Tryd.underlying27 rfl HI3.out) rfl ⟨?_, below_setRow BZ.out (by omega) _⟩
   rw [HO.out, (HXY.out _ HX.out).2 HEM.out, HR3.out]
   rfl

theorem refine_any (op a b c im : Int) (h0 : 0 ≤ op) (r : RG) (hr : R16 r) (tk : Bool) (w : World) (T : Tab w) :
  Calls Tryd.prog 13 #[.agg #[.int .u8 op, .int .i64 a, .int .i64 b, .int .i64 c, .int .i64 im], .agg (cellsR r).toArray, .bool tk] w fun e w' => e = .returned (outR (refR ⟨op, a, b, c, im⟩ r tk)) ∧ Below w.heap.size w w' := by
 by_cases hvp : validI ⟨op, a, b, c, im⟩ = true ∧ properR r = true
 case neg =>
  refine (refine_no op a b c im h0 r hr tk w T (by
   cases h1 : validI ⟨op, a, b, c, im⟩ <;> cases h2 : properR r <;> simp_all)).mono fun e w' ⟨q, hb⟩ => ⟨q.trans ?_, hb⟩
  unfold refR
  rw [if_neg hvp]
 obtain ⟨hv, hp⟩ := hvp
 obtain ⟨k, g1, g2, ⟨a1, a2⟩, ⟨b1, b2⟩, ⟨c1, c2⟩, i1, i2⟩ := (validI_iff (i := ⟨op, a, b, c, im⟩) h0).1 hv
 obtain ⟨s1, s2, s3, s4, s5⟩ := shp_hi3 k g2
 simp only at g1 a1 a2 b1 b2 c1 c2 i1 i2
 obtain ⟨an, rfl⟩ : ∃ n : Nat, a = (n : Int) := ⟨a.toNat, by omega⟩
 obtain ⟨bn, rfl⟩ : ∃ n : Nat, b = (n : Int) := ⟨b.toNat, by omega⟩
 obtain ⟨cn, rfl⟩ : ∃ n : Nat, c = (n : Int) := ⟨c.toNat, by omega⟩
 have ha : an < 16 := by omega
 have hT : ∀ o : Option RG, refR ⟨op, an, bn, cn, im⟩ r tk = o → (∀ e w', (e = Ending.returned (outR o) ∧ Below w.heap.size w w') → (e = .returned (outR (refR ⟨op, an, bn, cn, im⟩ r tk)) ∧ Below w.heap.size w w')) := fun o h e w' ⟨q, hb⟩ => ⟨by rw [h]; exact q, hb⟩
 have hO : op = 22 ∨ op = 23 ∨ op = 24 ∨ ((0 ≤ op ∧ op ≤ 21) ∨ (25 ≤ op ∧ op ≤ 29)) := by omega
 rcases hO with rfl | rfl | rfl | h
 ·cases tk
  ·exact (refine_br 22 an bn cn im ha (.inl rfl) r hr false w T hv hp).mono (hT _ (by unfold refR; rw [if_pos ⟨hv, hp⟩, if_pos (.inl rfl)]; rfl))
  ·exact (refine_br 22 an bn cn im ha (.inl rfl) r hr true w T hv hp).mono (hT _ (by unfold refR; rw [if_pos ⟨hv, hp⟩, if_pos (.inl rfl)]; rfl))
 ·cases tk
  ·exact (refine_br 23 an bn cn im ha (.inr rfl) r hr false w T hv hp).mono (hT _ (by unfold refR; rw [if_pos ⟨hv, hp⟩, if_pos (.inr rfl)]; rfl))
  ·exact (refine_br 23 an bn cn im ha (.inr rfl) r hr true w T hv hp).mono (hT _ (by unfold refR; rw [if_pos ⟨hv, hp⟩, if_pos (.inr rfl)]; rfl))
 ·cases tk
  ·exact (refine_jmpF 24 an bn cn im ha rfl r hr w T hv hp).mono (hT _ (by unfold refR; rw [if_pos ⟨hv, hp⟩, if_neg (by simp), if_pos rfl, if_neg (by decide)]))
  ·exact (refine_jmp 24 an bn cn im ha rfl r hr w T hv hp).mono (hT _ (by unfold refR; rw [if_pos ⟨hv, hp⟩, if_neg (by simp), if_pos rfl, if_pos rfl]))
 ·cases tk
  ·exact (refine_rest op an bn cn im ha h r hr w T hv hp).mono (hT _ (by unfold refR; rw [if_pos ⟨hv, hp⟩, if_neg (by simp only; omega), if_neg (by simp only; omega), if_neg (by decide)]))
  ·exact (refine_restT op an bn cn im ha h r hr w T hv hp).mono (hT _ (by unfold refR; rw [if_pos ⟨hv, hp⟩, if_neg (by simp only; omega), if_neg (by simp only; omega), if_pos rfl]))

end Go.Proofs.YtebklpnkcicpjaaDoor


