/-
 What is proved here: what combine returns.
-/
import Derived.Test.YtebklpnkcicpjaaDoorFaTr
import Derived.Test.YtebklpnkcicpjaaDoorFaPot
import Derived.Test.YtebklpnkcicpjaaDoorFbIp
namespace Go.Proofs.YtebklpnkcicpjaaDoor
open Go.RowKit
set_option linter.unusedVariables false
set_option linter.unusedSimpArgs false

theorem four_new (w : World) (cA cB cC cD : Array Value) (tA tB tC tD : TypeId) : ∃ V, (((w.alloc (.cells cA tA)).alloc (.cells cB tB)).alloc (.cells cC tC)).alloc (.cells cD tD) = V ∧ V.heap[w.heap.size]? = some (.cells cA tA (0, 0)) ∧ V.heap[w.heap.size + 1]? = some (.cells cB tB (0, 0)) ∧ V.heap[w.heap.size + 1 + 1]? = some (.cells cC tC (0, 0)) ∧ V.heap[w.heap.size + 1 + 1 + 1]? = some (.cells cD tD (0, 0)) ∧ Below w.heap.size w V ∧ w.heap.size + 1 + 1 + 1 < V.heap.size := by
 obtain ⟨V, e, h0, h1, h2, hb, hs⟩ := three_new w cA cB cC tA tB tC
 have hs3 : V.heap.size = w.heap.size + 1 + 1 + 1 := by rw [← e]; simp
 refine ⟨V.alloc (.cells cD tD), by rw [← e], ?_, ?_, ?_, ?_, hb.alloc (by omega) _, by simp; omega⟩
 ·rw [heap_alloc_old _ _ (by omega)]; exact h0
 ·rw [heap_alloc_old _ _ (by omega)]; exact h1
 ·rw [heap_alloc_old _ _ (by omega)]; exact h2
 ·rw [← hs3]; exact heap_alloc_new _ _
theorem join_ext {x y z : RG} {F : Int × Int → Int × Int → Int × Int} (hx : x.length = 16) (hy : y.length = 16) (hz : z.length = 16) (h : ∀ j : Nat, j < 16 → rg z (j : Int) = F (rg x (j : Int)) (rg y (j : Int))) : z = List.zipWith F x y := by
 apply List.ext_getElem?
 intro i
 by_cases hi : i < 16
 ·have := h i hi
  rw [get_rg (by omega), this]
  rw [List.getElem?_zipWith, get_rg (by omega), get_rg (by omega)]
 ·rw [List.getElem?_eq_none (by omega), List.getElem?_eq_none (by rw [List.length_zipWith]; omega)]

set_option maxRecDepth 100000 in
set_option maxHeartbeats 2000000 in
theorem combine_any (fid : FuncId) (F : Int × Int → Int × Int → Int × Int) (he : ∀ (args : Array Value) (w : World), (callFunc fid args).run Tryd.prog w = .ok (.enter fid args) w)
  (hF : ∀ a b c d w, Calls Tryd.prog fid #[.agg #[.int .i32 a, .int .i32 b], .agg #[.int .i32 c, .int .i32 d]] w fun e w' => e = .returned (.agg #[.int .i32 (F (a, b) (c, d)).1, .int .i32 (F (a, b) (c, d)).2]) ∧ Below w.heap.size w w')
  (x y : RG) (hx : x.length = 16) (hy : y.length = 16) (w : World) :
  Calls Tryd.prog 62 #[.agg (cellsR x).toArray, .agg (cellsR y).toArray, .func (.func fid) #[] #[]] w fun e w' => e = .returned (.agg (cellsR (List.zipWith F x y)).toArray) ∧ Below w.heap.size w w' := by
 obtain ⟨V, hV, k0, k1, k2, k3, bV, sV⟩ := four_new w (cellsR x).toArray (cellsR y).toArray #[.int .i32 0, .int .i32 0, .int .i32 0, .int .i32 0, .int .i32 0, .int .i32 0, .int .i32 0, .int .i32 0, .int .i32 0, .int .i32 0, .int .i32 0, .int .i32 0, .int .i32 0, .int .i32 0, .int .i32 0, .int .i32 0, .int .i32 0, .int .i32 0, .int .i32 0, .int .i32 0, .int .i32 0, .int .i32 0, .int .i32 0, .int .i32 0, .int .i32 0, .int .i32 0, .int .i32 0, .int .i32 0, .int .i32 0, .int .i32 0, .int .i32 0, .int .i32 0] #[.int .i32 0, .int .i32 0, .int .i32 0, .int .i32 0, .int .i32 0, .int .i32 0, .int .i32 0, .int .i32 0, .int .i32 0, .int .i32 0, .int .i32 0, .int .i32 0, .int .i32 0, .int .i32 0, .int .i32 0, .int .i32 0, .int .i32 0, .int .i32 0, .int .i32 0, .int .i32 0, .int .i32 0, .int .i32 0, .int .i32 0, .int .i32 0, .int .i32 0, .int .i32 0, .int .i32 0, .int .i32 0, .int .i32 0, .int .i32 0, .int .i32 0, .int .i32 0] 27 27 27 27
 have K0 := Lib.hid (show RBox V w.heap.size 27 x from k0)
 have K1 := Lib.hid (show RBox V (w.heap.size + 1) 27 y from k1)
 have K2 := Lib.hid k2
 have K3 := Lib.hid (show RBox V (w.heap.size + 1 + 1 + 1) 27 zeroR from k3)
 have BV := Lib.hid bV
 have HX := Lib.hid hx
 have HY := Lib.hid hy
 have HF := Lib.hid hF
 clear k0 k1 k2 k3 bV hF hx hy
 go_enter Tryd.func62, Tryd.ntmps62
 go_upto_region 3 with fail
 clear hV
 go_loopw [9] (fun a9 wr => ∃ k : Nat, ∃ z : RG, k ≤ 16 ∧ a9 = .int .i64 (k : Int) ∧ z.length = 16 ∧ (∀ j : Nat, j < k → rg z (j : Int) = F (rg x (j : Int)) (rg y (j : Int))) ∧ Below (w.heap.size + 1 + 1 + 1) V wr ∧ RBox wr (w.heap.size + 1 + 1 + 1) 27 z) (fun a9 _ => 16 - (intOf a9).toNat)
 case atStart => exact ⟨0, zeroR, by omega, rfl, by simp [zeroR], fun j hj => by omega, Below.refl _ _, K3.out⟩
 case round =>
  obtain ⟨k, z, hk, rfl, hz, hall, hb, kz⟩ := hrel
  have HA := Lib.hid hall
  have HB := Lib.hid hb
  have HZ := Lib.hid hz
  have HSZ := Lib.hid hb.size
  clear hall hb hz
  by_cases hlt : k < 16
  ·have dl : decide ((k : Int) < 16) = true := decide_eq_true (by omega)
   have ik : (k : Int) < 16 := by omega
   have KX : RBox wr w.heap.size 27 x := (HB.out.block _ (by omega)).trans K0.out
   have KY : RBox wr (w.heap.size + 1) 27 y := (HB.out.block _ (by omega)).trans K1.out
   obtain ⟨xl, hxl⟩ : ∃ v, (rg x (k : Int)).1 = v := ⟨_, rfl⟩
   obtain ⟨xh, hxh⟩ : ∃ v, (rg x (k : Int)).2 = v := ⟨_, rfl⟩
   obtain ⟨yl, hyl⟩ : ∃ v, (rg y (k : Int)).1 = v := ⟨_, rfl⟩
   obtain ⟨yh, hyh⟩ : ∃ v, (rg y (k : Int)).2 = v := ⟨_, rfl⟩
   have c0 : wr.cell? ⟨w.heap.size, k * 2, none⟩ = some (.int .i32 xl) := by rw [← hxl]; exact KX.lo (by rw [HX.out]; exact hlt)
   have c1 : wr.cell? ⟨w.heap.size, k * 2 + 1, none⟩ = some (.int .i32 xh) := by rw [← hxh]; exact KX.hi (by rw [HX.out]; exact hlt)
   have c2 : wr.cell? ⟨w.heap.size + 1, k * 2, none⟩ = some (.int .i32 yl) := by rw [← hyl]; exact KY.lo (by rw [HY.out]; exact hlt)
   have c3 : wr.cell? ⟨w.heap.size + 1, k * 2 + 1, none⟩ = some (.int .i32 yh) := by rw [← hyh]; exact KY.hi (by rw [HY.out]; exact hlt)
   have l0 : w.heap.size < wr.heap.size := KX.lt
   have l1 : w.heap.size + 1 < wr.heap.size := KY.lt
   have l3 : w.heap.size + 1 + 1 + 1 < wr.heap.size := kz.lt
   have f0 : wr.frozen? ⟨w.heap.size + 1 + 1 + 1, k * 2, none⟩ = false := kz.fz _
   have f1 : wr.frozen? ⟨w.heap.size + 1 + 1 + 1, k * 2 + 1, none⟩ = false := kz.fz _
   have z0 : wr.cell? ⟨w.heap.size + 1 + 1 + 1, k * 2, none⟩ = some (.int .i32 (rg z (k : Int)).1) := kz.lo (by rw [HZ.out]; exact hlt)
   have z1 : wr.cell? ⟨w.heap.size + 1 + 1 + 1, k * 2 + 1, none⟩ = some (.int .i32 (rg z (k : Int)).2) := kz.hi (by rw [HZ.out]; exact hlt)
   obtain ⟨p, q, hp⟩ : ∃ p q, F (xl, xh) (yl, yh) = (p, q) := ⟨_, _, rfl⟩
   have HG := Lib.hid (show ∀ w, Calls Tryd.prog fid #[.agg #[.int .i32 xl, .int .i32 xh], .agg #[.int .i32 yl, .int .i32 yh]] w fun e w' => e = .returned (.agg #[.int .i32 p, .int .i32 q]) ∧ Below w.heap.size w w' from fun w => by
    have := HF.out xl xh yl yh w
    rw [hp] at this
    exact this)
   have HP := Lib.hid (show F (rg x (k : Int)) (rg y (k : Int)) = (p, q) by rw [← hp, ← hxl, ← hxh, ← hyl, ← hyh])
   have KZ := Lib.hid kz
   clear hp hxl hxh hyl hyh KX KY kz
   go_upto_region 5 with fail
   refine wp_region_ext_tail 9 (by kernel_rfl) (by kernel_rfl) ?_
   simp only [List.take_succ_cons, List.take_zero, List.drop_succ_cons, List.drop_zero]
   repeat (go_big_quiet_step (exact Calls.extq (HG.out _)))
   refine wpQuiet_nil ?_
   rintro _ ⟨x1, rfl⟩
   go_wp2_with fail
   go_roundw
   case rel =>
    refine ⟨k + 1, z.set k (p, q), by omega, by go_num, by rw [List.length_set]; exact HZ.out, fun j hj => ?_, ?_, (KZ.out.keep x1.h).set k (p, q)⟩
    ·by_cases hjk : j = k
     ·subst hjk
      rw [HP.out, rg_nat]
      simp [List.getD, show j < z.length by rw [HZ.out]; exact hlt]
     ·have := HA.out j (by omega)
      rw [← this, rg_nat, rg_nat]
      simp [List.getD, List.getElem?_set, Ne.symm hjk]
    ·exact Below.setCell (Below.setCell (HB.out.trans (x1.h.mono (by have := HSZ.out; omega))) (Nat.le_refl _) _) (Nat.le_refl _) _
   case measure => simp [intOf]; omega
  ·obtain rfl : k = 16 := by omega
   have HR := Lib.hid (join_ext HX.out HY.out HZ.out HA.out)
   have HRG := Lib.hid kz.range
   have HI3 := Lib.hid (show (Tryd.prog.info? 27).map (·.size) = some (cellsR z).length by rw [cellsR_len, HZ.out]; kernel_rfl)
   have HI4 := Lib.hid (show (Tryd.prog.info? 27).map (·.size) = some (cellsR z).toArray.size by rw [List.size_toArray, cellsR_len, HZ.out]; kernel_rfl)
   have HI5 := Lib.hid (show (#[.int .i32 0, .int .i32 0, .int .i32 0, .int .i32 0, .int .i32 0, .int .i32 0, .int .i32 0, .int .i32 0, .int .i32 0, .int .i32 0, .int .i32 0, .int .i32 0, .int .i32 0, .int .i32 0, .int .i32 0, .int .i32 0, .int .i32 0, .int .i32 0, .int .i32 0, .int .i32 0, .int .i32 0, .int .i32 0, .int .i32 0, .int .i32 0, .int .i32 0, .int .i32 0, .int .i32 0, .int .i32 0, .int .i32 0, .int .i32 0, .int .i32 0, .int .i32 0] : Array Value).size = (cellsR z).toArray.size by rw [show (cellsR z).toArray.size = 32 by rw [List.size_toArray, cellsR_len, HZ.out]]; rfl)
   have HONE := Lib.hid (cellsR_one z)
   have KO := Lib.hid ((HB.out.block _ (by omega)).trans K2.out)
   go_wp2_with (first | (refine wpList_load_mid rfl _ _ rfl _ _ rfl (cellsR z) _ HRG.out Tryd.underlying27 rfl HI3.out ?_) | (refine wpList_store_row rfl 27 (.tmp 6) (.tmp 23) rfl (w.heap.size + 1 + 1) (cellsR z).toArray rfl rfl 27 _ KO.out HI4.out HI5.out HONE.out ?_))
   refine bodyPost_ret (results_cell (P := Tryd.prog) Tryd.results62 _ _ (w.heap.size + 1 + 1) (cellsR z) _ rfl (rangeAt_block (setRow_heap _ _ _ _ _ _ KO.out)) Tryd.underlying27 rfl HI3.out) rfl ⟨?_, below_setRow (BV.out.trans (HB.out.mono (by omega))) (by omega) _⟩
   rw [HR.out]

end Go.Proofs.YtebklpnkcicpjaaDoor


