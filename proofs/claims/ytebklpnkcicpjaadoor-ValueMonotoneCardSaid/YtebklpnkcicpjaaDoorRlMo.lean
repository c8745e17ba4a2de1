/-
 What is proved here: what ValueMonotone returns.
-/
import Derived.Test.YtebklpnkcicpjaaDoorRlMp
import Derived.Test.YtebklpnkcicpjaaDoorRaBd
import Derived.Test.YtebklpnkcicpjaaDoorRaAd
import Derived.Test.YtebklpnkcicpjaaDoorRaFix
import Derived.BigQuiet
import Derived.Deep.RegionHeld3
namespace Go.Proofs.YtebklpnkcicpjaaDoor
open Go.RowKit
set_option linter.unusedVariables false
set_option linter.unusedSimpArgs false

theorem tr_range {w w' : World} {b o : Nat} {cs : List Value} (h : w.rangeAt b o cs) (hb : Below w.heap.size w w') (hl : b < w.heap.size) : w'.rangeAt b o cs := fun j v hv => (hb.cell (p := ⟨b, o + j, none⟩) hl).trans (h j v hv)
def joinK (r m : RG) (k : Nat) : RG := (List.range 16).map fun j => if j < k then joinI (rg r (j : Int)) (rg m (j : Int)) else rg m (j : Int)
theorem joinK_len (r m : RG) (k : Nat) : (joinK r m k).length = 16 := by simp [joinK]
theorem rg_joinK (r m : RG) (k : Nat) {j : Nat} (hj : j < 16) : rg (joinK r m k) (j : Int) = if j < k then joinI (rg r (j : Int)) (rg m (j : Int)) else rg m (j : Int) := by
 rw [rg_nat]
 unfold joinK
 simp [List.getD, hj]
theorem joinK_zero (r : RG) {m : RG} (hm : m.length = 16) : joinK r m 0 = m := by
 apply List.ext_getElem?
 intro i
 by_cases hi : i < 16
 ·rw [get_rg (by rw [joinK_len]; exact hi), get_rg (by rw [hm]; exact hi), rg_joinK _ _ _ hi, if_neg (by omega)]
 ·rw [List.getElem?_eq_none (by rw [joinK_len]; omega), List.getElem?_eq_none (by omega)]
theorem joinK_all {r m : RG} (hr : R16 r) (hm : R16 m) : joinK r m 16 = joinR r m := by
 apply List.ext_getElem?
 intro i
 by_cases hi : i < 16
 ·rw [get_rg (by rw [joinK_len]; exact hi), get_rg (by rw [(hr.join hm).len]; exact hi), rg_joinK _ _ _ hi, if_pos hi, rg_join hr hm hi]
 ·rw [List.getElem?_eq_none (by rw [joinK_len]; omega), List.getElem?_eq_none (by rw [(hr.join hm).len]; omega)]
theorem joinK_succ (r m : RG) {k : Nat} (hk : k < 16) : (joinK r m k).set k (joinI (rg r (k : Int)) (rg m (k : Int))) = joinK r m (k + 1) := by
 apply List.ext_getElem?
 intro i
 by_cases hi : i < 16
 ·rw [get_rg (r := joinK r m (k + 1)) (by rw [joinK_len]; exact hi), rg_joinK _ _ _ hi, List.getElem?_set, joinK_len]
  by_cases e : k = i
  ·subst e
   rw [if_pos rfl, if_pos hk, if_pos (by omega)]
  ·rw [if_neg e, get_rg (by rw [joinK_len]; exact hi), rg_joinK _ _ _ hi]
   by_cases h : i < k
   ·rw [if_pos h, if_pos (by omega)]
   ·rw [if_neg h, if_neg (by omega)]
 ·rw [List.getElem?_eq_none (by rw [List.length_set, joinK_len]; omega), List.getElem?_eq_none (by rw [joinK_len]; omega)]
set_option maxRecDepth 100000 in
set_option maxHeartbeats 8000000 in
theorem vmono_any (AZ : AnlSpec) (op ia ib ic im : Int) (h0 : 0 ≤ op) (r m : RG) (tk : Bool) (hr : R16 r) (hm : R16 m) (w : World) (T : Tab w) :
  Calls Tryd.prog 6 #[.agg #[.int .u8 op, .int .i64 ia, .int .i64 ib, .int .i64 ic, .int .i64 im], .agg (cellsR r).toArray, .agg (cellsR m).toArray, .bool tk] w fun e w' => e = .returned (.bool true) ∧ Below w.heap.size w w' := by
 obtain ⟨V, hV, k0, k1, k2, bV, sV⟩ := three_new w #[.int .u8 op, .int .i64 ia, .int .i64 ib, .int .i64 ic, .int .i64 im] (cellsR r).toArray (cellsR m).toArray 23 27 27
 obtain ⟨a0, a1, a2, a3, a4, l0⟩ := ins_block k0
 have KI := Lib.hid k0
 have KR := Lib.hid (show RBox V (w.heap.size + 1) 27 r from k1)
 have KM := Lib.hid (show RBox V (w.heap.size + 1 + 1) 27 m from k2)
 have HAW := Lib.hid (vawake_any AZ V (T.below bV))
 have HTV := Lib.hid (T.below bV)
 have HTB := Lib.hid T
 have BV := Lib.hid bV
 have R := Lib.hid hr
 have MM := Lib.hid hm
 clear k0 k1 k2 bV hr hm T
 go_enter Tryd.func6, Tryd.ntmps6
 go_upto_region 3 with (go_at_call 9; refine HAW.out.mono ?_; rintro e W1 ⟨rfl, hbW1⟩)
 have HBr := Lib.hid (fun W => bad_any r R.out.len W)
 have HBm := Lib.hid (fun W => bad_any m MM.out.len W)
 obtain ⟨pr, hpr⟩ : ∃ p, properR r = p := ⟨_, rfl⟩
 obtain ⟨pm, hpm⟩ : ∃ p, properR m = p := ⟨_, rfl⟩
 rw [hpr] at HBr
 rw [hpm] at HBm
 have HPR := Lib.hid hpr
 have HPM := Lib.hid hpm
 have HBW1 := Lib.hid (BV.out.trans (hbW1.mono BV.out.size))
 have rg1 := (KR.out.keep hbW1).range
 have l1 : w.heap.size < W1.heap.size := by have := hbW1.size; omega
 have b1 : w.heap.size + 1 + 1 < W1.heap.size := by have := hbW1.size; omega
 have KM1 := Lib.hid (KM.out.keep hbW1)
 have KR1 := Lib.hid (KR.out.keep hbW1)
 have H1 := Lib.hid hbW1
 clear hV hpr hpm hbW1
 rcases pr with _ | _
 ·simp only [Bool.not_false] at HBr
  go_wp2_with (first | (refine wpList_load_mid rfl _ _ rfl _ _ rfl (cellsR r) _ rg1 Tryd.underlying27 rfl (hi3 R.out.len) ?_) | (go_at_call 10; refine (HBr.out _).mono ?_; rintro e W2 ⟨rfl, hb2⟩))
  go_ret
  exact ⟨rfl, HBW1.out.trans (hb2.mono HBW1.out.size)⟩
 rcases pm with _ | _
 ·simp only [Bool.not_false] at HBm
  simp only [Bool.not_true] at HBr
  go_wp2_with (first | (refine wpList_load_mid rfl _ _ rfl _ _ rfl (cellsR r) _ rg1 Tryd.underlying27 rfl (hi3 R.out.len) ?_) | (go_at_call 10; refine (HBr.out _).mono ?_; rintro e W2 ⟨rfl, hb2⟩; have rg2 := (KM1.out.keep hb2).range; clear HBr) | (refine wpList_load_midG (by first | rfl | kernel_rfl) _ _ rfl _ _ rfl (cellsR m) _ rg2 Tryd.underlying27 rfl (hi3 MM.out.len) ?_) | (go_at_call 10; refine (HBm.out _).mono ?_; rintro e W3 ⟨rfl, hb3⟩))
  go_ret
  exact ⟨rfl, (HBW1.out.trans (hb2.mono HBW1.out.size)).trans (hb3.mono (HBW1.out.trans (hb2.mono HBW1.out.size)).size)⟩
 simp only [Bool.not_true] at HBr HBm
 go_upto_region 6 with (first | (refine wpList_load_mid rfl _ _ rfl _ _ rfl (cellsR r) _ rg1 Tryd.underlying27 rfl (hi3 R.out.len) ?_) | (go_at_call 10; refine (HBr.out _).mono ?_; rintro e W2 ⟨rfl, hb2⟩; have rg2 := (KM1.out.keep hb2).range; clear HBr) | (refine wpList_load_midG (by first | rfl | kernel_rfl) _ _ rfl _ _ rfl (cellsR m) _ rg2 Tryd.underlying27 rfl (hi3 MM.out.len) ?_) | (go_at_call 10; refine (HBm.out _).mono ?_; rintro e W3 ⟨rfl, hb3⟩))
 have HB3 := Lib.hid (HBW1.out.trans ((hb2.trans (hb3.mono hb2.size)).mono HBW1.out.size))
 have h23 := hb2.trans (hb3.mono hb2.size)
 have KI3 := Lib.hid ((h23.block _ l1).trans ((H1.out.block _ l0).trans KI.out))
 have KR3 := Lib.hid (KR1.out.keep h23)
 have KM3 := Lib.hid (KM1.out.keep h23)
 clear hb2 hb3 h23 rg1 rg2 a0 a1 a2 a3 a4 HAW
 go_loopw [29] (fun a29 wr => ∃ k : Nat, k ≤ 16 ∧ a29 = .int .i64 (k : Int) ∧ RBox wr (w.heap.size + 1 + 1) 27 (joinK r m k) ∧ RBox wr (w.heap.size + 1) 27 r ∧ wr.heap[w.heap.size]? = some (.cells #[.int .u8 op, .int .i64 ia, .int .i64 ib, .int .i64 ic, .int .i64 im] 23 (0, 0)) ∧ Below w.heap.size w wr) (fun a29 _ => 16 - (intOf a29).toNat)
 case atStart => exact ⟨0, by omega, rfl, by rw [joinK_zero r MM.out.len]; exact KM3.out, KR3.out, KI3.out, HB3.out⟩
 case round =>
  obtain ⟨k, hk, rfl, km, kr, ki, hb⟩ := hrel
  have HKM := Lib.hid km
  have HKR := Lib.hid kr
  have HKI := Lib.hid ki
  have HB := Lib.hid hb
  by_cases hlt : k < 16
  ·have dl : decide ((k : Int) < 16) = true := decide_eq_true (by omega)
   have dk2 : decide ((16 : Int) ≤ (k : Int)) = false := decide_eq_false (by omega)
   have dk3 : (k : Int) < 16 := by omega
   have c1 := kr.lo (k := k) (by rw [R.out.len]; exact hlt)
   have c2 := kr.hi (k := k) (by rw [R.out.len]; exact hlt)
   have c3 := km.lo (k := k) (by rw [joinK_len]; exact hlt)
   have c4 := km.hi (k := k) (by rw [joinK_len]; exact hlt)
   have f3 := km.fz (k * 2)
   have f4 := km.fz (k * 2 + 1)
   rw [rg_joinK _ _ _ hlt, if_neg (by omega)] at c3 c4
   have lr := kr.lt
   have lm := km.lt
   obtain ⟨v1, hv1⟩ : ∃ v, (rg r (k : Int)).1 = v := ⟨_, rfl⟩
   obtain ⟨v2, hv2⟩ : ∃ v, (rg r (k : Int)).2 = v := ⟨_, rfl⟩
   obtain ⟨v3, hv3⟩ : ∃ v, (rg m (k : Int)).1 = v := ⟨_, rfl⟩
   obtain ⟨v4, hv4⟩ : ∃ v, (rg m (k : Int)).2 = v := ⟨_, rfl⟩
   rw [hv1] at c1
   rw [hv2] at c2
   rw [hv3] at c3
   rw [hv4] at c4
   obtain ⟨j1, hj1⟩ : ∃ v, (joinI (v1, v2) (v3, v4)).1 = v := ⟨_, rfl⟩
   obtain ⟨j2, hj2⟩ : ∃ v, (joinI (v1, v2) (v3, v4)).2 = v := ⟨_, rfl⟩
   have HJ := Lib.hid (fun W : World => by
    have h := join_any v1 v2 v3 v4 W
    rw [hj1, hj2] at h
    exact h)
   have HSET := Lib.hid (show (joinK r m k).set k (j1, j2) = joinK r m (k + 1) by
    rw [← joinK_succ r m hlt, ← hj1, ← hj2, ← hv1, ← hv2, ← hv3, ← hv4])
   clear hv1 hv2 hv3 hv4 hj1 hj2 km kr ki hb
   go_upto_region 8 with fail
   refine wp_region_ext_tail 9 (by kernel_rfl) (by kernel_rfl) ?_
   simp only [List.take_succ_cons, List.take_zero, List.drop_succ_cons, List.drop_zero]
   repeat (go_big_quiet_step ((go_at_call 24; exact Calls.extq (HJ.out _))))
   refine wpQuiet_nil ?_
   rintro _ ⟨x1, rfl⟩
   go_wp2_with fail
   go_roundw
   case rel =>
    refine ⟨k + 1, by omega, by go_num, ?_, ?_, ?_, ?_⟩
    ·rw [← HSET.out]
     exact (HKM.out.keep x1.h).set k (j1, j2)
    ·unfold RBox
     rw [Below.heap_setCell _ _ _ _ (by show w.heap.size + 1 ≠ w.heap.size + 1 + 1; omega), Below.heap_setCell _ _ _ _ (by show w.heap.size + 1 ≠ w.heap.size + 1 + 1; omega)]
     exact HKR.out.keep x1.h
    ·rw [Below.heap_setCell _ _ _ _ (by show w.heap.size ≠ w.heap.size + 1 + 1; omega), Below.heap_setCell _ _ _ _ (by show w.heap.size ≠ w.heap.size + 1 + 1; omega)]
     exact (x1.h.block _ (lt_of_blk' HKI.out)).trans HKI.out
    ·exact Below.setCell (Below.setCell (HB.out.trans (x1.h.mono HB.out.size)) (by show w.heap.size ≤ w.heap.size + 1 + 1; omega) _) (by show w.heap.size ≤ w.heap.size + 1 + 1; omega) _
   case measure => simp [intOf]; omega
  ·obtain rfl : k = 16 := by omega
   have dl : decide ((16 : Int) < 16) = false := by decide
   obtain ⟨L, hL⟩ : ∃ L : World, L = wr := ⟨_, rfl⟩
   subst hL
   obtain ⟨mj, hmj⟩ : ∃ q, joinR r m = q := ⟨_, rfl⟩
   have MJ := Lib.hid (show R16 mj by rw [← hmj]; exact R.out.join MM.out)
   have HMJ := Lib.hid hmj
   rw [joinK_all R.out MM.out, hmj] at km
   have KM0 := Lib.hid km
   have KR0 := Lib.hid kr
   have KI0 := Lib.hid ki
   have HB0 := Lib.hid hb
   have HT := Lib.hid (fun (W : World) (hW : Below w.heap.size w W) => HTB.out.below hW)
   clear hmj km kr ki hb HKM HKR HKI HB
   -- transR ⟨op, ia, ib, ic, im⟩ r
   obtain ⟨e0, e1, e2, e3, e4, lI0⟩ := ins_block KI0.out
   have rg0 := KR0.out.range
   obtain ⟨oA, hoA⟩ : ∃ o, transR ⟨op, ia, ib, ic, im⟩ r = o := ⟨_, rfl⟩
   obtain ⟨rA, hrA⟩ : ∃ q, oA.getD zeroR = q := ⟨_, rfl⟩
   obtain ⟨cA, hcA⟩ : ∃ q, oA.isSome = q := ⟨_, rfl⟩
   have HCA := Lib.hid (show Calls Tryd.prog 20 #[.agg #[.int .u8 op, .int .i64 ia, .int .i64 ib, .int .i64 ic, .int .i64 im], .agg (cellsR r).toArray] L fun e w' => e = .returned (.tuple #[.agg (cellsR rA).toArray, .bool cA]) ∧ Below L.heap.size L w' by
    have := transfer_any op ia ib ic im h0 r R.out L (HT.out _ HB0.out)
    rw [outR_eq, hoA, hrA, hcA] at this
    exact this)
   have RA := Lib.hid (show R16 rA by
    rw [← hrA]
    cases h3 : oA with
    | none => exact R16.zero
    | some a => exact transR_16 h0 R.out (hoA.trans h3))
   have HOA := Lib.hid hoA
   have HRA := Lib.hid hrA
   have HCCA := Lib.hid hcA
   clear hoA hrA hcA
   go_upto_region 11 with (first | (refine wpList_load_mid rfl _ _ rfl _ _ rfl (cellsR r) _ rg0 Tryd.underlying27 rfl (hi3 R.out.len) ?_) | (go_at_call 20; refine HCA.out.mono ?_; rintro e W5 ⟨rfl, hbc⟩) | (refine wpList_store_row rfl 27 (.tmp 10) (.tmp 46) rfl W5.heap.size (cellsR rA).toArray rfl rfl 27 _ (heap_alloc_new _ _) (hi4 RA.out.len) (hi6 RA.out.len zero16) (cellsR_one rA) ?_))
   obtain ⟨qA, hq⟩ : ∃ b, W5.heap.size = b := ⟨_, rfl⟩
   obtain ⟨E0, hE⟩ : ∃ E, (W5.alloc (.cells #[.int .i32 0, .int .i32 0, .int .i32 0, .int .i32 0, .int .i32 0, .int .i32 0, .int .i32 0, .int .i32 0, .int .i32 0, .int .i32 0, .int .i32 0, .int .i32 0, .int .i32 0, .int .i32 0, .int .i32 0, .int .i32 0, .int .i32 0, .int .i32 0, .int .i32 0, .int .i32 0, .int .i32 0, .int .i32 0, .int .i32 0, .int .i32 0, .int .i32 0, .int .i32 0, .int .i32 0, .int .i32 0, .int .i32 0, .int .i32 0, .int .i32 0, .int .i32 0] 27)).setRow W5.heap.size (cellsR rA).toArray = E := ⟨_, rfl⟩
   rw [hE, hq]
   have bE : Below W5.heap.size W5 E0 := hE ▸ below_setRow ((Below.refl _ _).alloc (Nat.le_refl _) _) (Nat.le_refl _) _
   have bPE : Below L.heap.size L E0 := hbc.trans (bE.mono hbc.size)
   have KA1 := Lib.hid (show RBox E0 qA 27 rA by rw [← hq, ← hE]; exact RBox.row (z := zeroR) (heap_alloc_new _ _))
   have KI1 := Lib.hid ((bPE.block _ lI0).trans KI0.out)
   have KR1 := Lib.hid (KR0.out.keep bPE)
   have KM1 := Lib.hid (KM0.out.keep bPE)
   have HB1 := Lib.hid (HB0.out.trans (bPE.mono HB0.out.size))
   clear hE hq bE bPE hbc e0 e1 e2 e3 e4 rg0 HCA KI0 KR0 KM0
   -- transR ⟨op, ia, ib, ic, im⟩ mj
   obtain ⟨e0, e1, e2, e3, e4, lI1⟩ := ins_block KI1.out
   have rg1 := KM1.out.range
   obtain ⟨oB, hoB⟩ : ∃ o, transR ⟨op, ia, ib, ic, im⟩ mj = o := ⟨_, rfl⟩
   obtain ⟨rB, hrB⟩ : ∃ q, oB.getD zeroR = q := ⟨_, rfl⟩
   obtain ⟨cB, hcB⟩ : ∃ q, oB.isSome = q := ⟨_, rfl⟩
   have HCB := Lib.hid (show Calls Tryd.prog 20 #[.agg #[.int .u8 op, .int .i64 ia, .int .i64 ib, .int .i64 ic, .int .i64 im], .agg (cellsR mj).toArray] E0 fun e w' => e = .returned (.tuple #[.agg (cellsR rB).toArray, .bool cB]) ∧ Below E0.heap.size E0 w' by
    have := transfer_any op ia ib ic im h0 mj MJ.out E0 (HT.out _ HB1.out)
    rw [outR_eq, hoB, hrB, hcB] at this
    exact this)
   have RB := Lib.hid (show R16 rB by
    rw [← hrB]
    cases h3 : oB with
    | none => exact R16.zero
    | some a => exact transR_16 h0 MJ.out (hoB.trans h3))
   have HOB := Lib.hid hoB
   have HRB := Lib.hid hrB
   have HCCB := Lib.hid hcB
   clear hoB hrB hcB
   go_upto_region 12 with (first | (refine wpList_load_mid rfl _ _ rfl _ _ rfl (cellsR mj) _ rg1 Tryd.underlying27 rfl (hi3 MJ.out.len) ?_) | (go_at_call 20; refine HCB.out.mono ?_; rintro e W6 ⟨rfl, hbc⟩) | (refine wpList_store_row rfl 27 (.tmp 12) (.tmp 52) rfl W6.heap.size (cellsR rB).toArray rfl rfl 27 _ (heap_alloc_new _ _) (hi4 RB.out.len) (hi6 RB.out.len zero16) (cellsR_one rB) ?_))
   obtain ⟨qB, hq⟩ : ∃ b, W6.heap.size = b := ⟨_, rfl⟩
   obtain ⟨E1, hE⟩ : ∃ E, (W6.alloc (.cells #[.int .i32 0, .int .i32 0, .int .i32 0, .int .i32 0, .int .i32 0, .int .i32 0, .int .i32 0, .int .i32 0, .int .i32 0, .int .i32 0, .int .i32 0, .int .i32 0, .int .i32 0, .int .i32 0, .int .i32 0, .int .i32 0, .int .i32 0, .int .i32 0, .int .i32 0, .int .i32 0, .int .i32 0, .int .i32 0, .int .i32 0, .int .i32 0, .int .i32 0, .int .i32 0, .int .i32 0, .int .i32 0, .int .i32 0, .int .i32 0, .int .i32 0, .int .i32 0] 27)).setRow W6.heap.size (cellsR rB).toArray = E := ⟨_, rfl⟩
   rw [hE, hq]
   have bE : Below W6.heap.size W6 E1 := hE ▸ below_setRow ((Below.refl _ _).alloc (Nat.le_refl _) _) (Nat.le_refl _) _
   have bPE : Below E0.heap.size E0 E1 := hbc.trans (bE.mono hbc.size)
   have KB2 := Lib.hid (show RBox E1 qB 27 rB by rw [← hq, ← hE]; exact RBox.row (z := zeroR) (heap_alloc_new _ _))
   have KI2 := Lib.hid ((bPE.block _ lI1).trans KI1.out)
   have KR2 := Lib.hid (KR1.out.keep bPE)
   have KM2 := Lib.hid (KM1.out.keep bPE)
   have HB2 := Lib.hid (HB1.out.trans (bPE.mono HB1.out.size))
   have KA2 := Lib.hid (KA1.out.keep bPE)
   clear hE hq bE bPE hbc e0 e1 e2 e3 e4 rg1 HCB KI1 KR1 KM1 KA1
   -- refR ⟨op, ia, ib, ic, im⟩ r tk
   obtain ⟨e0, e1, e2, e3, e4, lI2⟩ := ins_block KI2.out
   have rg2 := KR2.out.range
   obtain ⟨oC, hoC⟩ : ∃ o, refR ⟨op, ia, ib, ic, im⟩ r tk = o := ⟨_, rfl⟩
   obtain ⟨rC, hrC⟩ : ∃ q, oC.getD zeroR = q := ⟨_, rfl⟩
   obtain ⟨cC, hcC⟩ : ∃ q, oC.isSome = q := ⟨_, rfl⟩
   have HCC := Lib.hid (show Calls Tryd.prog 13 #[.agg #[.int .u8 op, .int .i64 ia, .int .i64 ib, .int .i64 ic, .int .i64 im], .agg (cellsR r).toArray, .bool tk] E1 fun e w' => e = .returned (.tuple #[.agg (cellsR rC).toArray, .bool cC]) ∧ Below E1.heap.size E1 w' by
    have := refine_any op ia ib ic im h0 r R.out tk E1 (HT.out _ HB2.out)
    rw [outR_eq, hoC, hrC, hcC] at this
    exact this)
   have RC := Lib.hid (show R16 rC by
    rw [← hrC]
    cases h3 : oC with
    | none => exact R16.zero
    | some a => exact refR_16 R.out (hoC.trans h3))
   have HOC := Lib.hid hoC
   have HRC := Lib.hid hrC
   have HCCC := Lib.hid hcC
   clear hoC hrC hcC
   go_upto_region 13 with (first | (refine wpList_load_mid rfl _ _ rfl _ _ rfl (cellsR r) _ rg2 Tryd.underlying27 rfl (hi3 R.out.len) ?_) | (go_at_call 13; refine HCC.out.mono ?_; rintro e W7 ⟨rfl, hbc⟩) | (refine wpList_store_row rfl 27 (.tmp 14) (.tmp 59) rfl W7.heap.size (cellsR rC).toArray rfl rfl 27 _ (heap_alloc_new _ _) (hi4 RC.out.len) (hi6 RC.out.len zero16) (cellsR_one rC) ?_))
   obtain ⟨qC, hq⟩ : ∃ b, W7.heap.size = b := ⟨_, rfl⟩
   obtain ⟨E2, hE⟩ : ∃ E, (W7.alloc (.cells #[.int .i32 0, .int .i32 0, .int .i32 0, .int .i32 0, .int .i32 0, .int .i32 0, .int .i32 0, .int .i32 0, .int .i32 0, .int .i32 0, .int .i32 0, .int .i32 0, .int .i32 0, .int .i32 0, .int .i32 0, .int .i32 0, .int .i32 0, .int .i32 0, .int .i32 0, .int .i32 0, .int .i32 0, .int .i32 0, .int .i32 0, .int .i32 0, .int .i32 0, .int .i32 0, .int .i32 0, .int .i32 0, .int .i32 0, .int .i32 0, .int .i32 0, .int .i32 0] 27)).setRow W7.heap.size (cellsR rC).toArray = E := ⟨_, rfl⟩
   rw [hE, hq]
   have bE : Below W7.heap.size W7 E2 := hE ▸ below_setRow ((Below.refl _ _).alloc (Nat.le_refl _) _) (Nat.le_refl _) _
   have bPE : Below E1.heap.size E1 E2 := hbc.trans (bE.mono hbc.size)
   have KC3 := Lib.hid (show RBox E2 qC 27 rC by rw [← hq, ← hE]; exact RBox.row (z := zeroR) (heap_alloc_new _ _))
   have KI3 := Lib.hid ((bPE.block _ lI2).trans KI2.out)
   have KR3 := Lib.hid (KR2.out.keep bPE)
   have KM3 := Lib.hid (KM2.out.keep bPE)
   have HB3 := Lib.hid (HB2.out.trans (bPE.mono HB2.out.size))
   have KA3 := Lib.hid (KA2.out.keep bPE)
   have KB3 := Lib.hid (KB2.out.keep bPE)
   clear hE hq bE bPE hbc e0 e1 e2 e3 e4 rg2 HCC KI2 KR2 KM2 KA2 KB2
   -- refR ⟨op, ia, ib, ic, im⟩ mj tk
   obtain ⟨e0, e1, e2, e3, e4, lI3⟩ := ins_block KI3.out
   have rg3 := KM3.out.range
   obtain ⟨oD, hoD⟩ : ∃ o, refR ⟨op, ia, ib, ic, im⟩ mj tk = o := ⟨_, rfl⟩
   obtain ⟨rD, hrD⟩ : ∃ q, oD.getD zeroR = q := ⟨_, rfl⟩
   obtain ⟨cD, hcD⟩ : ∃ q, oD.isSome = q := ⟨_, rfl⟩
   have HCD := Lib.hid (show Calls Tryd.prog 13 #[.agg #[.int .u8 op, .int .i64 ia, .int .i64 ib, .int .i64 ic, .int .i64 im], .agg (cellsR mj).toArray, .bool tk] E2 fun e w' => e = .returned (.tuple #[.agg (cellsR rD).toArray, .bool cD]) ∧ Below E2.heap.size E2 w' by
    have := refine_any op ia ib ic im h0 mj MJ.out tk E2 (HT.out _ HB3.out)
    rw [outR_eq, hoD, hrD, hcD] at this
    exact this)
   have RD := Lib.hid (show R16 rD by
    rw [← hrD]
    cases h3 : oD with
    | none => exact R16.zero
    | some a => exact refR_16 MJ.out (hoD.trans h3))
   have HOD := Lib.hid hoD
   have HRD := Lib.hid hrD
   have HCCD := Lib.hid hcD
   clear hoD hrD hcD
   go_upto_region 14 with (first | (refine wpList_load_mid rfl _ _ rfl _ _ rfl (cellsR mj) _ rg3 Tryd.underlying27 rfl (hi3 MJ.out.len) ?_) | (go_at_call 13; refine HCD.out.mono ?_; rintro e W8 ⟨rfl, hbc⟩) | (refine wpList_store_row rfl 27 (.tmp 16) (.tmp 66) rfl W8.heap.size (cellsR rD).toArray rfl rfl 27 _ (heap_alloc_new _ _) (hi4 RD.out.len) (hi6 RD.out.len zero16) (cellsR_one rD) ?_))
   obtain ⟨qD, hq⟩ : ∃ b, W8.heap.size = b := ⟨_, rfl⟩
   obtain ⟨E3, hE⟩ : ∃ E, (W8.alloc (.cells #[.int .i32 0, .int .i32 0, .int .i32 0, .int .i32 0, .int .i32 0, .int .i32 0, .int .i32 0, .int .i32 0, .int .i32 0, .int .i32 0, .int .i32 0, .int .i32 0, .int .i32 0, .int .i32 0, .int .i32 0, .int .i32 0, .int .i32 0, .int .i32 0, .int .i32 0, .int .i32 0, .int .i32 0, .int .i32 0, .int .i32 0, .int .i32 0, .int .i32 0, .int .i32 0, .int .i32 0, .int .i32 0, .int .i32 0, .int .i32 0, .int .i32 0, .int .i32 0] 27)).setRow W8.heap.size (cellsR rD).toArray = E := ⟨_, rfl⟩
   rw [hE, hq]
   have bE : Below W8.heap.size W8 E3 := hE ▸ below_setRow ((Below.refl _ _).alloc (Nat.le_refl _) _) (Nat.le_refl _) _
   have bPE : Below E2.heap.size E2 E3 := hbc.trans (bE.mono hbc.size)
   have KD4 := Lib.hid (show RBox E3 qD 27 rD by rw [← hq, ← hE]; exact RBox.row (z := zeroR) (heap_alloc_new _ _))
   have KI4 := Lib.hid ((bPE.block _ lI3).trans KI3.out)
   have KR4 := Lib.hid (KR3.out.keep bPE)
   have KM4 := Lib.hid (KM3.out.keep bPE)
   have HB4 := Lib.hid (HB3.out.trans (bPE.mono HB3.out.size))
   have KA4 := Lib.hid (KA3.out.keep bPE)
   have KB4 := Lib.hid (KB3.out.keep bPE)
   have KC4 := Lib.hid (KC3.out.keep bPE)
   clear hE hq bE bPE hbc e0 e1 e2 e3 e4 rg3 HCD KI3 KR3 KM3 KA3 KB3 KC3
   have HAB := Lib.hid (show cA = true → cB = true ∧ SubR rA rB from fun h => by
    obtain ⟨a, ha⟩ : ∃ a, oA = some a := by
     cases h2 : oA with
     | none => rw [← HCCA.out, h2] at h; cases h
     | some a => exact ⟨a, rfl⟩
    obtain ⟨b, hb1, hb2⟩ := trans_mono h0 R.out MJ.out HPR.out (by rw [← HMJ.out]; exact join_proper R.out MM.out HPR.out HPM.out) (by rw [← HMJ.out]; exact join_sub R.out MM.out) (HOA.out.trans ha)
    rw [HOB.out] at hb1
    have e1 : rA = a := by rw [← HRA.out, ha]; rfl
    have e2 : rB = b := by rw [← HRB.out, hb1]; rfl
    exact ⟨by rw [← HCCB.out, hb1]; rfl, by rw [e1, e2]; exact hb2⟩)
   have HCD := Lib.hid (show cC = true → cD = true ∧ SubR rC rD from fun h => by
    obtain ⟨a, ha⟩ : ∃ a, oC = some a := by
     cases h2 : oC with
     | none => rw [← HCCC.out, h2] at h; cases h
     | some a => exact ⟨a, rfl⟩
    obtain ⟨b, hb1, hb2⟩ := ref_mono h0 R.out MJ.out HPR.out (by rw [← HMJ.out]; exact join_proper R.out MM.out HPR.out HPM.out) (by rw [← HMJ.out]; exact join_sub R.out MM.out) (HOC.out.trans ha)
    rw [HOD.out] at hb1
    have e1 : rC = a := by rw [← HRC.out, ha]; rfl
    have e2 : rD = b := by rw [← HRD.out, hb1]; rfl
    exact ⟨by rw [← HCCD.out, hb1]; rfl, by rw [e1, e2]; exact hb2⟩)
   go_upto_region 14 with fail
   go_cut [79] from 68 to 80 (fun a79 wx => a79 = .bool false ∧ wx = E3)
   case first =>
    rcases cA with _ | _
    ·rcases cC with _ | _
     ·go_wp2_with fail
      go_meet
      exact ⟨rfl, rfl⟩
     ·obtain rfl : cD = true := (HCD.out rfl).1
      go_wp2_with fail
      go_meet
      exact ⟨rfl, rfl⟩
    ·obtain rfl : cB = true := (HAB.out rfl).1
     rcases cC with _ | _
     ·go_wp2_with fail
      go_meet
      exact ⟨rfl, rfl⟩
     ·obtain rfl : cD = true := (HCD.out rfl).1
      go_wp2_with fail
      go_meet
      exact ⟨rfl, rfl⟩
   case rest =>
    obtain ⟨rfl, hwc⟩ := hcut
    obtain rfl : E3 = _ := hwc.symm
    go_upto_region 17 with fail
    go_loopw [80] (fun a80 wr => ∃ i : Nat, i ≤ 16 ∧ a80 = .int .i64 (i : Int) ∧ Below E3.heap.size E3 wr) (fun a80 _ => 16 - (intOf a80).toNat)
    case atStart => exact ⟨0, by omega, rfl, Below.refl _ _⟩
    case round =>
     obtain ⟨i, hi16, rfl, hb⟩ := hrel
     obtain ⟨w6, hw6⟩ : ∃ w6 : World, w6 = wr := ⟨_, rfl⟩
     subst hw6
     have HB6 := Lib.hid hb
     have hsz6 := hb.size
     have kA := KA4.out.keep hb
     have kB := KB4.out.keep hb
     have kC := KC4.out.keep hb
     have kD := KD4.out.keep hb
     clear hb
     by_cases hlt2 : i < 16
     ·have dl6 : decide ((i : Int) < 16) = true := decide_eq_true (by omega)
      have dj2 : decide ((16 : Int) ≤ (i : Int)) = false := decide_eq_false (by omega)
      have dj3 : (i : Int) < 16 := by omega
      have pA1 := kA.lo (k := i) (by rw [RA.out.len]; exact hlt2)
      have pA2 := kA.hi (k := i) (by rw [RA.out.len]; exact hlt2)
      have lA := kA.lt
      obtain ⟨uA1, huA1⟩ : ∃ v, (rg rA (i : Int)).1 = v := ⟨_, rfl⟩
      obtain ⟨uA2, huA2⟩ : ∃ v, (rg rA (i : Int)).2 = v := ⟨_, rfl⟩
      rw [huA1] at pA1
      rw [huA2] at pA2
      have pB1 := kB.lo (k := i) (by rw [RB.out.len]; exact hlt2)
      have pB2 := kB.hi (k := i) (by rw [RB.out.len]; exact hlt2)
      have lB := kB.lt
      obtain ⟨uB1, huB1⟩ : ∃ v, (rg rB (i : Int)).1 = v := ⟨_, rfl⟩
      obtain ⟨uB2, huB2⟩ : ∃ v, (rg rB (i : Int)).2 = v := ⟨_, rfl⟩
      rw [huB1] at pB1
      rw [huB2] at pB2
      have pC1 := kC.lo (k := i) (by rw [RC.out.len]; exact hlt2)
      have pC2 := kC.hi (k := i) (by rw [RC.out.len]; exact hlt2)
      have lC := kC.lt
      obtain ⟨uC1, huC1⟩ : ∃ v, (rg rC (i : Int)).1 = v := ⟨_, rfl⟩
      obtain ⟨uC2, huC2⟩ : ∃ v, (rg rC (i : Int)).2 = v := ⟨_, rfl⟩
      rw [huC1] at pC1
      rw [huC2] at pC2
      have pD1 := kD.lo (k := i) (by rw [RD.out.len]; exact hlt2)
      have pD2 := kD.hi (k := i) (by rw [RD.out.len]; exact hlt2)
      have lD := kD.lt
      obtain ⟨uD1, huD1⟩ : ∃ v, (rg rD (i : Int)).1 = v := ⟨_, rfl⟩
      obtain ⟨uD2, huD2⟩ : ∃ v, (rg rD (i : Int)).2 = v := ⟨_, rfl⟩
      rw [huD1] at pD1
      rw [huD2] at pD2
      have HW1 := Lib.hid (show cA = true → ∀ W : World, Calls Tryd.prog 23 #[.agg #[.int .i32 uA1, .int .i32 uA2], .agg #[.int .i32 uB1, .int .i32 uB2]] W fun e w' => e = .returned (.bool true) ∧ Below W.heap.size W w' from fun hc W => by
       have h := within_any uA1 uA2 uB1 uB2 W
       have h2 := (HAB.out hc).2 (i : Int)
       have h3 : withinI (uA1, uA2) (uB1, uB2) = true := (within_iff _ _).2 (by unfold Sub at h2; rw [huA1, huA2, huB1, huB2] at h2; exact h2)
       rw [h3] at h
       exact h)
      have HW2 := Lib.hid (show cC = true → ∀ W : World, Calls Tryd.prog 23 #[.agg #[.int .i32 uC1, .int .i32 uC2], .agg #[.int .i32 uD1, .int .i32 uD2]] W fun e w' => e = .returned (.bool true) ∧ Below W.heap.size W w' from fun hc W => by
       have h := within_any uC1 uC2 uD1 uD2 W
       have h2 := (HCD.out hc).2 (i : Int)
       have h3 : withinI (uC1, uC2) (uD1, uD2) = true := (within_iff _ _).2 (by unfold Sub at h2; rw [huC1, huC2, huD1, huD2] at h2; exact h2)
       rw [h3] at h
       exact h)
      clear huA1 huA2 huB1 huB2 huC1 huC2 huD1 huD2 kA kB kC kD
      go_upto_region 19 with fail
      rcases cA with _ | _ <;> rcases cC with _ | _
      all_goals
       refine wp_region_ext (by kernel_rfl) (by kernel_rfl) ?_
       repeat (go_big_quiet_step ((go_at_call 23; first | (with_reducible exact Calls.extq (HW1.out rfl _)) | (with_reducible exact Calls.extq (HW2.out rfl _)))))
       refine wpQuiet_nil ?_
       rintro _ ⟨x6, rfl⟩
       go_wp2_with fail
       go_roundw
       case rel => exact ⟨i + 1, by omega, by go_num, HB6.out.trans (x6.h.mono hsz6)⟩
       case measure => simp [intOf]; omega
     ·obtain rfl : i = 16 := by omega
      have dl6 : decide ((16 : Int) < 16) = false := by decide
      clear kA kB kC kD
      go_upto_region 22 with fail
      obtain ⟨X, hX⟩ : ∃ X : World, X = w6 := ⟨_, rfl⟩
      subst hX
      have lXI : w.heap.size < X.heap.size := lt_of_blk' ((HB6.out.block _ (lt_of_blk' KI4.out)).trans KI4.out)
      have KIX := Lib.hid ((HB6.out.block _ (lt_of_blk' KI4.out)).trans KI4.out)
      have kRX := KR4.out.keep HB6.out
      have kMX := KM4.out.keep HB6.out
      have HRX := Lib.hid kRX.range
      have HMX := Lib.hid kMX.range
      have lXR := kRX.lt
      have lXM := kMX.lt
      have HBX := Lib.hid (HB4.out.trans (HB6.out.mono HB4.out.size))
      have HA1 := Lib.hid (fun (W : World) (hW : Below X.heap.size X W) => address_any op ia ib ic im h0 r R.out W (HT.out _ (HBX.out.trans (hW.mono HBX.out.size))))
      have HA2 := Lib.hid (fun (W : World) (hW : Below X.heap.size X W) => address_any op ia ib ic im h0 mj MJ.out W (HT.out _ (HBX.out.trans (hW.mono HBX.out.size))))
      have HAD := Lib.hid (show Sub (addrR ⟨op, ia, ib, ic, im⟩ r) (addrR ⟨op, ia, ib, ic, im⟩ mj) from addr_mono R.out MJ.out HPR.out (by rw [← HMJ.out]; exact join_proper R.out MM.out HPR.out HPM.out) (by rw [← HMJ.out]; exact join_sub R.out MM.out))
      obtain ⟨⟨x1, x2⟩, hx⟩ : ∃ p, addrR ⟨op, ia, ib, ic, im⟩ r = p := ⟨_, rfl⟩
      obtain ⟨⟨y1, y2⟩, hy⟩ : ∃ p, addrR ⟨op, ia, ib, ic, im⟩ mj = p := ⟨_, rfl⟩
      rw [hx] at HA1 HAD
      rw [hy] at HA2 HAD
      have HWI := Lib.hid (fun W : World => by
       have h := within_any x1 x2 y1 y2 W
       rw [(within_iff _ _).2 HAD.out] at h
       exact h)
      clear hx hy kRX kMX
      refine wp_region_held_drew (S := fun w' => Below X.heap.size X w' ∧ w'.heap[w.heap.size]? = some (.cells #[.int .u8 op, .int .i64 ia, .int .i64 ib, .int .i64 ic, .int .i64 im] 23 (0, 0)) ∧ w'.rangeAt (w.heap.size + 1) 0 (cellsR r) ∧ w'.rangeAt (w.heap.size + 1 + 1) 0 (cellsR mj)) (by kernel_rfl) ?_ (fun hHeld => ?_)
      ·have hk : Below X.heap.size X X.drew := Below.drew (Below.refl _ _)
       exact ⟨hk, (hk.block _ lXI).trans KIX.out, tr_range HRX.out hk lXR, tr_range HMX.out hk lXM⟩
      refine wpAnyH_take (i := 0) (oi := _) (v := ?_) rfl (by kernel_rfl) (by kernel_rfl) (by kernel_rfl) (fun _ _ _ h => h) (Or.inl ⟨by rfl, ?_⟩) hHeld ?_
      rotate_left
      ·intro w' hSw
       obtain ⟨s0, s1, s2, s3, s4, sI⟩ := ins_block hSw.2.1
       clear hSw
       go_simp
       (try with_reducible rfl)
      (try simp only [List.getElem_toArray, List.getElem_cons_zero, List.getElem_cons_succ, Act.put, List.setIfInBounds_toArray, List.set_cons_zero, List.set_cons_succ])
      refine wpAnyH_take (i := 1) (oi := _) (v := _) rfl (by kernel_rfl) (by kernel_rfl) (by kernel_rfl) (fun _ _ _ h => h) (yieldsIf_load_mid (by rfl) _ _ rfl _ _ rfl (cellsR r) _ (fun w hSw => hSw.2.2.1) Tryd.underlying27 rfl (hi3 R.out.len)) hHeld ?_
      (try simp only [List.getElem_toArray, List.getElem_cons_zero, List.getElem_cons_succ, Act.put, List.setIfInBounds_toArray, List.set_cons_zero, List.set_cons_succ])
      refine wpAnyH_take (i := 3) (oi := _) (v := ?_) rfl (by kernel_rfl) (by kernel_rfl) (by kernel_rfl) (fun _ _ _ h => h) (Or.inl ⟨by rfl, ?_⟩) hHeld ?_
      rotate_left
      ·intro w' hSw
       obtain ⟨s0, s1, s2, s3, s4, sI⟩ := ins_block hSw.2.1
       clear hSw
       go_simp
       (try with_reducible rfl)
      (try simp only [List.getElem_toArray, List.getElem_cons_zero, List.getElem_cons_succ, Act.put, List.setIfInBounds_toArray, List.set_cons_zero, List.set_cons_succ])
      refine wpAnyH_take (i := 4) (oi := _) (v := _) rfl (by kernel_rfl) (by kernel_rfl) (by kernel_rfl) (fun _ _ _ h => h) (yieldsIf_load_mid (by rfl) _ _ rfl _ _ rfl (cellsR mj) _ (fun w hSw => hSw.2.2.2) Tryd.underlying27 rfl (hi3 MJ.out.len)) hHeld ?_
      (try simp only [List.getElem_toArray, List.getElem_cons_zero, List.getElem_cons_succ, Act.put, List.setIfInBounds_toArray, List.set_cons_zero, List.set_cons_succ])
      have hk : Below X.heap.size X X.drew := Below.drew (Below.refl _ _)
      clear hHeld
      obtain ⟨D0, hD0⟩ : ∃ D, X.drew = D := ⟨_, rfl⟩
      rw [hD0] at hk
      rw [hD0]
      clear hD0
      refine wpAnyH_ready (rs := [2, 6, 7]) (by kernel_rfl) (by simp) ?_
      refine AllReadyH.cons (o := _) rfl (fun K hK => ?_) (AllReadyH.cons (o := _) rfl (fun K hK => ?_) (AllReadyH.cons (o := _) rfl (fun K hK => ?_) (AllReadyH.nil)))
      focus
       go_simp
       go_at_call 25
       refine (HA1.out _ hk).mono ?_
       rintro e D0c0 ⟨rfl, hb⟩
       have hk := Below.trans hk (hb.mono hk.size)
       clear hb
       refine hK.out _ _ (⟨hk, (hk.block _ lXI).trans KIX.out, tr_range HRX.out hk lXR, tr_range HMX.out hk lXM⟩) (fun hHeld => ?_)
       clear hK K
       (try simp only [List.getElem_toArray, List.getElem_cons_zero, List.getElem_cons_succ, Act.put, List.setIfInBounds_toArray, List.set_cons_zero, List.set_cons_succ])
       refine wpAnyH_ready (rs := [5, 6, 7]) (by kernel_rfl) (by simp) ?_
       refine AllReadyH.cons (o := _) rfl (fun K hK => ?_) (AllReadyH.cons (o := _) rfl (fun K hK => ?_) (AllReadyH.cons (o := _) rfl (fun K hK => ?_) (AllReadyH.nil)))
       focus
        go_simp
        go_at_call 25
        refine (HA2.out _ hk).mono ?_
        rintro e D0c0c1 ⟨rfl, hb⟩
        have hk := Below.trans hk (hb.mono hk.size)
        clear hb
        refine hK.out _ _ (⟨hk, (hk.block _ lXI).trans KIX.out, tr_range HRX.out hk lXR, tr_range HMX.out hk lXM⟩) (fun hHeld => ?_)
        clear hK K
        (try simp only [List.getElem_toArray, List.getElem_cons_zero, List.getElem_cons_succ, Act.put, List.setIfInBounds_toArray, List.set_cons_zero, List.set_cons_succ])
        refine wpAnyH_ready (rs := [6, 7]) (by kernel_rfl) (by simp) ?_
        refine AllReadyH.cons (o := _) rfl (fun K hK => ?_) (AllReadyH.cons (o := _) rfl (fun K hK => ?_) (AllReadyH.nil))
        focus
         go_simp
         obtain ⟨q6, hq⟩ : ∃ q, D0c0c1.heap.size = q := ⟨_, rfl⟩
         obtain ⟨D0c0c1a6, hV⟩ : ∃ V, D0c0c1.alloc (.cells #[.int .i32 0, .int .i32 0] 25) = V := ⟨_, rfl⟩
         have hb : Below D0c0c1.heap.size D0c0c1 D0c0c1a6 := hV ▸ (Below.refl _ _).alloc (Nat.le_refl _) _
         have k6 : D0c0c1a6.heap[q6]? = some (.cells #[.int .i32 0, .int .i32 0] 25) := by rw [← hq, ← hV]; exact heap_alloc_new _ _
         have l6 : X.heap.size ≤ q6 := by rw [← hq]; exact hk.size
         have hk := Below.trans hk (hb.mono hk.size)
         rw [hV, hq]
         clear hb hV hq
         refine hK.out _ _ (⟨hk, (hk.block _ lXI).trans KIX.out, tr_range HRX.out hk lXR, tr_range HMX.out hk lXM⟩) (fun hHeld => ?_)
         clear hK K
         (try simp only [List.getElem_toArray, List.getElem_cons_zero, List.getElem_cons_succ, Act.put, List.setIfInBounds_toArray, List.set_cons_zero, List.set_cons_succ])
         refine wpAnyH_ready (rs := [7]) (by kernel_rfl) (by simp) ?_
         refine AllReadyH.cons (o := _) rfl (fun K hK => ?_) (AllReadyH.nil)
         focus
          go_simp
          obtain ⟨q7, hq⟩ : ∃ q, D0c0c1a6.heap.size = q := ⟨_, rfl⟩
          obtain ⟨D0c0c1a6a7, hV⟩ : ∃ V, D0c0c1a6.alloc (.cells #[.int .i32 0, .int .i32 0] 25) = V := ⟨_, rfl⟩
          have hb : Below D0c0c1a6.heap.size D0c0c1a6 D0c0c1a6a7 := hV ▸ (Below.refl _ _).alloc (Nat.le_refl _) _
          have k7 : D0c0c1a6a7.heap[q7]? = some (.cells #[.int .i32 0, .int .i32 0] 25) := by rw [← hq, ← hV]; exact heap_alloc_new _ _
          have l7 : X.heap.size ≤ q7 := by rw [← hq]; exact hk.size
          have n67 : q6 ≠ q7 := by have := lt_of_blk' k6; omega
          have k6 := (hb.block q6 (lt_of_blk' k6)).trans k6
          have hk := Below.trans hk (hb.mono hk.size)
          rw [hV, hq]
          clear hb hV hq
          refine hK.out _ _ (⟨hk, (hk.block _ lXI).trans KIX.out, tr_range HRX.out hk lXR, tr_range HMX.out hk lXM⟩) (fun hHeld => ?_)
          clear hK K
          (try simp only [List.getElem_toArray, List.getElem_cons_zero, List.getElem_cons_succ, Act.put, List.setIfInBounds_toArray, List.set_cons_zero, List.set_cons_succ])
          obtain ⟨Wl, hWl⟩ : ∃ V : World, V = D0c0c1a6a7 := ⟨_, rfl⟩
          subst hWl
        rotate_left 1
        focus
         go_simp
         obtain ⟨q7, hq⟩ : ∃ q, D0c0c1.heap.size = q := ⟨_, rfl⟩
         obtain ⟨D0c0c1a7, hV⟩ : ∃ V, D0c0c1.alloc (.cells #[.int .i32 0, .int .i32 0] 25) = V := ⟨_, rfl⟩
         have hb : Below D0c0c1.heap.size D0c0c1 D0c0c1a7 := hV ▸ (Below.refl _ _).alloc (Nat.le_refl _) _
         have k7 : D0c0c1a7.heap[q7]? = some (.cells #[.int .i32 0, .int .i32 0] 25) := by rw [← hq, ← hV]; exact heap_alloc_new _ _
         have l7 : X.heap.size ≤ q7 := by rw [← hq]; exact hk.size
         have hk := Below.trans hk (hb.mono hk.size)
         rw [hV, hq]
         clear hb hV hq
         refine hK.out _ _ (⟨hk, (hk.block _ lXI).trans KIX.out, tr_range HRX.out hk lXR, tr_range HMX.out hk lXM⟩) (fun hHeld => ?_)
         clear hK K
         (try simp only [List.getElem_toArray, List.getElem_cons_zero, List.getElem_cons_succ, Act.put, List.setIfInBounds_toArray, List.set_cons_zero, List.set_cons_succ])
         refine wpAnyH_ready (rs := [6]) (by kernel_rfl) (by simp) ?_
         refine AllReadyH.cons (o := _) rfl (fun K hK => ?_) (AllReadyH.nil)
         focus
          go_simp
          obtain ⟨q6, hq⟩ : ∃ q, D0c0c1a7.heap.size = q := ⟨_, rfl⟩
          obtain ⟨D0c0c1a7a6, hV⟩ : ∃ V, D0c0c1a7.alloc (.cells #[.int .i32 0, .int .i32 0] 25) = V := ⟨_, rfl⟩
          have hb : Below D0c0c1a7.heap.size D0c0c1a7 D0c0c1a7a6 := hV ▸ (Below.refl _ _).alloc (Nat.le_refl _) _
          have k6 : D0c0c1a7a6.heap[q6]? = some (.cells #[.int .i32 0, .int .i32 0] 25) := by rw [← hq, ← hV]; exact heap_alloc_new _ _
          have l6 : X.heap.size ≤ q6 := by rw [← hq]; exact hk.size
          have n67 : q6 ≠ q7 := by have := lt_of_blk' k7; omega
          have k7 := (hb.block q7 (lt_of_blk' k7)).trans k7
          have hk := Below.trans hk (hb.mono hk.size)
          rw [hV, hq]
          clear hb hV hq
          refine hK.out _ _ (⟨hk, (hk.block _ lXI).trans KIX.out, tr_range HRX.out hk lXR, tr_range HMX.out hk lXM⟩) (fun hHeld => ?_)
          clear hK K
          (try simp only [List.getElem_toArray, List.getElem_cons_zero, List.getElem_cons_succ, Act.put, List.setIfInBounds_toArray, List.set_cons_zero, List.set_cons_succ])
          obtain ⟨Wl, hWl⟩ : ∃ V : World, V = D0c0c1a7a6 := ⟨_, rfl⟩
          subst hWl
        rotate_left 1
       rotate_left 2
       focus
        go_simp
        obtain ⟨q6, hq⟩ : ∃ q, D0c0.heap.size = q := ⟨_, rfl⟩
        obtain ⟨D0c0a6, hV⟩ : ∃ V, D0c0.alloc (.cells #[.int .i32 0, .int .i32 0] 25) = V := ⟨_, rfl⟩
        have hb : Below D0c0.heap.size D0c0 D0c0a6 := hV ▸ (Below.refl _ _).alloc (Nat.le_refl _) _
        have k6 : D0c0a6.heap[q6]? = some (.cells #[.int .i32 0, .int .i32 0] 25) := by rw [← hq, ← hV]; exact heap_alloc_new _ _
        have l6 : X.heap.size ≤ q6 := by rw [← hq]; exact hk.size
        have hk := Below.trans hk (hb.mono hk.size)
        rw [hV, hq]
        clear hb hV hq
        refine hK.out _ _ (⟨hk, (hk.block _ lXI).trans KIX.out, tr_range HRX.out hk lXR, tr_range HMX.out hk lXM⟩) (fun hHeld => ?_)
        clear hK K
        (try simp only [List.getElem_toArray, List.getElem_cons_zero, List.getElem_cons_succ, Act.put, List.setIfInBounds_toArray, List.set_cons_zero, List.set_cons_succ])
        refine wpAnyH_ready (rs := [5, 7]) (by kernel_rfl) (by simp) ?_
        refine AllReadyH.cons (o := _) rfl (fun K hK => ?_) (AllReadyH.cons (o := _) rfl (fun K hK => ?_) (AllReadyH.nil))
        focus
         go_simp
         go_at_call 25
         refine (HA2.out _ hk).mono ?_
         rintro e D0c0a6c1 ⟨rfl, hb⟩
         have k6 := (hb.block q6 (lt_of_blk' k6)).trans k6
         have hk := Below.trans hk (hb.mono hk.size)
         clear hb
         refine hK.out _ _ (⟨hk, (hk.block _ lXI).trans KIX.out, tr_range HRX.out hk lXR, tr_range HMX.out hk lXM⟩) (fun hHeld => ?_)
         clear hK K
         (try simp only [List.getElem_toArray, List.getElem_cons_zero, List.getElem_cons_succ, Act.put, List.setIfInBounds_toArray, List.set_cons_zero, List.set_cons_succ])
         refine wpAnyH_ready (rs := [7]) (by kernel_rfl) (by simp) ?_
         refine AllReadyH.cons (o := _) rfl (fun K hK => ?_) (AllReadyH.nil)
         focus
          go_simp
          obtain ⟨q7, hq⟩ : ∃ q, D0c0a6c1.heap.size = q := ⟨_, rfl⟩
          obtain ⟨D0c0a6c1a7, hV⟩ : ∃ V, D0c0a6c1.alloc (.cells #[.int .i32 0, .int .i32 0] 25) = V := ⟨_, rfl⟩
          have hb : Below D0c0a6c1.heap.size D0c0a6c1 D0c0a6c1a7 := hV ▸ (Below.refl _ _).alloc (Nat.le_refl _) _
          have k7 : D0c0a6c1a7.heap[q7]? = some (.cells #[.int .i32 0, .int .i32 0] 25) := by rw [← hq, ← hV]; exact heap_alloc_new _ _
          have l7 : X.heap.size ≤ q7 := by rw [← hq]; exact hk.size
          have n67 : q6 ≠ q7 := by have := lt_of_blk' k6; omega
          have k6 := (hb.block q6 (lt_of_blk' k6)).trans k6
          have hk := Below.trans hk (hb.mono hk.size)
          rw [hV, hq]
          clear hb hV hq
          refine hK.out _ _ (⟨hk, (hk.block _ lXI).trans KIX.out, tr_range HRX.out hk lXR, tr_range HMX.out hk lXM⟩) (fun hHeld => ?_)
          clear hK K
          (try simp only [List.getElem_toArray, List.getElem_cons_zero, List.getElem_cons_succ, Act.put, List.setIfInBounds_toArray, List.set_cons_zero, List.set_cons_succ])
          obtain ⟨Wl, hWl⟩ : ∃ V : World, V = D0c0a6c1a7 := ⟨_, rfl⟩
          subst hWl
        rotate_left 1
        focus
         go_simp
         obtain ⟨q7, hq⟩ : ∃ q, D0c0a6.heap.size = q := ⟨_, rfl⟩
         obtain ⟨D0c0a6a7, hV⟩ : ∃ V, D0c0a6.alloc (.cells #[.int .i32 0, .int .i32 0] 25) = V := ⟨_, rfl⟩
         have hb : Below D0c0a6.heap.size D0c0a6 D0c0a6a7 := hV ▸ (Below.refl _ _).alloc (Nat.le_refl _) _
         have k7 : D0c0a6a7.heap[q7]? = some (.cells #[.int .i32 0, .int .i32 0] 25) := by rw [← hq, ← hV]; exact heap_alloc_new _ _
         have l7 : X.heap.size ≤ q7 := by rw [← hq]; exact hk.size
         have n67 : q6 ≠ q7 := by have := lt_of_blk' k6; omega
         have k6 := (hb.block q6 (lt_of_blk' k6)).trans k6
         have hk := Below.trans hk (hb.mono hk.size)
         rw [hV, hq]
         clear hb hV hq
         refine hK.out _ _ (⟨hk, (hk.block _ lXI).trans KIX.out, tr_range HRX.out hk lXR, tr_range HMX.out hk lXM⟩) (fun hHeld => ?_)
         clear hK K
         (try simp only [List.getElem_toArray, List.getElem_cons_zero, List.getElem_cons_succ, Act.put, List.setIfInBounds_toArray, List.set_cons_zero, List.set_cons_succ])
         refine wpAnyH_ready (rs := [5]) (by kernel_rfl) (by simp) ?_
         refine AllReadyH.cons (o := _) rfl (fun K hK => ?_) (AllReadyH.nil)
         focus
          go_simp
          go_at_call 25
          refine (HA2.out _ hk).mono ?_
          rintro e D0c0a6a7c1 ⟨rfl, hb⟩
          have k6 := (hb.block q6 (lt_of_blk' k6)).trans k6
          have k7 := (hb.block q7 (lt_of_blk' k7)).trans k7
          have hk := Below.trans hk (hb.mono hk.size)
          clear hb
          refine hK.out _ _ (⟨hk, (hk.block _ lXI).trans KIX.out, tr_range HRX.out hk lXR, tr_range HMX.out hk lXM⟩) (fun hHeld => ?_)
          clear hK K
          (try simp only [List.getElem_toArray, List.getElem_cons_zero, List.getElem_cons_succ, Act.put, List.setIfInBounds_toArray, List.set_cons_zero, List.set_cons_succ])
          obtain ⟨Wl, hWl⟩ : ∃ V : World, V = D0c0a6a7c1 := ⟨_, rfl⟩
          subst hWl
        rotate_left 1
       rotate_left 2
       focus
        go_simp
        obtain ⟨q7, hq⟩ : ∃ q, D0c0.heap.size = q := ⟨_, rfl⟩
        obtain ⟨D0c0a7, hV⟩ : ∃ V, D0c0.alloc (.cells #[.int .i32 0, .int .i32 0] 25) = V := ⟨_, rfl⟩
        have hb : Below D0c0.heap.size D0c0 D0c0a7 := hV ▸ (Below.refl _ _).alloc (Nat.le_refl _) _
        have k7 : D0c0a7.heap[q7]? = some (.cells #[.int .i32 0, .int .i32 0] 25) := by rw [← hq, ← hV]; exact heap_alloc_new _ _
        have l7 : X.heap.size ≤ q7 := by rw [← hq]; exact hk.size
        have hk := Below.trans hk (hb.mono hk.size)
        rw [hV, hq]
        clear hb hV hq
        refine hK.out _ _ (⟨hk, (hk.block _ lXI).trans KIX.out, tr_range HRX.out hk lXR, tr_range HMX.out hk lXM⟩) (fun hHeld => ?_)
        clear hK K
        (try simp only [List.getElem_toArray, List.getElem_cons_zero, List.getElem_cons_succ, Act.put, List.setIfInBounds_toArray, List.set_cons_zero, List.set_cons_succ])
        refine wpAnyH_ready (rs := [5, 6]) (by kernel_rfl) (by simp) ?_
        refine AllReadyH.cons (o := _) rfl (fun K hK => ?_) (AllReadyH.cons (o := _) rfl (fun K hK => ?_) (AllReadyH.nil))
        focus
         go_simp
         go_at_call 25
         refine (HA2.out _ hk).mono ?_
         rintro e D0c0a7c1 ⟨rfl, hb⟩
         have k7 := (hb.block q7 (lt_of_blk' k7)).trans k7
         have hk := Below.trans hk (hb.mono hk.size)
         clear hb
         refine hK.out _ _ (⟨hk, (hk.block _ lXI).trans KIX.out, tr_range HRX.out hk lXR, tr_range HMX.out hk lXM⟩) (fun hHeld => ?_)
         clear hK K
         (try simp only [List.getElem_toArray, List.getElem_cons_zero, List.getElem_cons_succ, Act.put, List.setIfInBounds_toArray, List.set_cons_zero, List.set_cons_succ])
         refine wpAnyH_ready (rs := [6]) (by kernel_rfl) (by simp) ?_
         refine AllReadyH.cons (o := _) rfl (fun K hK => ?_) (AllReadyH.nil)
         focus
          go_simp
          obtain ⟨q6, hq⟩ : ∃ q, D0c0a7c1.heap.size = q := ⟨_, rfl⟩
          obtain ⟨D0c0a7c1a6, hV⟩ : ∃ V, D0c0a7c1.alloc (.cells #[.int .i32 0, .int .i32 0] 25) = V := ⟨_, rfl⟩
          have hb : Below D0c0a7c1.heap.size D0c0a7c1 D0c0a7c1a6 := hV ▸ (Below.refl _ _).alloc (Nat.le_refl _) _
          have k6 : D0c0a7c1a6.heap[q6]? = some (.cells #[.int .i32 0, .int .i32 0] 25) := by rw [← hq, ← hV]; exact heap_alloc_new _ _
          have l6 : X.heap.size ≤ q6 := by rw [← hq]; exact hk.size
          have n67 : q6 ≠ q7 := by have := lt_of_blk' k7; omega
          have k7 := (hb.block q7 (lt_of_blk' k7)).trans k7
          have hk := Below.trans hk (hb.mono hk.size)
          rw [hV, hq]
          clear hb hV hq
          refine hK.out _ _ (⟨hk, (hk.block _ lXI).trans KIX.out, tr_range HRX.out hk lXR, tr_range HMX.out hk lXM⟩) (fun hHeld => ?_)
          clear hK K
          (try simp only [List.getElem_toArray, List.getElem_cons_zero, List.getElem_cons_succ, Act.put, List.setIfInBounds_toArray, List.set_cons_zero, List.set_cons_succ])
          obtain ⟨Wl, hWl⟩ : ∃ V : World, V = D0c0a7c1a6 := ⟨_, rfl⟩
          subst hWl
        rotate_left 1
        focus
         go_simp
         obtain ⟨q6, hq⟩ : ∃ q, D0c0a7.heap.size = q := ⟨_, rfl⟩
         obtain ⟨D0c0a7a6, hV⟩ : ∃ V, D0c0a7.alloc (.cells #[.int .i32 0, .int .i32 0] 25) = V := ⟨_, rfl⟩
         have hb : Below D0c0a7.heap.size D0c0a7 D0c0a7a6 := hV ▸ (Below.refl _ _).alloc (Nat.le_refl _) _
         have k6 : D0c0a7a6.heap[q6]? = some (.cells #[.int .i32 0, .int .i32 0] 25) := by rw [← hq, ← hV]; exact heap_alloc_new _ _
         have l6 : X.heap.size ≤ q6 := by rw [← hq]; exact hk.size
         have n67 : q6 ≠ q7 := by have := lt_of_blk' k7; omega
         have k7 := (hb.block q7 (lt_of_blk' k7)).trans k7
         have hk := Below.trans hk (hb.mono hk.size)
         rw [hV, hq]
         clear hb hV hq
         refine hK.out _ _ (⟨hk, (hk.block _ lXI).trans KIX.out, tr_range HRX.out hk lXR, tr_range HMX.out hk lXM⟩) (fun hHeld => ?_)
         clear hK K
         (try simp only [List.getElem_toArray, List.getElem_cons_zero, List.getElem_cons_succ, Act.put, List.setIfInBounds_toArray, List.set_cons_zero, List.set_cons_succ])
         refine wpAnyH_ready (rs := [5]) (by kernel_rfl) (by simp) ?_
         refine AllReadyH.cons (o := _) rfl (fun K hK => ?_) (AllReadyH.nil)
         focus
          go_simp
          go_at_call 25
          refine (HA2.out _ hk).mono ?_
          rintro e D0c0a7a6c1 ⟨rfl, hb⟩
          have k6 := (hb.block q6 (lt_of_blk' k6)).trans k6
          have k7 := (hb.block q7 (lt_of_blk' k7)).trans k7
          have hk := Below.trans hk (hb.mono hk.size)
          clear hb
          refine hK.out _ _ (⟨hk, (hk.block _ lXI).trans KIX.out, tr_range HRX.out hk lXR, tr_range HMX.out hk lXM⟩) (fun hHeld => ?_)
          clear hK K
          (try simp only [List.getElem_toArray, List.getElem_cons_zero, List.getElem_cons_succ, Act.put, List.setIfInBounds_toArray, List.set_cons_zero, List.set_cons_succ])
          obtain ⟨Wl, hWl⟩ : ∃ V : World, V = D0c0a7a6c1 := ⟨_, rfl⟩
          subst hWl
        rotate_left 1
       rotate_left 2
      rotate_left 6
      focus
       go_simp
       obtain ⟨q6, hq⟩ : ∃ q, D0.heap.size = q := ⟨_, rfl⟩
       obtain ⟨D0a6, hV⟩ : ∃ V, D0.alloc (.cells #[.int .i32 0, .int .i32 0] 25) = V := ⟨_, rfl⟩
       have hb : Below D0.heap.size D0 D0a6 := hV ▸ (Below.refl _ _).alloc (Nat.le_refl _) _
       have k6 : D0a6.heap[q6]? = some (.cells #[.int .i32 0, .int .i32 0] 25) := by rw [← hq, ← hV]; exact heap_alloc_new _ _
       have l6 : X.heap.size ≤ q6 := by rw [← hq]; exact hk.size
       have hk := Below.trans hk (hb.mono hk.size)
       rw [hV, hq]
       clear hb hV hq
       refine hK.out _ _ (⟨hk, (hk.block _ lXI).trans KIX.out, tr_range HRX.out hk lXR, tr_range HMX.out hk lXM⟩) (fun hHeld => ?_)
       clear hK K
       (try simp only [List.getElem_toArray, List.getElem_cons_zero, List.getElem_cons_succ, Act.put, List.setIfInBounds_toArray, List.set_cons_zero, List.set_cons_succ])
       refine wpAnyH_ready (rs := [2, 7]) (by kernel_rfl) (by simp) ?_
       refine AllReadyH.cons (o := _) rfl (fun K hK => ?_) (AllReadyH.cons (o := _) rfl (fun K hK => ?_) (AllReadyH.nil))
       focus
        go_simp
        go_at_call 25
        refine (HA1.out _ hk).mono ?_
        rintro e D0a6c0 ⟨rfl, hb⟩
        have k6 := (hb.block q6 (lt_of_blk' k6)).trans k6
        have hk := Below.trans hk (hb.mono hk.size)
        clear hb
        refine hK.out _ _ (⟨hk, (hk.block _ lXI).trans KIX.out, tr_range HRX.out hk lXR, tr_range HMX.out hk lXM⟩) (fun hHeld => ?_)
        clear hK K
        (try simp only [List.getElem_toArray, List.getElem_cons_zero, List.getElem_cons_succ, Act.put, List.setIfInBounds_toArray, List.set_cons_zero, List.set_cons_succ])
        refine wpAnyH_ready (rs := [5, 7]) (by kernel_rfl) (by simp) ?_
        refine AllReadyH.cons (o := _) rfl (fun K hK => ?_) (AllReadyH.cons (o := _) rfl (fun K hK => ?_) (AllReadyH.nil))
        focus
         go_simp
         go_at_call 25
         refine (HA2.out _ hk).mono ?_
         rintro e D0a6c0c1 ⟨rfl, hb⟩
         have k6 := (hb.block q6 (lt_of_blk' k6)).trans k6
         have hk := Below.trans hk (hb.mono hk.size)
         clear hb
         refine hK.out _ _ (⟨hk, (hk.block _ lXI).trans KIX.out, tr_range HRX.out hk lXR, tr_range HMX.out hk lXM⟩) (fun hHeld => ?_)
         clear hK K
         (try simp only [List.getElem_toArray, List.getElem_cons_zero, List.getElem_cons_succ, Act.put, List.setIfInBounds_toArray, List.set_cons_zero, List.set_cons_succ])
         refine wpAnyH_ready (rs := [7]) (by kernel_rfl) (by simp) ?_
         refine AllReadyH.cons (o := _) rfl (fun K hK => ?_) (AllReadyH.nil)
         focus
          go_simp
          obtain ⟨q7, hq⟩ : ∃ q, D0a6c0c1.heap.size = q := ⟨_, rfl⟩
          obtain ⟨D0a6c0c1a7, hV⟩ : ∃ V, D0a6c0c1.alloc (.cells #[.int .i32 0, .int .i32 0] 25) = V := ⟨_, rfl⟩
          have hb : Below D0a6c0c1.heap.size D0a6c0c1 D0a6c0c1a7 := hV ▸ (Below.refl _ _).alloc (Nat.le_refl _) _
          have k7 : D0a6c0c1a7.heap[q7]? = some (.cells #[.int .i32 0, .int .i32 0] 25) := by rw [← hq, ← hV]; exact heap_alloc_new _ _
          have l7 : X.heap.size ≤ q7 := by rw [← hq]; exact hk.size
          have n67 : q6 ≠ q7 := by have := lt_of_blk' k6; omega
          have k6 := (hb.block q6 (lt_of_blk' k6)).trans k6
          have hk := Below.trans hk (hb.mono hk.size)
          rw [hV, hq]
          clear hb hV hq
          refine hK.out _ _ (⟨hk, (hk.block _ lXI).trans KIX.out, tr_range HRX.out hk lXR, tr_range HMX.out hk lXM⟩) (fun hHeld => ?_)
          clear hK K
          (try simp only [List.getElem_toArray, List.getElem_cons_zero, List.getElem_cons_succ, Act.put, List.setIfInBounds_toArray, List.set_cons_zero, List.set_cons_succ])
          obtain ⟨Wl, hWl⟩ : ∃ V : World, V = D0a6c0c1a7 := ⟨_, rfl⟩
          subst hWl
        rotate_left 1
        focus
         go_simp
         obtain ⟨q7, hq⟩ : ∃ q, D0a6c0.heap.size = q := ⟨_, rfl⟩
         obtain ⟨D0a6c0a7, hV⟩ : ∃ V, D0a6c0.alloc (.cells #[.int .i32 0, .int .i32 0] 25) = V := ⟨_, rfl⟩
         have hb : Below D0a6c0.heap.size D0a6c0 D0a6c0a7 := hV ▸ (Below.refl _ _).alloc (Nat.le_refl _) _
         have k7 : D0a6c0a7.heap[q7]? = some (.cells #[.int .i32 0, .int .i32 0] 25) := by rw [← hq, ← hV]; exact heap_alloc_new _ _
         have l7 : X.heap.size ≤ q7 := by rw [← hq]; exact hk.size
         have n67 : q6 ≠ q7 := by have := lt_of_blk' k6; omega
         have k6 := (hb.block q6 (lt_of_blk' k6)).trans k6
         have hk := Below.trans hk (hb.mono hk.size)
         rw [hV, hq]
         clear hb hV hq
         refine hK.out _ _ (⟨hk, (hk.block _ lXI).trans KIX.out, tr_range HRX.out hk lXR, tr_range HMX.out hk lXM⟩) (fun hHeld => ?_)
         clear hK K
         (try simp only [List.getElem_toArray, List.getElem_cons_zero, List.getElem_cons_succ, Act.put, List.setIfInBounds_toArray, List.set_cons_zero, List.set_cons_succ])
         refine wpAnyH_ready (rs := [5]) (by kernel_rfl) (by simp) ?_
         refine AllReadyH.cons (o := _) rfl (fun K hK => ?_) (AllReadyH.nil)
         focus
          go_simp
          go_at_call 25
          refine (HA2.out _ hk).mono ?_
          rintro e D0a6c0a7c1 ⟨rfl, hb⟩
          have k6 := (hb.block q6 (lt_of_blk' k6)).trans k6
          have k7 := (hb.block q7 (lt_of_blk' k7)).trans k7
          have hk := Below.trans hk (hb.mono hk.size)
          clear hb
          refine hK.out _ _ (⟨hk, (hk.block _ lXI).trans KIX.out, tr_range HRX.out hk lXR, tr_range HMX.out hk lXM⟩) (fun hHeld => ?_)
          clear hK K
          (try simp only [List.getElem_toArray, List.getElem_cons_zero, List.getElem_cons_succ, Act.put, List.setIfInBounds_toArray, List.set_cons_zero, List.set_cons_succ])
          obtain ⟨Wl, hWl⟩ : ∃ V : World, V = D0a6c0a7c1 := ⟨_, rfl⟩
          subst hWl
        rotate_left 1
       rotate_left 2
       focus
        go_simp
        obtain ⟨q7, hq⟩ : ∃ q, D0a6.heap.size = q := ⟨_, rfl⟩
        obtain ⟨D0a6a7, hV⟩ : ∃ V, D0a6.alloc (.cells #[.int .i32 0, .int .i32 0] 25) = V := ⟨_, rfl⟩
        have hb : Below D0a6.heap.size D0a6 D0a6a7 := hV ▸ (Below.refl _ _).alloc (Nat.le_refl _) _
        have k7 : D0a6a7.heap[q7]? = some (.cells #[.int .i32 0, .int .i32 0] 25) := by rw [← hq, ← hV]; exact heap_alloc_new _ _
        have l7 : X.heap.size ≤ q7 := by rw [← hq]; exact hk.size
        have n67 : q6 ≠ q7 := by have := lt_of_blk' k6; omega
        have k6 := (hb.block q6 (lt_of_blk' k6)).trans k6
        have hk := Below.trans hk (hb.mono hk.size)
        rw [hV, hq]
        clear hb hV hq
        refine hK.out _ _ (⟨hk, (hk.block _ lXI).trans KIX.out, tr_range HRX.out hk lXR, tr_range HMX.out hk lXM⟩) (fun hHeld => ?_)
        clear hK K
        (try simp only [List.getElem_toArray, List.getElem_cons_zero, List.getElem_cons_succ, Act.put, List.setIfInBounds_toArray, List.set_cons_zero, List.set_cons_succ])
        refine wpAnyH_ready (rs := [2]) (by kernel_rfl) (by simp) ?_
        refine AllReadyH.cons (o := _) rfl (fun K hK => ?_) (AllReadyH.nil)
        focus
         go_simp
         go_at_call 25
         refine (HA1.out _ hk).mono ?_
         rintro e D0a6a7c0 ⟨rfl, hb⟩
         have k6 := (hb.block q6 (lt_of_blk' k6)).trans k6
         have k7 := (hb.block q7 (lt_of_blk' k7)).trans k7
         have hk := Below.trans hk (hb.mono hk.size)
         clear hb
         refine hK.out _ _ (⟨hk, (hk.block _ lXI).trans KIX.out, tr_range HRX.out hk lXR, tr_range HMX.out hk lXM⟩) (fun hHeld => ?_)
         clear hK K
         (try simp only [List.getElem_toArray, List.getElem_cons_zero, List.getElem_cons_succ, Act.put, List.setIfInBounds_toArray, List.set_cons_zero, List.set_cons_succ])
         refine wpAnyH_ready (rs := [5]) (by kernel_rfl) (by simp) ?_
         refine AllReadyH.cons (o := _) rfl (fun K hK => ?_) (AllReadyH.nil)
         focus
          go_simp
          go_at_call 25
          refine (HA2.out _ hk).mono ?_
          rintro e D0a6a7c0c1 ⟨rfl, hb⟩
          have k6 := (hb.block q6 (lt_of_blk' k6)).trans k6
          have k7 := (hb.block q7 (lt_of_blk' k7)).trans k7
          have hk := Below.trans hk (hb.mono hk.size)
          clear hb
          refine hK.out _ _ (⟨hk, (hk.block _ lXI).trans KIX.out, tr_range HRX.out hk lXR, tr_range HMX.out hk lXM⟩) (fun hHeld => ?_)
          clear hK K
          (try simp only [List.getElem_toArray, List.getElem_cons_zero, List.getElem_cons_succ, Act.put, List.setIfInBounds_toArray, List.set_cons_zero, List.set_cons_succ])
          obtain ⟨Wl, hWl⟩ : ∃ V : World, V = D0a6a7c0c1 := ⟨_, rfl⟩
          subst hWl
       rotate_left 1
      rotate_left 3
      focus
       go_simp
       obtain ⟨q7, hq⟩ : ∃ q, D0.heap.size = q := ⟨_, rfl⟩
       obtain ⟨D0a7, hV⟩ : ∃ V, D0.alloc (.cells #[.int .i32 0, .int .i32 0] 25) = V := ⟨_, rfl⟩
       have hb : Below D0.heap.size D0 D0a7 := hV ▸ (Below.refl _ _).alloc (Nat.le_refl _) _
       have k7 : D0a7.heap[q7]? = some (.cells #[.int .i32 0, .int .i32 0] 25) := by rw [← hq, ← hV]; exact heap_alloc_new _ _
       have l7 : X.heap.size ≤ q7 := by rw [← hq]; exact hk.size
       have hk := Below.trans hk (hb.mono hk.size)
       rw [hV, hq]
       clear hb hV hq
       refine hK.out _ _ (⟨hk, (hk.block _ lXI).trans KIX.out, tr_range HRX.out hk lXR, tr_range HMX.out hk lXM⟩) (fun hHeld => ?_)
       clear hK K
       (try simp only [List.getElem_toArray, List.getElem_cons_zero, List.getElem_cons_succ, Act.put, List.setIfInBounds_toArray, List.set_cons_zero, List.set_cons_succ])
       refine wpAnyH_ready (rs := [2, 6]) (by kernel_rfl) (by simp) ?_
       refine AllReadyH.cons (o := _) rfl (fun K hK => ?_) (AllReadyH.cons (o := _) rfl (fun K hK => ?_) (AllReadyH.nil))
       focus
        go_simp
        go_at_call 25
        refine (HA1.out _ hk).mono ?_
        rintro e D0a7c0 ⟨rfl, hb⟩
        have k7 := (hb.block q7 (lt_of_blk' k7)).trans k7
        have hk := Below.trans hk (hb.mono hk.size)
        clear hb
        refine hK.out _ _ (⟨hk, (hk.block _ lXI).trans KIX.out, tr_range HRX.out hk lXR, tr_range HMX.out hk lXM⟩) (fun hHeld => ?_)
        clear hK K
        (try simp only [List.getElem_toArray, List.getElem_cons_zero, List.getElem_cons_succ, Act.put, List.setIfInBounds_toArray, List.set_cons_zero, List.set_cons_succ])
        refine wpAnyH_ready (rs := [5, 6]) (by kernel_rfl) (by simp) ?_
        refine AllReadyH.cons (o := _) rfl (fun K hK => ?_) (AllReadyH.cons (o := _) rfl (fun K hK => ?_) (AllReadyH.nil))
        focus
         go_simp
         go_at_call 25
         refine (HA2.out _ hk).mono ?_
         rintro e D0a7c0c1 ⟨rfl, hb⟩
         have k7 := (hb.block q7 (lt_of_blk' k7)).trans k7
         have hk := Below.trans hk (hb.mono hk.size)
         clear hb
         refine hK.out _ _ (⟨hk, (hk.block _ lXI).trans KIX.out, tr_range HRX.out hk lXR, tr_range HMX.out hk lXM⟩) (fun hHeld => ?_)
         clear hK K
         (try simp only [List.getElem_toArray, List.getElem_cons_zero, List.getElem_cons_succ, Act.put, List.setIfInBounds_toArray, List.set_cons_zero, List.set_cons_succ])
         refine wpAnyH_ready (rs := [6]) (by kernel_rfl) (by simp) ?_
         refine AllReadyH.cons (o := _) rfl (fun K hK => ?_) (AllReadyH.nil)
         focus
          go_simp
          obtain ⟨q6, hq⟩ : ∃ q, D0a7c0c1.heap.size = q := ⟨_, rfl⟩
          obtain ⟨D0a7c0c1a6, hV⟩ : ∃ V, D0a7c0c1.alloc (.cells #[.int .i32 0, .int .i32 0] 25) = V := ⟨_, rfl⟩
          have hb : Below D0a7c0c1.heap.size D0a7c0c1 D0a7c0c1a6 := hV ▸ (Below.refl _ _).alloc (Nat.le_refl _) _
          have k6 : D0a7c0c1a6.heap[q6]? = some (.cells #[.int .i32 0, .int .i32 0] 25) := by rw [← hq, ← hV]; exact heap_alloc_new _ _
          have l6 : X.heap.size ≤ q6 := by rw [← hq]; exact hk.size
          have n67 : q6 ≠ q7 := by have := lt_of_blk' k7; omega
          have k7 := (hb.block q7 (lt_of_blk' k7)).trans k7
          have hk := Below.trans hk (hb.mono hk.size)
          rw [hV, hq]
          clear hb hV hq
          refine hK.out _ _ (⟨hk, (hk.block _ lXI).trans KIX.out, tr_range HRX.out hk lXR, tr_range HMX.out hk lXM⟩) (fun hHeld => ?_)
          clear hK K
          (try simp only [List.getElem_toArray, List.getElem_cons_zero, List.getElem_cons_succ, Act.put, List.setIfInBounds_toArray, List.set_cons_zero, List.set_cons_succ])
          obtain ⟨Wl, hWl⟩ : ∃ V : World, V = D0a7c0c1a6 := ⟨_, rfl⟩
          subst hWl
        rotate_left 1
        focus
         go_simp
         obtain ⟨q6, hq⟩ : ∃ q, D0a7c0.heap.size = q := ⟨_, rfl⟩
         obtain ⟨D0a7c0a6, hV⟩ : ∃ V, D0a7c0.alloc (.cells #[.int .i32 0, .int .i32 0] 25) = V := ⟨_, rfl⟩
         have hb : Below D0a7c0.heap.size D0a7c0 D0a7c0a6 := hV ▸ (Below.refl _ _).alloc (Nat.le_refl _) _
         have k6 : D0a7c0a6.heap[q6]? = some (.cells #[.int .i32 0, .int .i32 0] 25) := by rw [← hq, ← hV]; exact heap_alloc_new _ _
         have l6 : X.heap.size ≤ q6 := by rw [← hq]; exact hk.size
         have n67 : q6 ≠ q7 := by have := lt_of_blk' k7; omega
         have k7 := (hb.block q7 (lt_of_blk' k7)).trans k7
         have hk := Below.trans hk (hb.mono hk.size)
         rw [hV, hq]
         clear hb hV hq
         refine hK.out _ _ (⟨hk, (hk.block _ lXI).trans KIX.out, tr_range HRX.out hk lXR, tr_range HMX.out hk lXM⟩) (fun hHeld => ?_)
         clear hK K
         (try simp only [List.getElem_toArray, List.getElem_cons_zero, List.getElem_cons_succ, Act.put, List.setIfInBounds_toArray, List.set_cons_zero, List.set_cons_succ])
         refine wpAnyH_ready (rs := [5]) (by kernel_rfl) (by simp) ?_
         refine AllReadyH.cons (o := _) rfl (fun K hK => ?_) (AllReadyH.nil)
         focus
          go_simp
          go_at_call 25
          refine (HA2.out _ hk).mono ?_
          rintro e D0a7c0a6c1 ⟨rfl, hb⟩
          have k6 := (hb.block q6 (lt_of_blk' k6)).trans k6
          have k7 := (hb.block q7 (lt_of_blk' k7)).trans k7
          have hk := Below.trans hk (hb.mono hk.size)
          clear hb
          refine hK.out _ _ (⟨hk, (hk.block _ lXI).trans KIX.out, tr_range HRX.out hk lXR, tr_range HMX.out hk lXM⟩) (fun hHeld => ?_)
          clear hK K
          (try simp only [List.getElem_toArray, List.getElem_cons_zero, List.getElem_cons_succ, Act.put, List.setIfInBounds_toArray, List.set_cons_zero, List.set_cons_succ])
          obtain ⟨Wl, hWl⟩ : ∃ V : World, V = D0a7c0a6c1 := ⟨_, rfl⟩
          subst hWl
        rotate_left 1
       rotate_left 2
       focus
        go_simp
        obtain ⟨q6, hq⟩ : ∃ q, D0a7.heap.size = q := ⟨_, rfl⟩
        obtain ⟨D0a7a6, hV⟩ : ∃ V, D0a7.alloc (.cells #[.int .i32 0, .int .i32 0] 25) = V := ⟨_, rfl⟩
        have hb : Below D0a7.heap.size D0a7 D0a7a6 := hV ▸ (Below.refl _ _).alloc (Nat.le_refl _) _
        have k6 : D0a7a6.heap[q6]? = some (.cells #[.int .i32 0, .int .i32 0] 25) := by rw [← hq, ← hV]; exact heap_alloc_new _ _
        have l6 : X.heap.size ≤ q6 := by rw [← hq]; exact hk.size
        have n67 : q6 ≠ q7 := by have := lt_of_blk' k7; omega
        have k7 := (hb.block q7 (lt_of_blk' k7)).trans k7
        have hk := Below.trans hk (hb.mono hk.size)
        rw [hV, hq]
        clear hb hV hq
        refine hK.out _ _ (⟨hk, (hk.block _ lXI).trans KIX.out, tr_range HRX.out hk lXR, tr_range HMX.out hk lXM⟩) (fun hHeld => ?_)
        clear hK K
        (try simp only [List.getElem_toArray, List.getElem_cons_zero, List.getElem_cons_succ, Act.put, List.setIfInBounds_toArray, List.set_cons_zero, List.set_cons_succ])
        refine wpAnyH_ready (rs := [2]) (by kernel_rfl) (by simp) ?_
        refine AllReadyH.cons (o := _) rfl (fun K hK => ?_) (AllReadyH.nil)
        focus
         go_simp
         go_at_call 25
         refine (HA1.out _ hk).mono ?_
         rintro e D0a7a6c0 ⟨rfl, hb⟩
         have k6 := (hb.block q6 (lt_of_blk' k6)).trans k6
         have k7 := (hb.block q7 (lt_of_blk' k7)).trans k7
         have hk := Below.trans hk (hb.mono hk.size)
         clear hb
         refine hK.out _ _ (⟨hk, (hk.block _ lXI).trans KIX.out, tr_range HRX.out hk lXR, tr_range HMX.out hk lXM⟩) (fun hHeld => ?_)
         clear hK K
         (try simp only [List.getElem_toArray, List.getElem_cons_zero, List.getElem_cons_succ, Act.put, List.setIfInBounds_toArray, List.set_cons_zero, List.set_cons_succ])
         refine wpAnyH_ready (rs := [5]) (by kernel_rfl) (by simp) ?_
         refine AllReadyH.cons (o := _) rfl (fun K hK => ?_) (AllReadyH.nil)
         focus
          go_simp
          go_at_call 25
          refine (HA2.out _ hk).mono ?_
          rintro e D0a7a6c0c1 ⟨rfl, hb⟩
          have k6 := (hb.block q6 (lt_of_blk' k6)).trans k6
          have k7 := (hb.block q7 (lt_of_blk' k7)).trans k7
          have hk := Below.trans hk (hb.mono hk.size)
          clear hb
          refine hK.out _ _ (⟨hk, (hk.block _ lXI).trans KIX.out, tr_range HRX.out hk lXR, tr_range HMX.out hk lXM⟩) (fun hHeld => ?_)
          clear hK K
          (try simp only [List.getElem_toArray, List.getElem_cons_zero, List.getElem_cons_succ, Act.put, List.setIfInBounds_toArray, List.set_cons_zero, List.set_cons_succ])
          obtain ⟨Wl, hWl⟩ : ∃ V : World, V = D0a7a6c0c1 := ⟨_, rfl⟩
          subst hWl
       rotate_left 1
      rotate_left 3
      all_goals
       have l66 := lt_of_blk' k6
       have l77 := lt_of_blk' k7
       obtain ⟨e60, e61, f60, f61, -⟩ := iv_box k6
       refine wpAnyH_ready (rs := [8]) (by kernel_rfl) (by simp) ?_
       refine AllReadyH.cons (o := _) rfl (fun K hK => ?_) AllReadyH.nil
       go_simp
       have hk := Below.setCell (p := ⟨q6, 1, none⟩) (Below.setCell (p := ⟨q6, 0, none⟩) hk l6 (.int .i32 x1)) l6 (.int .i32 x2)
       obtain ⟨W8, hV⟩ : ∃ V, (Wl.setCell ⟨q6, 0, none⟩ (.int .i32 x1)).setCell ⟨q6, 1, none⟩ (.int .i32 x2) = V := ⟨_, rfl⟩
       rw [hV] at hk
       rw [hV]
       have k6 : W8.heap[q6]? = some (.cells #[.int .i32 x1, .int .i32 x2] 25 (0, 0)) := by rw [← hV, heap_setCell_same _ _ _ _ _ _ (heap_setCell_same _ _ _ _ _ _ k6)]; simp
       have k7 := (show W8.heap[q7]? = Wl.heap[q7]? by rw [← hV, Below.heap_setCell _ _ _ _ (by show q7 ≠ q6; omega), Below.heap_setCell _ _ _ _ (by show q7 ≠ q6; omega)]).trans k7
       refine hK.out _ _ (⟨hk, (hk.block _ lXI).trans KIX.out, tr_range HRX.out hk lXR, tr_range HMX.out hk lXM⟩) (fun hHeld => ?_)
       clear hK K hV
       (try simp only [List.getElem_toArray, List.getElem_cons_zero, List.getElem_cons_succ, Act.put, List.setIfInBounds_toArray, List.set_cons_zero, List.set_cons_succ])
       clear e60 e61 f60 f61
       have l66 := lt_of_blk' k6
       have l77 := lt_of_blk' k7
       obtain ⟨e60, e61, f60, f61, -⟩ := iv_box k7
       refine wpAnyH_ready (rs := [9]) (by kernel_rfl) (by simp) ?_
       refine AllReadyH.cons (o := _) rfl (fun K hK => ?_) AllReadyH.nil
       go_simp
       have hk := Below.setCell (p := ⟨q7, 1, none⟩) (Below.setCell (p := ⟨q7, 0, none⟩) hk l7 (.int .i32 y1)) l7 (.int .i32 y2)
       obtain ⟨W9, hV⟩ : ∃ V, (W8.setCell ⟨q7, 0, none⟩ (.int .i32 y1)).setCell ⟨q7, 1, none⟩ (.int .i32 y2) = V := ⟨_, rfl⟩
       rw [hV] at hk
       rw [hV]
       have k7 : W9.heap[q7]? = some (.cells #[.int .i32 y1, .int .i32 y2] 25 (0, 0)) := by rw [← hV, heap_setCell_same _ _ _ _ _ _ (heap_setCell_same _ _ _ _ _ _ k7)]; simp
       have k6 := (show W9.heap[q6]? = W8.heap[q6]? by rw [← hV, Below.heap_setCell _ _ _ _ (by show q6 ≠ q7; omega), Below.heap_setCell _ _ _ _ (by show q6 ≠ q7; omega)]).trans k6
       refine hK.out _ _ (⟨hk, (hk.block _ lXI).trans KIX.out, tr_range HRX.out hk lXR, tr_range HMX.out hk lXM⟩) (fun hHeld => ?_)
       clear hK K hV
       (try simp only [List.getElem_toArray, List.getElem_cons_zero, List.getElem_cons_succ, Act.put, List.setIfInBounds_toArray, List.set_cons_zero, List.set_cons_succ])
       refine wpAnyH_done (by kernel_rfl) ?_ _
       clear e60 e61 f60 f61 hHeld
       obtain ⟨e60, e61, -, -, l66⟩ := iv_box k6
       obtain ⟨e70, e71, -, -, l77⟩ := iv_box k7
       have HK := Lib.hid hk
       clear k6 k7 hk
       go_wp2_with (go_at_call 23; refine (HWI.out _).mono ?_; rintro e WA ⟨rfl, hba⟩)
       go_ret
       exact ⟨rfl, HBX.out.trans ((HK.out.trans (hba.mono HK.out.size)).mono HBX.out.size)⟩

end Go.Proofs.YtebklpnkcicpjaaDoor


