/-
 What is proved here: what the statements' bad returns.
-/
import Derived.Test.YtebklpnkcicpjaaDoorRaAf
namespace Go.Proofs.YtebklpnkcicpjaaDoor
open Go.RowKit
set_option linter.unusedVariables false
set_option linter.unusedSimpArgs false

set_option maxRecDepth 100000 in
set_option maxHeartbeats 1000000 in
theorem bad_any (r : RG) (hr : r.length = 16) (w : World) : Calls Tryd.prog 10 #[.agg (cellsR r).toArray] w fun e w' => e = .returned (.bool (!properR r)) ∧ Below w.heap.size w w' := by
 obtain ⟨V, hV⟩ : ∃ V, w.alloc (.cells (cellsR r).toArray 27) = V := ⟨_, rfl⟩
 have bV : Below w.heap.size w V := hV ▸ (Below.refl _ _).alloc (Nat.le_refl _) _
 have kV : RBox V w.heap.size 27 r := by rw [← hV]; exact heap_alloc_new _ _
 have hrg := kV.range
 have hi27 : (Tryd.prog.info? 27).map (·.size) = some (cellsR r).length := by rw [cellsR_len, hr]; kernel_rfl
 have sV := kV.lt
 have KV := Lib.hid kV
 have BV := Lib.hid bV
 have HR := Lib.hid hr
 clear kV bV hr
 go_enter Tryd.func10, Tryd.ntmps10
 go_upto_region 2 with (refine wpList_load_mid rfl 27 (.tmp 1) rfl w.heap.size 0 rfl (cellsR r) _ hrg Tryd.underlying27 rfl hi27 ?_)
 clear hV
 go_loopw [6] (fun a6 wr => ∃ k : Nat, k ≤ 16 ∧ a6 = .int .i64 (k : Int) ∧ (∀ j : Nat, j < k → (rg r (j : Int)).1 ≤ (rg r (j : Int)).2) ∧ Below V.heap.size V wr) (fun a6 _ => 16 - (intOf a6).toNat)
 case atStart => exact ⟨0, by omega, rfl, fun j hj => by omega, Below.refl _ _⟩
 case round =>
  obtain ⟨k, hk, rfl, hall, hb⟩ := hrel
  have HA := Lib.hid hall
  have HB := Lib.hid hb
  have hsz := hb.size
  clear hall hb
  by_cases hlt : k < 16
  ·have dl : decide ((k : Int) < 16) = true := decide_eq_true (by omega)
   have hix := index_regs HR.out hlt
   obtain ⟨lo, hlo⟩ : ∃ lo, (rg r (k : Int)).1 = lo := ⟨_, rfl⟩
   obtain ⟨hi, hhi⟩ : ∃ hi, (rg r (k : Int)).2 = hi := ⟨_, rfl⟩
   rw [hlo, hhi] at hix
   have HLO := Lib.hid hlo
   have HHI := Lib.hid hhi
   clear hlo hhi
   by_cases he : hi < lo
   ·have d2 : decide (hi < lo) = true := decide_eq_true he
    go_wp2_with fail
    go_ret
    refine ⟨by rw [properR_no (by rw [HR.out]; exact hlt) (by rw [HLO.out, HHI.out]; exact he)]; rfl, BV.out.trans ((HB.out.trans ?_).mono BV.out.size)⟩
    exact ((Below.refl _ _).alloc (Nat.le_refl _) _).mono hsz
   ·have d2 : decide (hi < lo) = false := decide_eq_false he
    go_wp2_with fail
    go_roundw
    case rel =>
     refine ⟨k + 1, by omega, by go_num, fun j hj => ?_, HB.out.trans (((Below.refl _ _).alloc (Nat.le_refl _) _).mono hsz)⟩
     by_cases hjk : j = k
     ·subst hjk; rw [HLO.out, HHI.out]; omega
     ·exact HA.out j (by omega)
    case measure => simp [intOf]; omega
  ·have HK := Lib.hid (show k = 16 by omega)
   have HP := Lib.hid (properR_all (r := r) (fun j hj => HA.out j (by rw [HR.out] at hj; rw [HK.out]; exact hj)))
   have KW := KV.out.keep HB.out
   obtain ⟨lo, hlo⟩ : ∃ lo, (rg r 0).1 = lo := ⟨_, rfl⟩
   obtain ⟨hi, hhi⟩ : ∃ hi, (rg r 0).2 = hi := ⟨_, rfl⟩
   have c0 : wr.cell? ⟨w.heap.size, 0, none⟩ = some (.int .i32 lo) := by rw [← hlo]; simpa using KW.lo (k := 0) (by rw [HR.out]; omega)
   have c1 : wr.cell? ⟨w.heap.size, 1, none⟩ = some (.int .i32 hi) := by rw [← hhi]; simpa using KW.hi (k := 0) (by rw [HR.out]; omega)
   have E := ne_iv lo hi 0 0
   have HQ := Lib.hid (show properR r = (lo == 0 && hi == 0) by
    rw [HP.out, ← hlo, ← hhi, Bool.eq_iff_iff, decide_eq_true_eq, Bool.and_eq_true, beq_iff_eq, beq_iff_eq, Prod.ext_iff])
   have sW : w.heap.size < wr.heap.size := by omega
   clear KW hlo hhi hrg
   have dl : decide ((k : Int) < 16) = false := decide_eq_false (by omega)
   go_wp2_with fail
   go_ret
   exact ⟨ret_bool (by rw [HQ.out, Bool.not_and]), BV.out.trans (HB.out.mono BV.out.size)⟩

end Go.Proofs.YtebklpnkcicpjaaDoor


