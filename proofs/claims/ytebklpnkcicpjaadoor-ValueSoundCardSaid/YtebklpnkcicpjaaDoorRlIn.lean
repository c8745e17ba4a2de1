/-
 What is proved here: what the statements' inside returns.
-/
import Derived.Test.YtebklpnkcicpjaaDoorRlCm
import Derived.Test.YtebklpnkcicpjaaDoorRaMono
import Derived.BigQuiet
namespace Go.Proofs.YtebklpnkcicpjaaDoor
open Go.RowKit
set_option linter.unusedVariables false
set_option linter.unusedSimpArgs false

theorem drewN_below (w : World) (n : Nat) : Below w.heap.size w (w.drewN n) := ⟨rfl, rfl, rfl, Nat.le_refl _, fun _ _ => rfl⟩
def insB (v : List Int) (r : RG) : Bool := (List.range 16).all fun k => decide ((rg r (k : Int)).1 ≤ v.getD k 0) && decide (v.getD k 0 ≤ (rg r (k : Int)).2)
theorem insB_iff {v : List Int} {r : RG} : insB v r = true ↔ InR v r := by
 unfold insB InR Mem
 rw [List.all_eq_true]
 constructor
 ·intro h k hk
  have := h k (List.mem_range.2 hk)
  simpa using this
 ·intro h k hk
  have := h k (List.mem_range.1 hk)
  simpa using this
theorem insB_no {v : List Int} {r : RG} {k : Nat} (hk : k < 16) (h : ¬ Mem (v.getD k 0) (rg r (k : Int))) : insB v r = false := by
 cases hb : insB v r with
 | false => rfl
 | true => exact absurd (insB_iff.1 hb k hk) h
set_option maxRecDepth 100000 in
set_option maxHeartbeats 2000000 in
theorem inside_any (s : St) (hl : s.r.length = 16) (hw : ∀ x ∈ s.r, W32 x) (r : RG) (hr : r.length = 16) (w : World) :
  Calls Tryd.prog 14 #[.agg s.cells, .agg (cellsR r).toArray] w fun e w' => e = .returned (.bool (insB s.r r)) ∧ Below w.heap.size w w' := by
 obtain ⟨V, hV, k0, k1, bV, sV⟩ : ∃ V, (w.alloc (.cells s.cells 34)).alloc (.cells (cellsR r).toArray 27) = V ∧ V.heap[w.heap.size]? = some (.cells s.cells 34 (0, 0)) ∧ V.heap[w.heap.size + 1]? = some (.cells (cellsR r).toArray 27 (0, 0)) ∧ Below w.heap.size w V ∧ V.heap.size = w.heap.size + 1 + 1 := two_new w _ _ _ _
 have kV : RBox V (w.heap.size + 1) 27 r := k1
 have hrg := kV.range
 have l1 := kV.lt
 have KV := Lib.hid kV
 have MV := Lib.hid (show Mach V w.heap.size s from ⟨k0, hl, hw⟩)
 have BV := Lib.hid bV
 have HR := Lib.hid hr
 have l0 : w.heap.size < V.heap.size := by omega
 clear kV bV hr k0 k1 hl hw sV
 go_enter Tryd.func14, Tryd.ntmps14
 go_upto_region 2 with (first | (refine wpList_load_mid rfl _ _ rfl _ _ rfl (cellsR r) _ hrg Tryd.underlying27 rfl (hi3 HR.out) ?_))
 clear hV hrg
 go_loopw [8] (fun a8 wr => ∃ k : Nat, k ≤ 16 ∧ a8 = .int .i64 (k : Int) ∧ (∀ j : Nat, j < k → Mem (s.r.getD j 0) (rg r (j : Int))) ∧ Below V.heap.size V wr) (fun a8 _ => 16 - (intOf a8).toNat)
 case atStart => exact ⟨0, by omega, rfl, fun j hj => by omega, Below.refl _ _⟩
 case round =>
  obtain ⟨k, hk, rfl, hall, hb⟩ := hrel
  have HA := Lib.hid hall
  have HB := Lib.hid hb
  have hsz := hb.size
  clear hall hb
  by_cases hlt : k < 16
  ·have dl : decide ((k : Int) < 16) = true := decide_eq_true (by omega)
   have dk2 : decide ((16 : Int) ≤ (k : Int)) = false := decide_eq_false (by omega)
   have dk3 : (k : Int) < 16 := by omega
   have hix := index_regs HR.out hlt
   obtain ⟨lo, hlo⟩ : ∃ lo, (rg r (k : Int)).1 = lo := ⟨_, rfl⟩
   obtain ⟨hi, hhi⟩ : ∃ hi, (rg r (k : Int)).2 = hi := ⟨_, rfl⟩
   obtain ⟨x, hx⟩ : ∃ x, s.r.getD k 0 = x := ⟨_, rfl⟩
   rw [hlo, hhi] at hix
   have HE := Lib.hid (show Mem (s.r.getD k 0) (rg r (k : Int)) ↔ lo ≤ x ∧ x ≤ hi by unfold Mem; rw [hlo, hhi, hx])
   have c1 : V.cell? ⟨w.heap.size, 1 + k, none⟩ = some (.int .i32 x) := by rw [← hx]; exact MV.out.reg hlt
   clear hlo hhi hx
   go_upto_region 4 with fail
   obtain ⟨Z, hZ⟩ : ∃ Z, wr.alloc (.cells #[.int .i32 lo, .int .i32 hi] 25) = Z := ⟨_, rfl⟩
   rw [hZ]
   have bZ : Below wr.heap.size wr Z := hZ ▸ (Below.refl _ _).alloc (Nat.le_refl _) _
   have kZ : Z.heap[wr.heap.size]? = some (.cells #[.int .i32 lo, .int .i32 hi] 25 (0, 0)) := hZ ▸ heap_alloc_new _ _
   obtain ⟨q, hq⟩ : ∃ q, wr.heap.size = q := ⟨_, rfl⟩
   rw [hq] at kZ
   rw [hq]
   have bVZ : Below V.heap.size V Z := HB.out.trans (bZ.mono hsz)
   have z0 : Z.cell? ⟨q, 0, none⟩ = some (.int .i32 lo) := by simp [World.cell?, kZ]
   have z1 : Z.cell? ⟨q, 1, none⟩ = some (.int .i32 hi) := by simp [World.cell?, kZ]
   have z2 : Z.cell? ⟨w.heap.size, 1 + k, none⟩ = _ := (bVZ.cell (p := ⟨w.heap.size, 1 + k, none⟩) l0).trans c1
   have BVZ := Lib.hid bVZ
   have hzs := bVZ.size
   clear hZ bZ kZ hq bVZ c1
   by_cases h1 : x < lo
   ·have d1 : decide (x < lo) = true := decide_eq_true h1
    have HN := Lib.hid (insB_no (v := s.r) hlt (fun h => by have := HE.out.1 h; omega))
    clear h1
    go_quiet (fail)
    go_wp2_with fail
    go_ret
    exact ⟨ret_bool HN.out.symm, BV.out.trans ((Below.trans BVZ.out ((drewN_below _ _).mono hzs)).mono BV.out.size)⟩
   ·have d1 : decide (x < lo) = false := decide_eq_false h1
    by_cases h2 : hi < x
    ·have d2 : decide (hi < x) = true := decide_eq_true h2
     have HN := Lib.hid (insB_no (v := s.r) hlt (fun h => by have := HE.out.1 h; omega))
     clear h1 h2
     go_quiet (fail)
     go_wp2_with fail
     go_ret
     exact ⟨ret_bool HN.out.symm, BV.out.trans ((Below.trans BVZ.out ((drewN_below _ _).mono hzs)).mono BV.out.size)⟩
    ·have d2 : decide (hi < x) = false := decide_eq_false h2
     have HM := Lib.hid (HE.out.2 (by omega))
     clear h1 h2
     go_quiet (fail)
     go_wp2_with fail
     go_roundw
     case rel =>
      refine ⟨k + 1, by omega, by go_num, fun j hj => ?_, Below.trans BVZ.out ((drewN_below _ _).mono hzs)⟩
      by_cases hjk : j = k
      ·subst hjk; exact HM.out
      ·exact HA.out j (by omega)
     case measure => simp [intOf]; omega
  ·have dl : decide ((k : Int) < 16) = false := decide_eq_false (by omega)
   have HY := Lib.hid (show insB s.r r = true from insB_iff.2 fun j hj => HA.out j (by omega))
   go_wp2_with fail
   go_ret
   exact ⟨ret_bool HY.out.symm, BV.out.trans (HB.out.mono BV.out.size)⟩

end Go.Proofs.YtebklpnkcicpjaaDoor


