/-
 What is proved here: what Transfer returns.
-/
import Derived.Test.YtebklpnkcicpjaaDoorFaFn1
import Derived.Test.YtebklpnkcicpjaaDoorFbIa
import Derived.Test.YtebklpnkcicpjaaDoorFbIc
import Derived.Test.YtebklpnkcicpjaaDoorFbCa
import Derived.Test.YtebklpnkcicpjaaDoorFbT
import Derived.Deep.QuietTactic
import Derived.BigQuiet
import Derived.Laws.CopyOwn
namespace Go.Proofs.YtebklpnkcicpjaaDoor
open Go.RowKit
set_option linter.unusedVariables false
set_option linter.unusedSimpArgs false

def outR : Option RG → Value
 | none => .tuple #[.agg (cellsR zeroR).toArray, .bool false]
 | some r => .tuple #[.agg (cellsR r).toArray, .bool true]
theorem ins_block {w : World} {ib : Nat} {o a b c i : Int} (h : w.heap[ib]? = some (.cells #[.int .u8 o, .int .i64 a, .int .i64 b, .int .i64 c, .int .i64 i] 23 (0, 0))) :
  w.cell? ⟨ib, 0, none⟩ = some (.int .u8 o) ∧ w.cell? ⟨ib, 1, none⟩ = some (.int .i64 a) ∧ w.cell? ⟨ib, 2, none⟩ = some (.int .i64 b) ∧ w.cell? ⟨ib, 3, none⟩ = some (.int .i64 c) ∧ w.cell? ⟨ib, 4, none⟩ = some (.int .i64 i) ∧ ib < w.heap.size :=
 ⟨cell_of_row _ _ _ _ _ _ h, cell_of_row _ _ _ _ _ _ h, cell_of_row _ _ _ _ _ _ h, cell_of_row _ _ _ _ _ _ h, cell_of_row _ _ _ _ _ _ h, (Array.getElem?_eq_some_iff.1 h).1⟩
theorem three_new (w : World) (cA cB cC : Array Value) (tA tB tC : TypeId) : ∃ V, ((w.alloc (.cells cA tA)).alloc (.cells cB tB)).alloc (.cells cC tC) = V ∧ V.heap[w.heap.size]? = some (.cells cA tA (0, 0)) ∧ V.heap[w.heap.size + 1]? = some (.cells cB tB (0, 0)) ∧ V.heap[w.heap.size + 1 + 1]? = some (.cells cC tC (0, 0)) ∧ Below w.heap.size w V ∧ w.heap.size + 1 + 1 < V.heap.size := by
 refine ⟨_, rfl, ?_, ?_, heap_alloc_at _ _ (by simp), (((Below.refl _ _).alloc (Nat.le_refl _) _).alloc (by simp) _).alloc (by simp; omega) _, by simp⟩
 ·rw [heap_alloc_old _ _ (by simp; omega), heap_alloc_old _ _ (by simp)]; exact heap_alloc_new _ _
 ·rw [heap_alloc_old _ _ (by simp)]; exact heap_alloc_at _ _ (by simp)
theorem cellsR_one (r : RG) : (cellsR r).toArray.all (·.oneCell') = true := all_oneCell_toArray fun v hv => by
 unfold cellsR at hv
 obtain ⟨x, _, h⟩ := List.mem_flatMap.1 hv
 simp only [List.mem_cons, List.not_mem_nil, or_false] at h
 rcases h with rfl | rfl <;> rfl
set_option maxRecDepth 100000 in
set_option maxHeartbeats 1000000 in
theorem transfer_no (op a b c im : Int) (h0 : 0 ≤ op) (r : RG) (hr : R16 r) (w : World) (T : Tab w) (hno : validI ⟨op, a, b, c, im⟩ = false ∨ (validI ⟨op, a, b, c, im⟩ = true ∧ properR r = false)) :
  Calls Tryd.prog 20 #[.agg #[.int .u8 op, .int .i64 a, .int .i64 b, .int .i64 c, .int .i64 im], .agg (cellsR r).toArray] w fun e w' => e = .returned (outR none) ∧ Below w.heap.size w w' := by
 obtain ⟨V, hV, k0, k1, k2, bV, sV⟩ := three_new w #[.int .u8 op, .int .i64 a, .int .i64 b, .int .i64 c, .int .i64 im] (cellsR r).toArray #[.int .i32 0, .int .i32 0, .int .i32 0, .int .i32 0, .int .i32 0, .int .i32 0, .int .i32 0, .int .i32 0, .int .i32 0, .int .i32 0, .int .i32 0, .int .i32 0, .int .i32 0, .int .i32 0, .int .i32 0, .int .i32 0, .int .i32 0, .int .i32 0, .int .i32 0, .int .i32 0, .int .i32 0, .int .i32 0, .int .i32 0, .int .i32 0, .int .i32 0, .int .i32 0, .int .i32 0, .int .i32 0, .int .i32 0, .int .i32 0, .int .i32 0, .int .i32 0] 23 27 27
 obtain ⟨a0, a1, a2, a3, a4, lV⟩ := ins_block k0
 have K1 := Lib.hid (show RBox V (w.heap.size + 1) 27 r from k1)
 have HI27 := Lib.hid (show (Tryd.prog.info? 27).map (·.size) = some (cellsR r).length by rw [cellsR_len, hr.len]; kernel_rfl)
 have K2 := Lib.hid k2
 have BV := Lib.hid bV
 have HVA := Lib.hid (Calls.ext (valid_any ⟨op, a, b, c, im⟩ h0 V (T.below bV)))
 have HPR := Lib.hid (fun x : Ext V => Calls.extq (x := x) (proper_any r hr.len x.w))
 clear k0 k1 k2 bV
 go_enter Tryd.func20, Tryd.ntmps20
 go_upto_region 1 with fail
 clear hV
 rcases hno with hv | ⟨hv, hp⟩
 ·rw [hv] at HVA
  go_wp2_with (first | (go_at_call 11; refine HVA.out.mono ?_; rintro e w' ⟨rfl, y, rfl⟩) | (refine wpList_store_row rfl 27 (.tmp 4) (.tmp 16) rfl (w.heap.size + 1 + 1) #[.int .i32 0, .int .i32 0, .int .i32 0, .int .i32 0, .int .i32 0, .int .i32 0, .int .i32 0, .int .i32 0, .int .i32 0, .int .i32 0, .int .i32 0, .int .i32 0, .int .i32 0, .int .i32 0, .int .i32 0, .int .i32 0, .int .i32 0, .int .i32 0, .int .i32 0, .int .i32 0, .int .i32 0, .int .i32 0, .int .i32 0, .int .i32 0, .int .i32 0, .int .i32 0, .int .i32 0, .int .i32 0, .int .i32 0, .int .i32 0, .int .i32 0, .int .i32 0] rfl rfl 27 _ (((Ext.h _).block _ sV).trans K2.out) (by kernel_rfl) rfl (by simp [Value.oneCell']) ?_))
  refine bodyPost_ret (results_cell_tmp (P := Tryd.prog) Tryd.results20 _ _ (w.heap.size + 1 + 1) [.int .i32 0, .int .i32 0, .int .i32 0, .int .i32 0, .int .i32 0, .int .i32 0, .int .i32 0, .int .i32 0, .int .i32 0, .int .i32 0, .int .i32 0, .int .i32 0, .int .i32 0, .int .i32 0, .int .i32 0, .int .i32 0, .int .i32 0, .int .i32 0, .int .i32 0, .int .i32 0, .int .i32 0, .int .i32 0, .int .i32 0, .int .i32 0, .int .i32 0, .int .i32 0, .int .i32 0, .int .i32 0, .int .i32 0, .int .i32 0, .int .i32 0, .int .i32 0] _ rfl (rangeAt_block (setRow_heap _ _ _ _ _ _ ((y.h.block _ sV).trans K2.out))) Tryd.underlying27 rfl (by kernel_rfl)) rfl ⟨rfl, below_setRow (BV.out.trans (y.h.mono BV.out.size)) (by omega) _⟩
 ·rw [hv] at HVA
  rw [hp] at HPR
  go_wp2_with (first | (go_at_call 11; refine HVA.out.mono ?_; rintro e w' ⟨rfl, y, rfl⟩) | (go_at_call 35; refine (HPR.out _).mono ?_; rintro e w' ⟨rfl, z, rfl⟩) | (refine wpList_load_midG (by first | rfl | kernel_rfl) _ _ rfl _ _ rfl (cellsR r) _ (K1.out.keep (Ext.h _)).range Tryd.underlying27 rfl HI27.out ?_) | (refine wpList_store_row rfl 27 (.tmp 4) (.tmp 16) rfl (w.heap.size + 1 + 1) #[.int .i32 0, .int .i32 0, .int .i32 0, .int .i32 0, .int .i32 0, .int .i32 0, .int .i32 0, .int .i32 0, .int .i32 0, .int .i32 0, .int .i32 0, .int .i32 0, .int .i32 0, .int .i32 0, .int .i32 0, .int .i32 0, .int .i32 0, .int .i32 0, .int .i32 0, .int .i32 0, .int .i32 0, .int .i32 0, .int .i32 0, .int .i32 0, .int .i32 0, .int .i32 0, .int .i32 0, .int .i32 0, .int .i32 0, .int .i32 0, .int .i32 0, .int .i32 0] rfl rfl 27 _ (((Ext.h _).block _ sV).trans K2.out) (by kernel_rfl) rfl (by simp [Value.oneCell']) ?_))
  refine bodyPost_ret (results_cell_tmp (P := Tryd.prog) Tryd.results20 _ _ (w.heap.size + 1 + 1) [.int .i32 0, .int .i32 0, .int .i32 0, .int .i32 0, .int .i32 0, .int .i32 0, .int .i32 0, .int .i32 0, .int .i32 0, .int .i32 0, .int .i32 0, .int .i32 0, .int .i32 0, .int .i32 0, .int .i32 0, .int .i32 0, .int .i32 0, .int .i32 0, .int .i32 0, .int .i32 0, .int .i32 0, .int .i32 0, .int .i32 0, .int .i32 0, .int .i32 0, .int .i32 0, .int .i32 0, .int .i32 0, .int .i32 0, .int .i32 0, .int .i32 0, .int .i32 0] _ rfl (rangeAt_block (setRow_heap _ _ _ _ _ _ ((z.h.block _ sV).trans K2.out))) Tryd.underlying27 rfl (by kernel_rfl)) rfl ⟨rfl, below_setRow (BV.out.trans (z.h.mono BV.out.size)) (by omega) _⟩

theorem set_zero {r : RG} (hl : r.length = 16) (h0 : rg r 0 = (0, 0)) (an : Nat) (x : Int × Int) : (r.set an x).set 0 (0, 0) = setRg r (an : Int) x := by
 have hz : r.set 0 (0, 0) = r := by
  apply List.ext_getElem?
  intro i
  by_cases hi : i = 0
  ·subst hi
   rw [List.getElem?_set]
   have := get_rg (r := r) (k := 0) (by omega)
   rw [show ((0 : Nat) : Int) = 0 from rfl] at this
   rw [this]
   simp [hl]
   exact h0.symm
  ·rw [List.getElem?_set]; simp [Ne.symm hi]
 unfold setRg
 by_cases ha : an = 0
 ·subst ha
  simp [hz]
 ·rw [if_neg (by omega), List.set_comm _ _ ha, hz]
  simp
theorem set_zero0 {r : RG} (hl : r.length = 16) (h0 : rg r 0 = (0, 0)) : r.set 0 (0, 0) = r := by
 have h := set_zero hl h0 0 (0, 0)
 rw [List.set_set] at h
 rw [h]
 rfl
theorem proper_zero {r : RG} (h : properR r = true) : rg r 0 = (0, 0) := by
 unfold properR at h
 rw [Bool.and_eq_true, decide_eq_true_eq] at h
 exact h.2

end Go.Proofs.YtebklpnkcicpjaaDoor


