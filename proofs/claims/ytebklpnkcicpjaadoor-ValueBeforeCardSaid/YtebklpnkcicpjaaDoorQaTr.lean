/-
  What is proved here: what Transfer returns.
-/
import Derived.Test.YtebklpnkcicpjaaDoorQaFn1
import Derived.Test.YtebklpnkcicpjaaDoorQbIa
import Derived.Test.YtebklpnkcicpjaaDoorQbIc
import Derived.Test.YtebklpnkcicpjaaDoorQbCa
import Derived.Test.YtebklpnkcicpjaaDoorQbT
import Derived.Deep.QuietTactic
import Derived.BigQuiet
import Derived.Laws.CopyOwn
namespace Go.Proofs.YtebklpnkcicpjaaDoor
open Go.RowKit
set_option linter.unusedVariables false
set_option linter.unusedSimpArgs false

def outR : Option RG → Value
  | none => .tuple #[.agg (cellsR zeroR).toArray, .bool false]
  | some r => .tuple #[.agg (cellsR r).toArray, .bool true]
theorem ins_block {w : World} {ib : Nat} {o a b c i : Int} (h : w.heap[ib]? = some (.cells #[.int .u8 o, .int .i64 a, .int .i64 b, .int .i64 c, .int .i64 i] 23 (0, 0))) :
    w.cell? ⟨ib, 0, none⟩ = some (.int .u8 o) ∧ w.cell? ⟨ib, 1, none⟩ = some (.int .i64 a) ∧ w.cell? ⟨ib, 2, none⟩ = some (.int .i64 b) ∧ w.cell? ⟨ib, 3, none⟩ = some (.int .i64 c) ∧ w.cell? ⟨ib, 4, none⟩ = some (.int .i64 i) ∧ ib < w.heap.size :=
  ⟨cell_of_row _ _ _ _ _ _ h, cell_of_row _ _ _ _ _ _ h, cell_of_row _ _ _ _ _ _ h, cell_of_row _ _ _ _ _ _ h, cell_of_row _ _ _ _ _ _ h, (Array.getElem?_eq_some_iff.1 h).1⟩
theorem three_new (w : World) (cA cB cC : Array Value) (tA tB tC : TypeId) : ∃ V, ((w.alloc (.cells cA tA)).alloc (.cells cB tB)).alloc (.cells cC tC) = V ∧ V.heap[w.heap.size]? = some (.cells cA tA (0, 0)) ∧ V.heap[w.heap.size + 1]? = some (.cells cB tB (0, 0)) ∧ V.heap[w.heap.size + 1 + 1]? = some (.cells cC tC (0, 0)) ∧ Below w.heap.size w V ∧ w.heap.size + 1 + 1 < V.heap.size := by
  refine ⟨_, rfl, ?_, ?_, heap_alloc_at _ _ (by simp), (((Below.refl _ _).alloc (Nat.le_refl _) _).alloc (by simp) _).alloc (by simp; omega) _, by simp⟩
  · rw [heap_alloc_old _ _ (by simp; omega), heap_alloc_old _ _ (by simp)]; exact heap_alloc_new _ _
  · rw [heap_alloc_old _ _ (by simp)]; exact heap_alloc_at _ _ (by simp)
theorem cellsR_one (r : RG) : (cellsR r).toArray.all (·.oneCell') = true := all_oneCell_toArray fun v hv => by
  unfold cellsR at hv
  obtain ⟨x, _, h⟩ := List.mem_flatMap.1 hv
  simp only [List.mem_cons, List.not_mem_nil, or_false] at h
  rcases h with rfl | rfl <;> rfl
set_option maxRecDepth 100000 in
set_option maxHeartbeats 1000000 in
theorem transfer_no (op a b c im : Int) (h0 : 0 ≤ op) (r : RG) (hr : R16 r) (w : World) (T : Tab w) (hno : validI ⟨op, a, b, c, im⟩ = false ∨ (validI ⟨op, a, b, c, im⟩ = true ∧ properR r = false)) :
    Calls Tryd.prog 20 #[.agg #[.int .u8 op, .int .i64 a, .int .i64 b, .int .i64 c, .int .i64 im], .agg (cellsR r).toArray] w fun e w' => e = .returned (outR none) ∧ Below w.heap.size w w' := by
  obtain ⟨V, hV, k0, k1, k2, bV, sV⟩ := three_new w #[.int .u8 op, .int .i64 a, .int .i64 b, .int .i64 c, .int .i64 im] (cellsR r).toArray #[.int .i32 0, .int .i32 0, .int .i32 0, .int .i32 0, .int .i32 0, .int .i32 0, .int .i32 0, .int .i32 0, .int .i32 0, .int .i32 0, .int .i32 0, .int .i32 0, .int .i32 0, .int .i32 0, .int .i32 0, .int .i32 0, .int .i32 0, .int .i32 0, .int .i32 0, .int .i32 0, .int .i32 0, .int .i32 0, .int .i32 0, .int .i32 0, .int .i32 0, .int .i32 0, .int .i32 0, .int .i32 0, .int .i32 0, .int .i32 0, .int .i32 0, .int .i32 0] 23 27 27
  obtain ⟨a0, a1, a2, a3, a4, lV⟩ := ins_block k0
  have K1 := Lib.hid (show RBox V (w.heap.size + 1) 27 r from k1)
  have HI27 := Lib.hid (show (Tryd.prog.info? 27).map (·.size) = some (cellsR r).length by rw [cellsR_len, hr.len]; kernel_rfl)
  have K2 := Lib.hid k2
  have BV := Lib.hid bV
  have HVA := Lib.hid (Calls.ext (valid_any ⟨op, a, b, c, im⟩ h0 V (T.below bV)))
  have HPR := Lib.hid (fun x : Ext V => Calls.extq (x := x) (proper_any r hr.len x.w))
  clear k0 k1 k2 bV
  go_enter Tryd.func20, Tryd.ntmps20
  go_upto_region 1 with fail
  clear hV
  rcases hno with hv | ⟨hv, hp⟩
  · rw [hv] at HVA
    go_wp2_with (first | (go_at_call 11; refine HVA.out.mono ?_; rintro e w' ⟨rfl, y, rfl⟩) | (refine wpList_store_row rfl 27 (.tmp 4) (.tmp 16) rfl (w.heap.size + 1 + 1) #[.int .i32 0, .int .i32 0, .int .i32 0, .int .i32 0, .int .i32 0, .int .i32 0, .int .i32 0, .int .i32 0, .int .i32 0, .int .i32 0, .int .i32 0, .int .i32 0, .int .i32 0, .int .i32 0, .int .i32 0, .int .i32 0, .int .i32 0, .int .i32 0, .int .i32 0, .int .i32 0, .int .i32 0, .int .i32 0, .int .i32 0, .int .i32 0, .int .i32 0, .int .i32 0, .int .i32 0, .int .i32 0, .int .i32 0, .int .i32 0, .int .i32 0, .int .i32 0] rfl rfl 27 _ (((Ext.h _).block _ sV).trans K2.out) (by kernel_rfl) rfl (by simp [Value.oneCell']) ?_))
    refine bodyPost_ret (results_cell_tmp (P := Tryd.prog) Tryd.results20 _ _ (w.heap.size + 1 + 1) [.int .i32 0, .int .i32 0, .int .i32 0, .int .i32 0, .int .i32 0, .int .i32 0, .int .i32 0, .int .i32 0, .int .i32 0, .int .i32 0, .int .i32 0, .int .i32 0, .int .i32 0, .int .i32 0, .int .i32 0, .int .i32 0, .int .i32 0, .int .i32 0, .int .i32 0, .int .i32 0, .int .i32 0, .int .i32 0, .int .i32 0, .int .i32 0, .int .i32 0, .int .i32 0, .int .i32 0, .int .i32 0, .int .i32 0, .int .i32 0, .int .i32 0, .int .i32 0] _ rfl (rangeAt_block (setRow_heap _ _ _ _ _ _ ((y.h.block _ sV).trans K2.out))) Tryd.underlying27 rfl (by kernel_rfl)) rfl ⟨rfl, below_setRow (BV.out.trans (y.h.mono BV.out.size)) (by omega) _⟩
  · rw [hv] at HVA
    rw [hp] at HPR
    go_wp2_with (first | (go_at_call 11; refine HVA.out.mono ?_; rintro e w' ⟨rfl, y, rfl⟩) | (go_at_call 35; refine (HPR.out _).mono ?_; rintro e w' ⟨rfl, z, rfl⟩) | (refine wpList_load_midG (by first | rfl | kernel_rfl) _ _ rfl _ _ rfl (cellsR r) _ (K1.out.keep (Ext.h _)).range Tryd.underlying27 rfl HI27.out ?_) | (refine wpList_store_row rfl 27 (.tmp 4) (.tmp 16) rfl (w.heap.size + 1 + 1) #[.int .i32 0, .int .i32 0, .int .i32 0, .int .i32 0, .int .i32 0, .int .i32 0, .int .i32 0, .int .i32 0, .int .i32 0, .int .i32 0, .int .i32 0, .int .i32 0, .int .i32 0, .int .i32 0, .int .i32 0, .int .i32 0, .int .i32 0, .int .i32 0, .int .i32 0, .int .i32 0, .int .i32 0, .int .i32 0, .int .i32 0, .int .i32 0, .int .i32 0, .int .i32 0, .int .i32 0, .int .i32 0, .int .i32 0, .int .i32 0, .int .i32 0, .int .i32 0] rfl rfl 27 _ (((Ext.h _).block _ sV).trans K2.out) (by kernel_rfl) rfl (by simp [Value.oneCell']) ?_))
    refine bodyPost_ret (results_cell_tmp (P := Tryd.prog) Tryd.results20 _ _ (w.heap.size + 1 + 1) [.int .i32 0, .int .i32 0, .int .i32 0, .int .i32 0, .int .i32 0, .int .i32 0, .int .i32 0, .int .i32 0, .int .i32 0, .int .i32 0, .int .i32 0, .int .i32 0, .int .i32 0, .int .i32 0, .int .i32 0, .int .i32 0, .int .i32 0, .int .i32 0, .int .i32 0, .int .i32 0, .int .i32 0, .int .i32 0, .int .i32 0, .int .i32 0, .int .i32 0, .int .i32 0, .int .i32 0, .int .i32 0, .int .i32 0, .int .i32 0, .int .i32 0, .int .i32 0] _ rfl (rangeAt_block (setRow_heap _ _ _ _ _ _ ((z.h.block _ sV).trans K2.out))) Tryd.underlying27 rfl (by kernel_rfl)) rfl ⟨rfl, below_setRow (BV.out.trans (z.h.mono BV.out.size)) (by omega) _⟩

theorem set_zero {r : RG} (hl : r.length = 16) (h0 : rg r 0 = (0, 0)) (an : Nat) (x : Int × Int) : (r.set an x).set 0 (0, 0) = setRg r (an : Int) x := by
  have hz : r.set 0 (0, 0) = r := by
    apply List.ext_getElem?
    intro i
    by_cases hi : i = 0
    · subst hi
      rw [List.getElem?_set]
      have := get_rg (r := r) (k := 0) (by omega)
      rw [show ((0 : Nat) : Int) = 0 from rfl] at this
      rw [this]
      simp [hl]
      exact h0.symm
    · rw [List.getElem?_set]; simp [Ne.symm hi]
  unfold setRg
  by_cases ha : an = 0
  · subst ha
    simp [hz]
  · rw [if_neg (by omega), List.set_comm _ _ ha, hz]
    simp
theorem set_zero0 {r : RG} (hl : r.length = 16) (h0 : rg r 0 = (0, 0)) : r.set 0 (0, 0) = r := by
  have h := set_zero hl h0 0 (0, 0)
  rw [List.set_set] at h
  rw [h]
  rfl
theorem proper_zero {r : RG} (h : properR r = true) : rg r 0 = (0, 0) := by
  unfold properR at h
  rw [Bool.and_eq_true, decide_eq_true_eq] at h
  exact h.2

set_option maxRecDepth 100000 in
set_option maxHeartbeats 2000000 in
theorem transfer_alu (op : Int) (an bn cn : Nat) (im : Int) (ha : an < 16) (hb : bn < 16) (hc : cn < 16) (him : -131072 ≤ im ∧ im ≤ 131071) (hop : 2 ≤ op ∧ op ≤ 13) (r : RG) (hr : R16 r) (w : World) (T : Tab w) (hv : validI ⟨op, an, bn, cn, im⟩ = true) (hp : properR r = true) (hz : ¬ ((op = 5 ∨ op = 6) ∧ rg r (cn : Int) = (0, 0))) :
    Calls Tryd.prog 20 #[.agg #[.int .u8 op, .int .i64 (an : Int), .int .i64 (bn : Int), .int .i64 (cn : Int), .int .i64 im], .agg (cellsR r).toArray] w fun e w' => e = .returned (outR (some (setRg r (an : Int) (applyI (opN op) (rg r (bn : Int)) (rg r (cn : Int)))))) ∧ Below w.heap.size w w' := by
  have h0 : 0 ≤ op := by omega
  obtain ⟨V, hV, k0, k1, k2, bV, sV⟩ := three_new w #[.int .u8 op, .int .i64 (an : Int), .int .i64 (bn : Int), .int .i64 (cn : Int), .int .i64 im] (cellsR r).toArray #[.int .i32 0, .int .i32 0, .int .i32 0, .int .i32 0, .int .i32 0, .int .i32 0, .int .i32 0, .int .i32 0, .int .i32 0, .int .i32 0, .int .i32 0, .int .i32 0, .int .i32 0, .int .i32 0, .int .i32 0, .int .i32 0, .int .i32 0, .int .i32 0, .int .i32 0, .int .i32 0, .int .i32 0, .int .i32 0, .int .i32 0, .int .i32 0, .int .i32 0, .int .i32 0, .int .i32 0, .int .i32 0, .int .i32 0, .int .i32 0, .int .i32 0, .int .i32 0] 23 27 27
  obtain ⟨a0, a1, a2, a3, a4, lV⟩ := ins_block k0
  have K1 := Lib.hid (show RBox V (w.heap.size + 1) 27 r from k1)
  have HI27 := Lib.hid (show (Tryd.prog.info? 27).map (·.size) = some (cellsR r).length by rw [cellsR_len, hr.len]; kernel_rfl)
  have K2 := Lib.hid k2
  have BV := Lib.hid bV
  have HVA := Lib.hid (Calls.ext (valid_any ⟨op, an, bn, cn, im⟩ h0 V (T.below bV)))
  have HPR := Lib.hid (fun x : Ext V => Calls.extq (x := x) (proper_any r hr.len x.w))
  clear k0 k1 k2 bV
  go_enter Tryd.func20, Tryd.ntmps20
  go_upto_region 1 with fail
  clear hV
  rw [hv] at HVA
  rw [hp] at HPR
  have wim : IntKind.i32.wrap im = im := IntWalk.i32_in _ (by omega)
  go_upto_region 4 with (first | (go_at_call 11; refine HVA.out.mono ?_; rintro e w' ⟨rfl, y, rfl⟩) | (go_at_call 35; refine (HPR.out _).mono ?_; rintro e w' ⟨rfl, z, rfl⟩) | (refine wpList_load_midG (by first | rfl | kernel_rfl) _ _ rfl _ _ rfl (cellsR r) _ (K1.out.keep (Ext.h _)).range Tryd.underlying27 rfl HI27.out ?_) | (go_at_call 37; refine (Calls.extq (of_any im _)).mono ?_; rintro e w' ⟨rfl, q, rfl⟩))
  obtain ⟨cb, hcb⟩ : ∃ cb, q.w.heap.size = cb := ⟨_, rfl⟩
  obtain ⟨U, hU⟩ : ∃ U, q.w.alloc (.cells #[.int .i32 im, .int .i32 im] 25) = U := ⟨_, rfl⟩
  have bU : Below V.heap.size V U := hU ▸ q.h.alloc q.h.size _
  have kC : U.heap[q.w.heap.size]? = some (.cells #[.int .i32 im, .int .i32 im] 25 (0, 0)) := hU ▸ heap_alloc_new _ _
  rw [hU]
  rw [hcb] at kC ⊢
  have g0 : U.cell? ⟨cb, 0, none⟩ = some (.int .i32 im) := cell_of_row _ _ _ _ _ _ kC
  have g1 : U.cell? ⟨cb, 1, none⟩ = some (.int .i32 im) := cell_of_row _ _ _ _ _ _ kC
  have lC : cb < U.heap.size := (Array.getElem?_eq_some_iff.1 kC).1
  have u0 : U.cell? ⟨w.heap.size, 0, none⟩ = some (.int .u8 op) := by rw [bU.cell (p := ⟨w.heap.size, 0, none⟩) lV]; exact a0
  have u1 : U.cell? ⟨w.heap.size, 1, none⟩ = some (.int .i64 (an : Int)) := by rw [bU.cell (p := ⟨w.heap.size, 1, none⟩) lV]; exact a1
  have u2 : U.cell? ⟨w.heap.size, 2, none⟩ = some (.int .i64 (bn : Int)) := by rw [bU.cell (p := ⟨w.heap.size, 2, none⟩) lV]; exact a2
  have u3 : U.cell? ⟨w.heap.size, 3, none⟩ = some (.int .i64 (cn : Int)) := by rw [bU.cell (p := ⟨w.heap.size, 3, none⟩) lV]; exact a3
  have u4 : U.cell? ⟨w.heap.size, 4, none⟩ = some (.int .i64 im) := by rw [bU.cell (p := ⟨w.heap.size, 4, none⟩) lV]; exact a4
  have UK1 := Lib.hid (K1.out.keep bU)
  have UK2 := Lib.hid ((bU.block _ sV).trans K2.out)
  have sU := bU.size
  have BU := Lib.hid (BV.out.trans (bU.mono BV.out.size))
  obtain ⟨bl, hbl⟩ : ∃ bl, (rg r (bn : Int)).1 = bl := ⟨_, rfl⟩
  obtain ⟨bh, hbh⟩ : ∃ bh, (rg r (bn : Int)).2 = bh := ⟨_, rfl⟩
  obtain ⟨cl, hcl⟩ : ∃ cl, (rg r (cn : Int)).1 = cl := ⟨_, rfl⟩
  obtain ⟨ch, hch⟩ : ∃ ch, (rg r (cn : Int)).2 = ch := ⟨_, rfl⟩
  obtain ⟨al, hal⟩ : ∃ al, (rg r (an : Int)).1 = al := ⟨_, rfl⟩
  obtain ⟨ah, hah⟩ : ∃ ah, (rg r (an : Int)).2 = ah := ⟨_, rfl⟩
  have r0 : U.cell? ⟨w.heap.size + 1, bn * 2, none⟩ = some (.int .i32 bl) := by rw [← hbl]; exact UK1.out.lo (by rw [hr.len]; exact hb)
  have r1 : U.cell? ⟨w.heap.size + 1, bn * 2 + 1, none⟩ = some (.int .i32 bh) := by rw [← hbh]; exact UK1.out.hi (by rw [hr.len]; exact hb)
  have r2 : U.cell? ⟨w.heap.size + 1, cn * 2, none⟩ = some (.int .i32 cl) := by rw [← hcl]; exact UK1.out.lo (by rw [hr.len]; exact hc)
  have r3 : U.cell? ⟨w.heap.size + 1, cn * 2 + 1, none⟩ = some (.int .i32 ch) := by rw [← hch]; exact UK1.out.hi (by rw [hr.len]; exact hc)
  have r4 : U.cell? ⟨w.heap.size + 1, an * 2, none⟩ = some (.int .i32 al) := by rw [← hal]; exact UK1.out.lo (by rw [hr.len]; exact ha)
  have r5 : U.cell? ⟨w.heap.size + 1, an * 2 + 1, none⟩ = some (.int .i32 ah) := by rw [← hah]; exact UK1.out.hi (by rw [hr.len]; exact ha)
  have HB2 := Lib.hid (show rg r (bn : Int) = (bl, bh) from Prod.ext hbl hbh)
  have HC2 := Lib.hid (show rg r (cn : Int) = (cl, ch) from Prod.ext hcl hch)
  have HA2 := Lib.hid (show rg r (an : Int) = (al, ah) from Prod.ext hal hah)
  have ia : (an : Int) < 16 := by omega
  have ib : (bn : Int) < 16 := by omega
  have ic : (cn : Int) < 16 := by omega
  have lR : w.heap.size + 1 < U.heap.size := by omega
  have lI : w.heap.size < U.heap.size := by omega
  have lO : w.heap.size + 1 + 1 < U.heap.size := by omega
  have rf0 : U.frozen? ⟨w.heap.size + 1, an * 2, none⟩ = false := UK1.out.fz _
  have rf1 : U.frozen? ⟨w.heap.size + 1, an * 2 + 1, none⟩ = false := UK1.out.fz _
  have hbw : W32 bl ∧ W32 bh := by have h := hr.at_ (bn : Int); rw [HB2.out] at h; exact h
  have hcw : W32 cl ∧ W32 ch := by have h := hr.at_ (cn : Int); rw [HC2.out] at h; exact h
  have haw : W32 al ∧ W32 ah := by have h := hr.at_ (an : Int); rw [HA2.out] at h; exact h
  clear hcb hU bU kC a0 a1 a2 a3 a4 hbl hbh hcl hch hal hah HVA HPR K1 K2 wim hv
  have HP := Lib.hid hp
  clear hp
  have d1 : decide (2 ≤ op) = true := decide_eq_true hop.1
  have d2 : decide (op ≤ 13) = true := decide_eq_true hop.2
  have HOP := Lib.hid (operator_any op hop.1 hop.2)
  have HZ := Lib.hid hz
  clear hz
  have hap := fun w => apply_any (opN op) bl bh cl ch w (hbw).1.1 hbw.1.2 hbw.2.1 hbw.2.2 hcw.1.1 hcw.1.2 hcw.2.1 hcw.2.2
  obtain ⟨xa, hxa⟩ : ∃ xa, (applyI (opN op) (bl, bh) (cl, ch)).1 = xa := ⟨_, rfl⟩
  obtain ⟨xb, hxb⟩ : ∃ xb, (applyI (opN op) (bl, bh) (cl, ch)).2 = xb := ⟨_, rfl⟩
  rw [hxa, hxb] at hap
  have HAP := Lib.hid hap
  have HX := Lib.hid (show applyI (opN op) (rg r (bn : Int)) (rg r (cn : Int)) = (xa, xb) by rw [HB2.out, HC2.out]; exact Prod.ext hxa hxb)
  clear hap hxa hxb
  clear hbw hcw
  by_cases h5 : op = 5 ∨ op = 6
  · have EZ : ∀ w : World, (binOp .eql 25 (.agg #[.int .i32 cl, .int .i32 ch]) (.agg #[.int .i32 0, .int .i32 0])).run Tryd.prog w = .ok (.bool false) w := fun w => by
      rw [eq_iv, show (cl == 0 && ch == 0) = false by
        rw [Bool.eq_false_iff]
        intro h
        rw [Bool.and_eq_true, beq_iff_eq, beq_iff_eq] at h
        exact HZ.out ⟨h5, by rw [HC2.out, h.1, h.2]⟩]
    have hzz := HZ
    clear hzz
    rcases h5 with rfl | rfl
    all_goals
      go_upto_region 5 with fail
      refine wp_region_ext (by kernel_rfl) (by kernel_rfl) ?_
      repeat (go_big_quiet_step (first | (go_at_call 37; exact Calls.extq (of_any 0 _))))
      refine wpQuiet_nil ?_
      rintro _ ⟨x, rfl⟩
      go_upto_region 7 with fail
      refine wp_region_extq_tail 15 (by kernel_rfl) (by kernel_rfl) ?_
      simp only [List.take_succ_cons, List.take_zero, List.drop_succ_cons, List.drop_zero]
      repeat (go_big_quiet_step (first | (go_at_call 48; exact Calls.extq_same (HOP.out _)) | (go_at_call 47; exact Calls.extq (HAP.out _))))
      refine wpQuiet_nil ?_
      rintro _ ⟨x1, rfl⟩
      go_upto_region 23 with fail
      obtain ⟨Y, hY⟩ : ∃ Y, (x1.w.setCell ⟨w.heap.size + 1, an * 2, none⟩ (.int .i32 xa)).setCell ⟨w.heap.size + 1, an * 2 + 1, none⟩ (.int .i32 xb) = Y := ⟨_, rfl⟩
      obtain ⟨rs, hrs⟩ : ∃ rs, r.set an (xa, xb) = rs := ⟨_, rfl⟩
      have lrs : rs.length = 16 := by rw [← hrs, List.length_set]; exact hr.len
      have kY : RBox Y (w.heap.size + 1) 27 rs := by rw [← hY, ← hrs]; exact (UK1.out.keep x1.h).set an (xa, xb)
      have kO : Y.heap[w.heap.size + 1 + 1]? = some (.cells #[.int .i32 0, .int .i32 0, .int .i32 0, .int .i32 0, .int .i32 0, .int .i32 0, .int .i32 0, .int .i32 0, .int .i32 0, .int .i32 0, .int .i32 0, .int .i32 0, .int .i32 0, .int .i32 0, .int .i32 0, .int .i32 0, .int .i32 0, .int .i32 0, .int .i32 0, .int .i32 0, .int .i32 0, .int .i32 0, .int .i32 0, .int .i32 0, .int .i32 0, .int .i32 0, .int .i32 0, .int .i32 0, .int .i32 0, .int .i32 0, .int .i32 0, .int .i32 0] 27 (0, 0)) := by
        rw [← hY, Below.heap_setCell _ _ _ _ (by show w.heap.size + 1 + 1 ≠ w.heap.size + 1; omega), Below.heap_setCell _ _ _ _ (by show w.heap.size + 1 + 1 ≠ w.heap.size + 1; omega)]
        exact (x1.h.block _ lO).trans UK2.out
      have bY : Below w.heap.size w Y := by rw [← hY]; exact Below.setCell (Below.setCell (BU.out.trans (x1.h.mono BU.out.size)) (by show w.heap.size ≤ w.heap.size + 1; omega) _) (by show w.heap.size ≤ w.heap.size + 1; omega) _
      rw [hY]
      have lY : w.heap.size + 1 < Y.heap.size := kY.lt
      have lY2 : w.heap.size + 1 + 1 < Y.heap.size := (Array.getElem?_eq_some_iff.1 kO).1
      have z0 : Y.cell? ⟨w.heap.size + 1, 0, none⟩ = some (.int .i32 (rg rs 0).1) := by simpa using kY.lo (k := 0) (by omega)
      have z1 : Y.cell? ⟨w.heap.size + 1, 1, none⟩ = some (.int .i32 (rg rs 0).2) := by simpa using kY.hi (k := 0) (by omega)
      have zf0 : Y.frozen? ⟨w.heap.size + 1, 0, none⟩ = false := kY.fz _
      have zf1 : Y.frozen? ⟨w.heap.size + 1, 1, none⟩ = false := kY.fz _
      have KY := Lib.hid kY
      have KO := Lib.hid kO
      have BY := Lib.hid bY
      have HRS := Lib.hid hrs
      have LRS := Lib.hid lrs
      have HOF := Lib.hid (Calls.ext (of_any 0 Y))
      clear hY kY kO bY hrs lrs
      go_upto_region 24 with (go_at_call 37; refine HOF.out.mono ?_; rintro e w' ⟨rfl, y2, rfl⟩)
      obtain ⟨Z, hZ⟩ : ∃ Z, (y2.w.setCell ⟨w.heap.size + 1, 0, none⟩ (.int .i32 0)).setCell ⟨w.heap.size + 1, 1, none⟩ (.int .i32 0) = Z := ⟨_, rfl⟩
      obtain ⟨r3, hr3⟩ : ∃ r3, rs.set 0 (0, 0) = r3 := ⟨_, rfl⟩
      have l3 : r3.length = 16 := by rw [← hr3, List.length_set]; exact LRS.out
      have kZ : RBox Z (w.heap.size + 1) 27 r3 := by
        rw [← hZ, ← hr3]
        have h := (KY.out.keep y2.h).set 0 (0, 0)
        simpa using h
      have kZO : Z.heap[w.heap.size + 1 + 1]? = some (.cells #[.int .i32 0, .int .i32 0, .int .i32 0, .int .i32 0, .int .i32 0, .int .i32 0, .int .i32 0, .int .i32 0, .int .i32 0, .int .i32 0, .int .i32 0, .int .i32 0, .int .i32 0, .int .i32 0, .int .i32 0, .int .i32 0, .int .i32 0, .int .i32 0, .int .i32 0, .int .i32 0, .int .i32 0, .int .i32 0, .int .i32 0, .int .i32 0, .int .i32 0, .int .i32 0, .int .i32 0, .int .i32 0, .int .i32 0, .int .i32 0, .int .i32 0, .int .i32 0] 27 (0, 0)) := by
        rw [← hZ, Below.heap_setCell _ _ _ _ (by show w.heap.size + 1 + 1 ≠ w.heap.size + 1; omega), Below.heap_setCell _ _ _ _ (by show w.heap.size + 1 + 1 ≠ w.heap.size + 1; omega)]
        exact (y2.h.block _ lY2).trans KO.out
      have bZ : Below w.heap.size w Z := by rw [← hZ]; exact Below.setCell (Below.setCell (BY.out.trans (y2.h.mono BY.out.size)) (by show w.heap.size ≤ w.heap.size + 1; omega) _) (by show w.heap.size ≤ w.heap.size + 1; omega) _
      rw [hZ]
      have HRG := Lib.hid kZ.range
      have KZO := Lib.hid kZO
      have BZ := Lib.hid bZ
      have HI3 := Lib.hid (show (Tryd.prog.info? 27).map (·.size) = some (cellsR r3).length by rw [cellsR_len, l3]; kernel_rfl)
      have HI4 := Lib.hid (show (Tryd.prog.info? 27).map (·.size) = some (cellsR r3).toArray.size by rw [List.size_toArray, cellsR_len, l3]; kernel_rfl)
      have HI5 := Lib.hid (show (#[.int .i32 0, .int .i32 0, .int .i32 0, .int .i32 0, .int .i32 0, .int .i32 0, .int .i32 0, .int .i32 0, .int .i32 0, .int .i32 0, .int .i32 0, .int .i32 0, .int .i32 0, .int .i32 0, .int .i32 0, .int .i32 0, .int .i32 0, .int .i32 0, .int .i32 0, .int .i32 0, .int .i32 0, .int .i32 0, .int .i32 0, .int .i32 0, .int .i32 0, .int .i32 0, .int .i32 0, .int .i32 0, .int .i32 0, .int .i32 0, .int .i32 0, .int .i32 0] : Array Value).size = (cellsR r3).toArray.size by rw [show (cellsR r3).toArray.size = 32 by rw [List.size_toArray, cellsR_len, l3]]; rfl)
      have HONE := Lib.hid (cellsR_one r3)
      have HR3 := Lib.hid (show r3 = setRg r (an : Int) (xa, xb) by rw [← hr3, ← HRS.out]; exact set_zero hr.len (proper_zero HP.out) an _)
      clear hZ kZ kZO bZ hr3 l3 z0 z1 zf0 zf1
      go_wp2_with (first | (refine wpList_load_mid rfl _ _ rfl _ _ rfl (cellsR r3) _ HRG.out Tryd.underlying27 rfl HI3.out ?_) | (refine wpList_store_row rfl 27 (.tmp 4) (.tmp 150) rfl (w.heap.size + 1 + 1) (cellsR r3).toArray rfl rfl 27 _ KZO.out HI4.out HI5.out HONE.out ?_))
      refine bodyPost_ret (results_cell_tmp (P := Tryd.prog) Tryd.results20 _ _ (w.heap.size + 1 + 1) (cellsR r3) _ rfl (rangeAt_block (setRow_heap _ _ _ _ _ _ KZO.out)) Tryd.underlying27 rfl HI3.out) rfl ⟨?_, below_setRow BZ.out (by omega) _⟩
      rw [HR3.out, HX.out]
      rfl
    
  have e5 : (op == 5) = false := by rw [Bool.eq_false_iff]; intro h; exact h5 (.inl (by simpa using h))
  have e6 : (op == 6) = false := by rw [Bool.eq_false_iff]; intro h; exact h5 (.inr (by simpa using h))
  clear h5
  go_upto_region 5 with fail
  refine wp_region_ext (by kernel_rfl) (by kernel_rfl) ?_
  repeat (go_big_quiet_step (fail))
  refine wpQuiet_nil ?_
  rintro _ ⟨x, rfl⟩
  go_upto_region 7 with fail
  refine wp_region_extq_tail 15 (by kernel_rfl) (by kernel_rfl) ?_
  simp only [List.take_succ_cons, List.take_zero, List.drop_succ_cons, List.drop_zero]
  repeat (go_big_quiet_step (first | (go_at_call 48; exact Calls.extq_same (HOP.out _)) | (go_at_call 47; exact Calls.extq (HAP.out _))))
  refine wpQuiet_nil ?_
  rintro _ ⟨x1, rfl⟩
  go_upto_region 23 with fail
  obtain ⟨Y, hY⟩ : ∃ Y, (x1.w.setCell ⟨w.heap.size + 1, an * 2, none⟩ (.int .i32 xa)).setCell ⟨w.heap.size + 1, an * 2 + 1, none⟩ (.int .i32 xb) = Y := ⟨_, rfl⟩
  obtain ⟨rs, hrs⟩ : ∃ rs, r.set an (xa, xb) = rs := ⟨_, rfl⟩
  have lrs : rs.length = 16 := by rw [← hrs, List.length_set]; exact hr.len
  have kY : RBox Y (w.heap.size + 1) 27 rs := by rw [← hY, ← hrs]; exact (UK1.out.keep x1.h).set an (xa, xb)
  have kO : Y.heap[w.heap.size + 1 + 1]? = some (.cells #[.int .i32 0, .int .i32 0, .int .i32 0, .int .i32 0, .int .i32 0, .int .i32 0, .int .i32 0, .int .i32 0, .int .i32 0, .int .i32 0, .int .i32 0, .int .i32 0, .int .i32 0, .int .i32 0, .int .i32 0, .int .i32 0, .int .i32 0, .int .i32 0, .int .i32 0, .int .i32 0, .int .i32 0, .int .i32 0, .int .i32 0, .int .i32 0, .int .i32 0, .int .i32 0, .int .i32 0, .int .i32 0, .int .i32 0, .int .i32 0, .int .i32 0, .int .i32 0] 27 (0, 0)) := by
    rw [← hY, Below.heap_setCell _ _ _ _ (by show w.heap.size + 1 + 1 ≠ w.heap.size + 1; omega), Below.heap_setCell _ _ _ _ (by show w.heap.size + 1 + 1 ≠ w.heap.size + 1; omega)]
    exact (x1.h.block _ lO).trans UK2.out
  have bY : Below w.heap.size w Y := by rw [← hY]; exact Below.setCell (Below.setCell (BU.out.trans (x1.h.mono BU.out.size)) (by show w.heap.size ≤ w.heap.size + 1; omega) _) (by show w.heap.size ≤ w.heap.size + 1; omega) _
  rw [hY]
  have lY : w.heap.size + 1 < Y.heap.size := kY.lt
  have lY2 : w.heap.size + 1 + 1 < Y.heap.size := (Array.getElem?_eq_some_iff.1 kO).1
  have z0 : Y.cell? ⟨w.heap.size + 1, 0, none⟩ = some (.int .i32 (rg rs 0).1) := by simpa using kY.lo (k := 0) (by omega)
  have z1 : Y.cell? ⟨w.heap.size + 1, 1, none⟩ = some (.int .i32 (rg rs 0).2) := by simpa using kY.hi (k := 0) (by omega)
  have zf0 : Y.frozen? ⟨w.heap.size + 1, 0, none⟩ = false := kY.fz _
  have zf1 : Y.frozen? ⟨w.heap.size + 1, 1, none⟩ = false := kY.fz _
  have KY := Lib.hid kY
  have KO := Lib.hid kO
  have BY := Lib.hid bY
  have HRS := Lib.hid hrs
  have LRS := Lib.hid lrs
  have HOF := Lib.hid (Calls.ext (of_any 0 Y))
  clear hY kY kO bY hrs lrs
  go_upto_region 24 with (go_at_call 37; refine HOF.out.mono ?_; rintro e w' ⟨rfl, y2, rfl⟩)
  obtain ⟨Z, hZ⟩ : ∃ Z, (y2.w.setCell ⟨w.heap.size + 1, 0, none⟩ (.int .i32 0)).setCell ⟨w.heap.size + 1, 1, none⟩ (.int .i32 0) = Z := ⟨_, rfl⟩
  obtain ⟨r3, hr3⟩ : ∃ r3, rs.set 0 (0, 0) = r3 := ⟨_, rfl⟩
  have l3 : r3.length = 16 := by rw [← hr3, List.length_set]; exact LRS.out
  have kZ : RBox Z (w.heap.size + 1) 27 r3 := by
    rw [← hZ, ← hr3]
    have h := (KY.out.keep y2.h).set 0 (0, 0)
    simpa using h
  have kZO : Z.heap[w.heap.size + 1 + 1]? = some (.cells #[.int .i32 0, .int .i32 0, .int .i32 0, .int .i32 0, .int .i32 0, .int .i32 0, .int .i32 0, .int .i32 0, .int .i32 0, .int .i32 0, .int .i32 0, .int .i32 0, .int .i32 0, .int .i32 0, .int .i32 0, .int .i32 0, .int .i32 0, .int .i32 0, .int .i32 0, .int .i32 0, .int .i32 0, .int .i32 0, .int .i32 0, .int .i32 0, .int .i32 0, .int .i32 0, .int .i32 0, .int .i32 0, .int .i32 0, .int .i32 0, .int .i32 0, .int .i32 0] 27 (0, 0)) := by
    rw [← hZ, Below.heap_setCell _ _ _ _ (by show w.heap.size + 1 + 1 ≠ w.heap.size + 1; omega), Below.heap_setCell _ _ _ _ (by show w.heap.size + 1 + 1 ≠ w.heap.size + 1; omega)]
    exact (y2.h.block _ lY2).trans KO.out
  have bZ : Below w.heap.size w Z := by rw [← hZ]; exact Below.setCell (Below.setCell (BY.out.trans (y2.h.mono BY.out.size)) (by show w.heap.size ≤ w.heap.size + 1; omega) _) (by show w.heap.size ≤ w.heap.size + 1; omega) _
  rw [hZ]
  have HRG := Lib.hid kZ.range
  have KZO := Lib.hid kZO
  have BZ := Lib.hid bZ
  have HI3 := Lib.hid (show (Tryd.prog.info? 27).map (·.size) = some (cellsR r3).length by rw [cellsR_len, l3]; kernel_rfl)
  have HI4 := Lib.hid (show (Tryd.prog.info? 27).map (·.size) = some (cellsR r3).toArray.size by rw [List.size_toArray, cellsR_len, l3]; kernel_rfl)
  have HI5 := Lib.hid (show (#[.int .i32 0, .int .i32 0, .int .i32 0, .int .i32 0, .int .i32 0, .int .i32 0, .int .i32 0, .int .i32 0, .int .i32 0, .int .i32 0, .int .i32 0, .int .i32 0, .int .i32 0, .int .i32 0, .int .i32 0, .int .i32 0, .int .i32 0, .int .i32 0, .int .i32 0, .int .i32 0, .int .i32 0, .int .i32 0, .int .i32 0, .int .i32 0, .int .i32 0, .int .i32 0, .int .i32 0, .int .i32 0, .int .i32 0, .int .i32 0, .int .i32 0, .int .i32 0] : Array Value).size = (cellsR r3).toArray.size by rw [show (cellsR r3).toArray.size = 32 by rw [List.size_toArray, cellsR_len, l3]]; rfl)
  have HONE := Lib.hid (cellsR_one r3)
  have HR3 := Lib.hid (show r3 = setRg r (an : Int) (xa, xb) by rw [← hr3, ← HRS.out]; exact set_zero hr.len (proper_zero HP.out) an _)
  clear hZ kZ kZO bZ hr3 l3 z0 z1 zf0 zf1
  go_wp2_with (first | (refine wpList_load_mid rfl _ _ rfl _ _ rfl (cellsR r3) _ HRG.out Tryd.underlying27 rfl HI3.out ?_) | (refine wpList_store_row rfl 27 (.tmp 4) (.tmp 150) rfl (w.heap.size + 1 + 1) (cellsR r3).toArray rfl rfl 27 _ KZO.out HI4.out HI5.out HONE.out ?_))
  refine bodyPost_ret (results_cell_tmp (P := Tryd.prog) Tryd.results20 _ _ (w.heap.size + 1 + 1) (cellsR r3) _ rfl (rangeAt_block (setRow_heap _ _ _ _ _ _ KZO.out)) Tryd.underlying27 rfl HI3.out) rfl ⟨?_, below_setRow BZ.out (by omega) _⟩
  rw [HR3.out, HX.out]
  rfl


end Go.Proofs.YtebklpnkcicpjaaDoor


