/-
 What is proved here: what after and edge return.
-/
import Derived.Test.YtebklpnkcicpjaaDoorFaAn
import Derived.Test.YtebklpnkcicpjaaDoorFaTr3
import Derived.Test.YtebklpnkcicpjaaDoorFaRf
namespace Go.Proofs.YtebklpnkcicpjaaDoor
open Go.RowKit
set_option linter.unusedVariables false
set_option linter.unusedSimpArgs false

theorem hi3 {r : RG} (hr : r.length = 16) : (Tryd.prog.info? 27).map (·.size) = some (cellsR r).length := by rw [cellsR_len, hr]; kernel_rfl
theorem hi4 {r : RG} (hr : r.length = 16) : (Tryd.prog.info? 27).map (·.size) = some (cellsR r).toArray.size := by rw [List.size_toArray, cellsR_len, hr]; kernel_rfl
theorem hi6 {r z : RG} (hr : r.length = 16) (hz : z.length = 16) : (cellsR z).toArray.size = (cellsR r).toArray.size := by rw [List.size_toArray, List.size_toArray, cellsR_len, cellsR_len, hr, hz]
theorem zero16 : zeroR.length = 16 := rfl
theorem RBox.row {w : World} {b : Nat} {T : TypeId} {z r : RG} (h : RBox w b T z) : RBox (w.setRow b (cellsR r).toArray) b T r := setRow_heap _ _ _ _ _ _ h
theorem results_out {w : World} {fn : Func} {a u : Tmp} (h : fn.results = #[.cell a 27, .tmp u]) (tmps : Array Value) (b : Nat) {r : RG} (hr : r.length = 16) (ha : tmps.getD a undef = .pointer (some ⟨b, 0, none⟩)) (hb : RBox w b 27 r) :
  (results fn tmps).run Tryd.prog w = .ok (.tuple #[.agg (cellsR r).toArray, tmps.getD u undef]) w :=
 results_cell_tmp (P := Tryd.prog) h tmps w b (cellsR r) _ ha hb.range Tryd.underlying27 rfl (hi3 hr)
theorem ints_at {w : World} {v : Value} {l : List Int} (h : Ints w v l) : ∃ A cap, v = .slice A l.length cap ∧ l.length ≤ cap ∧ cap ≤ maxLen := by
 obtain ⟨A, cap, h1, h2, h3, _⟩ := h
 exact ⟨A, cap, h1, h2, h3⟩
theorem max_63 {n : Nat} (h : n ≤ maxLen) : n ≤ 2 ^ 63 - 1 := by unfold maxLen at h; exact h

set_option maxRecDepth 100000 in
set_option maxHeartbeats 4000000 in
theorem after_any {V w : World} {ab cb rb ib pb : Nat} {bv pv : Value} {G : List Blk} {B : List AB} {val : Nat → Value} {s : AS} (h : An V w ab cb rb ib pb bv pv G B val s) {k : Nat} {b : AB} (hk : B[k]? = some b) (hne : b.code ≠ []) (hops : ∀ i ∈ b.code, 0 ≤ i.op) (T : Tab w) :
  Calls Tryd.prog 44 #[.pointer (some ⟨ab, 0, none⟩), .int .i64 (k : Int)] w fun e w' => e = .returned (outR (runR b.code (s.inn.getD k []))) ∧ Below w.heap.size w w' := by
 have hkl := (List.getElem?_eq_some_iff.1 hk).1
 have hBB := h.lB
 obtain ⟨r, hr⟩ : ∃ r, s.inn.getD k [] = r := ⟨_, rfl⟩
 have r16 : R16 r := hr ▸ h.asi.get hkl
 obtain ⟨V0, hV0⟩ : ∃ V0, w.alloc (.cells #[.int .i32 0, .int .i32 0, .int .i32 0, .int .i32 0, .int .i32 0, .int .i32 0, .int .i32 0, .int .i32 0, .int .i32 0, .int .i32 0, .int .i32 0, .int .i32 0, .int .i32 0, .int .i32 0, .int .i32 0, .int .i32 0, .int .i32 0, .int .i32 0, .int .i32 0, .int .i32 0, .int .i32 0, .int .i32 0, .int .i32 0, .int .i32 0, .int .i32 0, .int .i32 0, .int .i32 0, .int .i32 0, .int .i32 0, .int .i32 0, .int .i32 0, .int .i32 0] 27) = V0 := ⟨_, rfl⟩
 have b0 : Below w.heap.size w V0 := hV0 ▸ (Below.refl _ _).alloc (Nat.le_refl _) _
 have s0 : V0.heap.size = w.heap.size + 1 := by rw [← hV0]; simp
 have kz : RBox V0 w.heap.size 27 zeroR := hV0 ▸ heap_alloc_new _ _
 have h0 := h.below b0
 obtain ⟨l1, l2, l3, l4, l5⟩ := h0.lt
 obtain ⟨-, c2, -, c4, -⟩ := h0.cells
 have hrg := h0.inAt hkl
 rw [hr] at hrg
 have HRG := Lib.hid hrg
 have dk : (k : Int) < (B.length : Int) := by omega
 obtain ⟨n, hn⟩ : ∃ n, B.length = n := ⟨_, rfl⟩
 rw [hn] at c2 c4 dk hBB
 have H0 := Lib.hid h0
 have HW := Lib.hid h
 have HR := Lib.hid hr
 have HOPS := Lib.hid hops
 have R := Lib.hid r16
 have B0 := Lib.hid b0
 have S0 := Lib.hid s0
 have KZ := Lib.hid kz
 have HNE := Lib.hid hne
 have HK := Lib.hid hk
 have HT := Lib.hid T
 obtain ⟨q, cap, hval, ccap, cmax, clt, ccells⟩ : ∃ q cap, val k = .slice (some ⟨q, 0, none⟩) b.code.length cap ∧ b.code.length ≤ cap ∧ cap ≤ 2 ^ 63 - 1 ∧ q < w.heap.size ∧ ∀ j i, b.code[j]? = some i →
   w.cell? ⟨q, j * 5, none⟩ = some (.int .u8 i.op) ∧ w.cell? ⟨q, j * 5 + 1, none⟩ = some (.int .i64 i.a) ∧ w.cell? ⟨q, j * 5 + 2, none⟩ = some (.int .i64 i.b) ∧ w.cell? ⟨q, j * 5 + 3, none⟩ = some (.int .i64 i.c) ∧ w.cell? ⟨q, j * 5 + 4, none⟩ = some (.int .i64 i.imm) := by
  rcases (h.code hk).2 with ⟨_, e⟩ | ⟨q, cap, e1, e2, e3, e4, e5⟩
  ·exact absurd e hne
  ·exact ⟨q, cap, e1, e2, max_63 e3, e4, e5⟩
 have CC := Lib.hid ccells
 obtain ⟨m, hm⟩ : ∃ m, b.code.length = m := ⟨_, rfl⟩
 have x2 : V0.cell? ⟨cb, k, none⟩ = some (.slice (some ⟨q, 0, none⟩) m cap) := by rw [← hm, ← hval]; exact (h0.code hk).1
 have HM := Lib.hid hm
 rw [hm] at ccap
 clear h0 h hr hops r16 b0 s0 kz hne hk T hrg hn hval ccells hm hkl
 go_enter Tryd.func44, Tryd.ntmps44
 go_upto_region 2 with (first | (refine wpList_load_mid rfl _ _ rfl _ _ rfl (cellsR r) _ HRG.out Tryd.underlying27 rfl (hi3 R.out.len) ?_) | (refine wpList_store_row rfl 27 (.tmp 6) (.tmp 16) rfl V0.heap.size (cellsR r).toArray rfl rfl 27 _ (heap_alloc_new _ _) (hi4 R.out.len) (hi6 R.out.len zero16) (cellsR_one r) ?_))
 obtain ⟨X, hX⟩ : ∃ X, (V0.alloc (.cells #[.int .i32 0, .int .i32 0, .int .i32 0, .int .i32 0, .int .i32 0, .int .i32 0, .int .i32 0, .int .i32 0, .int .i32 0, .int .i32 0, .int .i32 0, .int .i32 0, .int .i32 0, .int .i32 0, .int .i32 0, .int .i32 0, .int .i32 0, .int .i32 0, .int .i32 0, .int .i32 0, .int .i32 0, .int .i32 0, .int .i32 0, .int .i32 0, .int .i32 0, .int .i32 0, .int .i32 0, .int .i32 0, .int .i32 0, .int .i32 0, .int .i32 0, .int .i32 0] 27)).setRow V0.heap.size (cellsR r).toArray = X := ⟨_, rfl⟩
 have hA : RBox (V0.alloc (.cells #[.int .i32 0, .int .i32 0, .int .i32 0, .int .i32 0, .int .i32 0, .int .i32 0, .int .i32 0, .int .i32 0, .int .i32 0, .int .i32 0, .int .i32 0, .int .i32 0, .int .i32 0, .int .i32 0, .int .i32 0, .int .i32 0, .int .i32 0, .int .i32 0, .int .i32 0, .int .i32 0, .int .i32 0, .int .i32 0, .int .i32 0, .int .i32 0, .int .i32 0, .int .i32 0, .int .i32 0, .int .i32 0, .int .i32 0, .int .i32 0, .int .i32 0, .int .i32 0] 27)) V0.heap.size 27 zeroR := heap_alloc_new _ _
 have bX : Below V0.heap.size V0 X := hX ▸ below_setRow ((Below.refl _ _).alloc (Nat.le_refl _) _) (Nat.le_refl _) _
 have kX : RBox X V0.heap.size 27 r := hX ▸ hA.row
 rw [hX]
 clear hV0
 have hX0 := H0.out.below bX
 obtain ⟨y1, y2, y3, y4, y5⟩ := hX0.lt
 have e2 := hX0.cells.2.1
 have f2 : X.cell? ⟨cb, k, none⟩ = some (.slice (some ⟨q, 0, none⟩) m cap) := (bX.cell (p := ⟨cb, k, none⟩) l2).trans x2
 have BX := Lib.hid bX
 have KX := Lib.hid kX
 have hnB : B.length = n := by
  have := c2.symm.trans H0.out.cells.2.1
  simp at this
  omega
 rw [hnB] at e2
 clear hX hA bX kX hX0 c2 c4 x2 hnB
 go_upto_region 3 with fail
 go_loopw [7, 25] (fun a7 a25 wr => ∃ (j : Nat) (r1 : RG), j ≤ m ∧ a25 = .int .i64 (j : Int) ∧ a7 = .bool true ∧ runR (b.code.drop j) r1 = runR b.code r ∧ R16 r1 ∧ Below V0.heap.size V0 wr ∧ RBox wr V0.heap.size 27 r1) (fun _ a25 _ => m - (intOf a25).toNat)
 case atStart => exact ⟨0, r, by omega, rfl, rfl, by simp, R.out, BX.out, KX.out⟩
 case round =>
  obtain ⟨j, r1, hj, rfl, rfl, hrun, hr1, hb, kr⟩ := hrel
  have HRUN := Lib.hid hrun
  have R1 := Lib.hid hr1
  have HB := Lib.hid hb
  have KR := Lib.hid kr
  clear hrun hr1 hb kr
  have hsz : V0.heap.size < wr.heap.size := KR.out.lt
  by_cases hlt : j < m
  ·have dl : decide ((j : Int) < (m : Int)) = true := decide_eq_true (by omega)
   obtain ⟨i, hi⟩ : ∃ i, b.code[j]? = some i := ⟨_, List.getElem?_eq_getElem (by rw [HM.out]; exact hlt)⟩
   obtain ⟨i0, i1, i2, i3, i4⟩ := CC.out j i hi
   have lqv : q < V0.heap.size := by have := S0.out; omega
   have bq := fun o => (HB.out.cell (p := ⟨q, o, none⟩) lqv).trans (B0.out.cell (p := ⟨q, o, none⟩) clt)
   have j0 := (bq _).trans i0
   have j1 := (bq _).trans i1
   have j2 := (bq _).trans i2
   have j3 := (bq _).trans i3
   have j4 := (bq _).trans i4
   have HOP := Lib.hid (HOPS.out i (List.mem_of_getElem? hi))
   have HST := Lib.hid (show runR (i :: b.code.drop (j + 1)) r1 = runR b.code r by
    have hl : j < b.code.length := by rw [HM.out]; exact hlt
    have e1 : b.code[j] = i := Option.some.inj ((List.getElem?_eq_getElem hl).symm.trans hi)
    have e2 : b.code.drop j = i :: b.code.drop (j + 1) := by rw [List.drop_eq_getElem_cons hl, e1]
    rw [← HRUN.out, e2])
   obtain ⟨op, ia, ic, id, im⟩ := i
   simp only at j0 j1 j2 j3 j4
   clear i0 i1 i2 i3 i4 hi bq
   have lq : q < wr.heap.size := by omega
   go_upto_region 5 with fail
   obtain ⟨Y, hY⟩ : ∃ Y, wr.alloc (.cells #[.int .u8 op, .int .i64 ia, .int .i64 ic, .int .i64 id, .int .i64 im] 23) = Y := ⟨_, rfl⟩
   rw [hY]
   have bY : Below wr.heap.size wr Y := hY ▸ (Below.refl _ _).alloc (Nat.le_refl _) _
   obtain ⟨z0, z1, z2, z3, z4, lY⟩ := ins_block (show Y.heap[wr.heap.size]? = some (.cells #[.int .u8 op, .int .i64 ia, .int .i64 ic, .int .i64 id, .int .i64 im] 23 (0, 0)) from hY ▸ heap_alloc_new _ _)
   have KY := Lib.hid (KR.out.keep bY)
   have HRG1 := Lib.hid KY.out.range
   have BWY := Lib.hid (B0.out.trans ((HB.out.trans (bY.mono (by omega))).mono (by have := S0.out; omega)))
   have KZY := Lib.hid (show RBox Y w.heap.size 27 zeroR from (((HB.out.trans (bY.mono (by omega))).block _ (by have := S0.out; omega)).trans KZ.out))
   have HTR := Lib.hid (transfer_any op ia ic id im HOP.out r1 R1.out Y (HT.out.below BWY.out))
   have BVY := Lib.hid (HB.out.trans (bY.mono (by omega)))
   have lV : V0.heap.size < Y.heap.size := KY.out.lt
   have lw : w.heap.size < Y.heap.size := KZY.out.lt
   clear hY bY j0 j1 j2 j3 j4
   rcases ho : transR ⟨op, ia, ic, id, im⟩ r1 with _ | r2
   ·rw [ho] at HTR
    have HN := Lib.hid (show runR b.code r = none by rw [← HST.out]; simp only [runR, ho])
    clear ho
    go_wp2_with (first | (refine wpList_load_mid rfl _ _ rfl _ _ rfl (cellsR r1) _ HRG1.out Tryd.underlying27 rfl (hi3 R1.out.len) ?_) | (go_at_call 20; refine HTR.out.mono ?_; rintro e w1 ⟨rfl, hb1⟩; unfold outR) | (refine wpList_store_row rfl 27 (.tmp 6) (.tmp 33) rfl V0.heap.size (cellsR zeroR).toArray rfl rfl 27 _ (KY.out.keep hb1) (hi4 zero16) (hi6 zero16 R1.out.len) (cellsR_one zeroR) ?_) | (refine wpList_store_row rfl 27 (.tmp 4) (.tmp 37) rfl w.heap.size #[.int .i32 0, .int .i32 0, .int .i32 0, .int .i32 0, .int .i32 0, .int .i32 0, .int .i32 0, .int .i32 0, .int .i32 0, .int .i32 0, .int .i32 0, .int .i32 0, .int .i32 0, .int .i32 0, .int .i32 0, .int .i32 0, .int .i32 0, .int .i32 0, .int .i32 0, .int .i32 0, .int .i32 0, .int .i32 0, .int .i32 0, .int .i32 0, .int .i32 0, .int .i32 0, .int .i32 0, .int .i32 0, .int .i32 0, .int .i32 0, .int .i32 0, .int .i32 0] rfl rfl 27 _ ((setRow_other _ _ _ _ (by have := S0.out; omega)).trans (KZY.out.keep hb1)) (by kernel_rfl) rfl (by simp [Value.oneCell']) ?_))
    refine bodyPost_ret (results_out Tryd.results44 _ w.heap.size zero16 rfl (RBox.row (r := zeroR) (z := zeroR) ((setRow_other _ _ _ _ (by have := S0.out; omega)).trans (KZY.out.keep hb1)))) rfl ⟨?_, ?_⟩
    ·rw [HR.out, HN.out]; rfl
    ·exact below_setRow (below_setRow (BWY.out.trans (hb1.mono BWY.out.size)) (by have := S0.out; omega) _) (Nat.le_refl _) _
   ·rw [ho] at HTR
    have HN := Lib.hid (show runR (b.code.drop (j + 1)) r2 = runR b.code r by rw [← HST.out]; simp only [runR, ho])
    have R2 := Lib.hid (transR_16 HOP.out R1.out ho)
    clear ho
    go_wp2_with (first | (refine wpList_load_mid rfl _ _ rfl _ _ rfl (cellsR r1) _ HRG1.out Tryd.underlying27 rfl (hi3 R1.out.len) ?_) | (go_at_call 20; refine HTR.out.mono ?_; rintro e w1 ⟨rfl, hb1⟩; unfold outR) | (refine wpList_store_row rfl 27 (.tmp 6) (.tmp 33) rfl V0.heap.size (cellsR r2).toArray rfl rfl 27 _ (KY.out.keep hb1) (hi4 R2.out.len) (hi6 R2.out.len R1.out.len) (cellsR_one r2) ?_))
    go_roundw
    case rel => exact ⟨j + 1, r2, by omega, by go_num, by first | rfl | trivial, HN.out, R2.out, below_setRow (BVY.out.trans (hb1.mono (by omega))) (Nat.le_refl _) _, RBox.row (KY.out.keep hb1)⟩
    case measure => simp [intOf]; omega
  ·obtain rfl : j = m := by omega
   have dl : decide ((j : Int) < (j : Int)) = false := by simp
   have HN := Lib.hid (show runR b.code r = some r1 by rw [← HRUN.out, ← HM.out, List.drop_length]; rfl)
   have HRG1 := Lib.hid KR.out.range
   have KZW := Lib.hid (show RBox wr w.heap.size 27 zeroR from ((HB.out.block _ (by have := S0.out; omega)).trans KZ.out))
   go_wp2_with (first | (refine wpList_load_mid rfl _ _ rfl _ _ rfl (cellsR r1) _ HRG1.out Tryd.underlying27 rfl (hi3 R1.out.len) ?_) | (refine wpList_store_row rfl 27 (.tmp 4) (.tmp 39) rfl w.heap.size (cellsR r1).toArray rfl rfl 27 _ KZW.out (hi4 R1.out.len) (hi6 R1.out.len zero16) (cellsR_one r1) ?_))
   refine bodyPost_ret (results_out Tryd.results44 _ w.heap.size R1.out.len rfl (RBox.row KZW.out)) rfl ⟨?_, ?_⟩
   ·rw [HR.out, HN.out]; rfl
   ·exact below_setRow (B0.out.trans (HB.out.mono B0.out.size)) (Nat.le_refl _) _

end Go.Proofs.YtebklpnkcicpjaaDoor


