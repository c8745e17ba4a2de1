/-
  What is proved here: parts aEd.
-/
import Derived.Test.YtlmgkipmfgijiaaGreatDoorYa
import Derived.Test.YtlmgkipmfgijiaaGreatDoorYj
import Derived.Test.YtlmgkipmfgijiaaGreatDoorYi
import Derived.BigRegion
namespace Go.Proofs.YtlmgkipmfgijiaaGreatDoor
set_option linter.unusedVariables false
set_option linter.unusedSimpArgs false
set_option maxRecDepth 100000
set_option maxHeartbeats 8000000
section
open Go.RowKit
theorem iU (w : World) (cA cB : Array Value) (tA tB : TypeId) : ∃ V, (w.alloc (.cells cA tA)).alloc (.cells cB tB) = V ∧ V.heap[w.heap.size]? = some (.cells cA tA (0, 0)) ∧ V.heap[w.heap.size + 1]? = some (.cells cB tB (0, 0)) ∧ Below w.heap.size w V ∧ V.heap.size = w.heap.size + 1 + 1 := by
 refine ⟨_, rfl, ?_, aG _ _ agT, ((Below.refl _ _).alloc (Nat.le_refl _) _).alloc agT _, by simp⟩
 rw [heap_alloc_old _ _ agT]; exact heap_alloc_new _ _
theorem An.last {V w : World} {ab cb rb ib pb : Nat} {bv pv : Value} {G : List aZ} {B : List AB} {val : Nat → Value} {s : AS} (h : An V w ab cb rb ib pb bv pv G B val s) {k : Nat} {b : AB} (hk : B[k]? = some b) (hne : b.code ≠ []) {i : Ins} (hi : b.last = i) :
  ∃ q cap, w.cell? ⟨cb, k, none⟩ = some (.slice (some ⟨q, 0, none⟩) b.code.length cap) ∧ b.code.length ≤ cap ∧ cap ≤ 2 ^ 63 - 1 ∧ q < w.heap.size ∧ w.cell? ⟨q, (b.code.length - 1) * 5, none⟩ = some (.int .u8 i.op) ∧ w.cell? ⟨q, (b.code.length - 1) * 5 + 1, none⟩ = some (.int .i64 i.a) ∧ w.cell? ⟨q, (b.code.length - 1) * 5 + 2, none⟩ = some (.int .i64 i.b) ∧ w.cell? ⟨q, (b.code.length - 1) * 5 + 3, none⟩ = some (.int .i64 i.c) ∧ w.cell? ⟨q, (b.code.length - 1) * 5 + 4, none⟩ = some (.int .i64 i.aP) := by
 obtain ⟨c, hc⟩ := h.code hk
 have hl : b.code.length - 1 < b.code.length := by have := List.length_pos_iff.2 hne; omega
 rcases hc with ⟨_, e⟩ | ⟨q, cap, e1, e2, e3, e4, e5⟩
 ·exact absurd e hne
 ·refine ⟨q, cap, by rw [c, e1], e2, dY e3, e4, e5 _ i ?_⟩
  rw [← hi]
  unfold AB.last
  simp [List.getD, List.getElem?_eq_getElem hl]
theorem An.next {V w : World} {ab cb rb ib pb : Nat} {bv pv : Value} {G : List aZ} {B : List AB} {val : Nat → Value} {s : AS} (h : An V w ab cb rb ib pb bv pv G B val s) {k : Nat} {b : AB} (hk : B[k]? = some b) :
  ∃ g off cap nA cY, bv = .slice (some ⟨g, off, none⟩) B.length cap ∧ B.length ≤ cap ∧ cap ≤ 2 ^ 63 - 1 ∧ g < w.heap.size ∧ w.cell? ⟨g, off + k * 3 + 2, none⟩ = some (.slice nA b.nx.length cY) ∧ b.nx.length ≤ cY ∧ cY ≤ 2 ^ 63 - 1 ∧ Ints w (.slice nA b.nx.length cY) b.nx := by
 have hkl := (List.getElem?_eq_some_iff.1 hk).1
 have WT := h.lG
 obtain ⟨A, cap, h1, h2, h3, h4⟩ := h.Oy.below h.aC
 obtain ⟨g, off, rfl, hg, hc⟩ := h4 agO
 obtain ⟨x, hx⟩ : ∃ x, G[k]? = some x := ⟨_, List.getElem?_eq_getElem agO⟩
 obtain ⟨_, _, nv, c2, hn⟩ := hc k x hx
 have e := h.Xy k x b hx hk
 rw [e] at hn
 obtain ⟨nA, cY, rfl, n2, n3⟩ := ints_at hn
 rw [WT] at h1 h2
 exact ⟨g, off, cap, nA, cY, h1, h2, dY h3, hg, c2, n2, dY n3, hn⟩
theorem Ah {V w : World} {ab cb rb ib pb : Nat} {bv pv : Value} {G : List aZ} {B : List AB} {val : Nat → Value} {s : AS} (h : An V w ab cb rb ib pb bv pv G B val s) {k : Nat} {bl : AB} (hk : B[k]? = some bl) (hne : bl.code ≠ []) (eV : bl.nx.length ≤ 1000) (op a b c im : Int) (h0' : 0 ≤ op) (fY : bl.last = ⟨op, a, b, c, im⟩) (hop : op ≠ 22 ∧ op ≠ 23) (j : Nat) (bk : RG) (h16 : R16 bk) (T : gL w) :
  Calls Tryz.prog 88 #[.pointer (some ⟨ab, 0, none⟩), .int .i64 (k : Int), .int .i64 (j : Int), .agg (aa bk).toArray] w fun e w' => e = .returned (dy (some bk)) ∧ Below w.heap.size w w' := by
 have e1 : (op != 22) = true := by simp [bne_iff_ne]; omega
 have e2 : (op != 23) = true := by simp [bne_iff_ne]; omega
 clear hop
 have hkl := (List.getElem?_eq_some_iff.1 hk).1
 have yP := h.lB
 obtain ⟨V0, gl, kx, kz, b0, s0⟩ := iU w (aa bk).toArray ahV.toArray 174 174
 have h0 := h.below b0
 obtain ⟨l1, l2, l3, l4, l5⟩ := h0.lt
 obtain ⟨c0, c2, -, -, -⟩ := h0.cells
 have dk : (k : Int) < (B.length : Int) := by omega
 obtain ⟨q, cap, x2, cV, Hj, Mr, i0, i1, i2, i3, i4⟩ := h0.last hk hne fY
 obtain ⟨g, off, aW, nA, cY, mH, g1, g2, g3, nc, n1, n2, n3⟩ := h0.next hk
 have hm1 : 1 ≤ bl.code.length := List.length_pos_iff.2 hne
 have hnl : bl.nx.length ≤ 1000000 := by have := eV; omega
 obtain ⟨n, hn⟩ : ∃ n, B.length = n := ⟨_, rfl⟩
 obtain ⟨m, hm⟩ : ∃ m, bl.code.length = m := ⟨_, rfl⟩
 obtain ⟨u, hu⟩ : ∃ u, bl.nx.length = u := ⟨_, rfl⟩
 rw [mH] at c0
 rw [hn] at c0 c2 dk yP g1
 rw [hm] at x2 cV i0 i1 i2 i3 i4 hm1
 rw [hu] at nc n1 n3 hnl
 simp only at i0 i1 i2 i3 i4
 have dm : IntKind.i64.wrap ((m : Int) - 1) = ((m - 1 : Nat) : Int) := by
  rw [IntWalk.i64_in _ agO]; omega
 have dm2 : ((m - 1 : Nat) : Int) < (m : Int) := by omega
 have KX := ahM (show aN V0 w.heap.size 174 bk from kx)
 have KZ := ahM (show aN V0 (w.heap.size + 1) 174 aA from kz)
 have B0 := ahM b0
 have S0 := ahM s0
 have HU := ahM hu
 have HT := ahM (T.below b0)
 have gy := ahM h16
 clear h hk hne T h0 kx kz b0 s0 hkl mH n3 hu hm hn h16 fY eV
 go_enter Tryz.func88, Tryz.ntmps88
 go_upto_region 1 with fail
 clear gl
 go_cut [10] from 15 to 32 (fun a10 wx => ∃ jh, a10 = .pointer (some ⟨jh, 0, none⟩) ∧ wx.heap[jh]? = some (.cells #[.int .u8 op, .int .i64 a, .int .i64 b, .int .i64 c, .int .i64 im] 67 (0, 0)) ∧ Below V0.heap.size V0 wx)
 case first =>
  go_region
  all_goals
   go_wp2_with fail
   go_meet
   case rel =>
    exact ⟨_, rfl, heap_alloc_new _ _, (Below.drew (Below.refl _ _)).alloc (Nat.le_refl _) _⟩
 obtain ⟨jh, rfl, Bo, bY⟩ := hcut
 obtain ⟨Y, hY⟩ : ∃ Y : World, Y = wc := ⟨_, rfl⟩
 subst hY
 obtain ⟨z0, z1, z2, z3, z4, lY⟩ := bL Bo
 have BY := ahM (B0.out.trans (bY.mono B0.out.size))
 have Qo := ahM bY
 have wI := ahM (KX.out.keep bY)
 have pE := ahM (KZ.out.keep bY)
 have ER := ahM (HT.out.below bY)
 have kH := ahM wI.out.range
 have w1 : ab < Y.heap.size := by have := bY.size; omega
 have w2 : g < Y.heap.size := by have := bY.size; omega
 have lw : w.heap.size < Y.heap.size := wI.out.lt
 have lw1 : w.heap.size + 1 < Y.heap.size := pE.out.lt
 have y0 : Y.cell? ⟨ab, 0, none⟩ = _ := (bY.cell (p := ⟨ab, 0, none⟩) l1).trans c0
 have y1 : Y.cell? ⟨g, off + k * 3 + 2, none⟩ = _ := (bY.cell (p := ⟨g, off + k * 3 + 2, none⟩) g3).trans nc
 clear bY Bo c0 c2 nc x2 i0 i1 i2 i3 i4
 go_wp2_with (first | (refine wpList_load_mid rfl _ _ rfl _ _ rfl (aa bk) _ kH.out Tryz.underlying174 rfl (hi3 gy.out.len) ?_) | (refine wpList_store_row rfl 174 (.tmp 8) (.tmp 41) rfl (w.heap.size + 1) (aa bk).toArray rfl rfl 174 _ pE.out (hi4 gy.out.len) (hi6 gy.out.len aF) (ay bk) ?_))
 refine bodyPost_ret (bz Tryz.results88 _ (w.heap.size + 1) gy.out.len rfl (aN.row pE.out)) rfl ⟨?_, ?_⟩
 ·rfl
 ·exact below_setRow BY.out agO _
theorem Ag {V w : World} {ab cb rb ib pb : Nat} {bv pv : Value} {G : List aZ} {B : List AB} {val : Nat → Value} {s : AS} (h : An V w ab cb rb ib pb bv pv G B val s) {k : Nat} {bl : AB} (hk : B[k]? = some bl) (hne : bl.code ≠ []) (eV : bl.nx.length ≤ 1000) (op a b c im : Int) (h0' : 0 ≤ op) (fY : bl.last = ⟨op, a, b, c, im⟩) (hop : op = 22) (j : Nat) (hu2 : bl.nx.length = 2) (bk : RG) (h16 : R16 bk) (T : gL w) :
  Calls Tryz.prog 88 #[.pointer (some ⟨ab, 0, none⟩), .int .i64 (k : Int), .int .i64 (j : Int), .agg (aa bk).toArray] w fun e w' => e = .returned (dy (eZ ⟨op, a, b, c, im⟩ bk (decide (j = 1)))) ∧ Below w.heap.size w w' := by
 subst hop
 have hkl := (List.getElem?_eq_some_iff.1 hk).1
 have yP := h.lB
 obtain ⟨V0, gl, kx, kz, b0, s0⟩ := iU w (aa bk).toArray ahV.toArray 174 174
 have h0 := h.below b0
 obtain ⟨l1, l2, l3, l4, l5⟩ := h0.lt
 obtain ⟨c0, c2, -, -, -⟩ := h0.cells
 have dk : (k : Int) < (B.length : Int) := by omega
 obtain ⟨q, cap, x2, cV, Hj, Mr, i0, i1, i2, i3, i4⟩ := h0.last hk hne fY
 obtain ⟨g, off, aW, nA, cY, mH, g1, g2, g3, nc, n1, n2, n3⟩ := h0.next hk
 have hm1 : 1 ≤ bl.code.length := List.length_pos_iff.2 hne
 have hnl : bl.nx.length ≤ 1000000 := by have := eV; omega
 obtain ⟨n, hn⟩ : ∃ n, B.length = n := ⟨_, rfl⟩
 obtain ⟨m, hm⟩ : ∃ m, bl.code.length = m := ⟨_, rfl⟩
 obtain ⟨u, hu⟩ : ∃ u, bl.nx.length = u := ⟨_, rfl⟩
 rw [mH] at c0
 rw [hn] at c0 c2 dk yP g1
 rw [hm] at x2 cV i0 i1 i2 i3 i4 hm1
 rw [hu] at nc n1 n3 hnl
 simp only at i0 i1 i2 i3 i4
 have dm : IntKind.i64.wrap ((m : Int) - 1) = ((m - 1 : Nat) : Int) := by
  rw [IntWalk.i64_in _ agO]; omega
 have dm2 : ((m - 1 : Nat) : Int) < (m : Int) := by omega
 have KX := ahM (show aN V0 w.heap.size 174 bk from kx)
 have KZ := ahM (show aN V0 (w.heap.size + 1) 174 aA from kz)
 have B0 := ahM b0
 have S0 := ahM s0
 have HU := ahM hu
 have HT := ahM (T.below b0)
 have gy := ahM h16
 clear h hk hne T h0 kx kz b0 s0 hkl mH n3 hu hm hn h16 fY eV
 go_enter Tryz.func88, Tryz.ntmps88
 go_upto_region 1 with fail
 clear gl
 go_cut [10] from 15 to 32 (fun a10 wx => ∃ jh, a10 = .pointer (some ⟨jh, 0, none⟩) ∧ wx.heap[jh]? = some (.cells #[.int .u8 22, .int .i64 a, .int .i64 b, .int .i64 c, .int .i64 im] 67 (0, 0)) ∧ Below V0.heap.size V0 wx)
 case first =>
  go_region
  all_goals
   go_wp2_with fail
   go_meet
   case rel =>
    exact ⟨_, rfl, heap_alloc_new _ _, (Below.drew (Below.refl _ _)).alloc (Nat.le_refl _) _⟩
 obtain ⟨jh, rfl, Bo, bY⟩ := hcut
 obtain ⟨Y, hY⟩ : ∃ Y : World, Y = wc := ⟨_, rfl⟩
 subst hY
 obtain ⟨z0, z1, z2, z3, z4, lY⟩ := bL Bo
 have BY := ahM (B0.out.trans (bY.mono B0.out.size))
 have Qo := ahM bY
 have wI := ahM (KX.out.keep bY)
 have pE := ahM (KZ.out.keep bY)
 have ER := ahM (HT.out.below bY)
 have kH := ahM wI.out.range
 have w1 : ab < Y.heap.size := by have := bY.size; omega
 have w2 : g < Y.heap.size := by have := bY.size; omega
 have lw : w.heap.size < Y.heap.size := wI.out.lt
 have lw1 : w.heap.size + 1 < Y.heap.size := pE.out.lt
 have y0 : Y.cell? ⟨ab, 0, none⟩ = _ := (bY.cell (p := ⟨ab, 0, none⟩) l1).trans c0
 have y1 : Y.cell? ⟨g, off + k * 3 + 2, none⟩ = _ := (bY.cell (p := ⟨g, off + k * 3 + 2, none⟩) g3).trans nc
 clear bY Bo c0 c2 nc x2 i0 i1 i2 i3 i4
 have du : ((u : Int) == 2) = true := by have := HU.out; rw [hu2] at this; rw [← this]; rfl
 obtain ⟨tk, lf⟩ : ∃ tk, ((j : Int) == 1) = tk := ⟨_, rfl⟩
 have nt := ahM (refine_any 22 a b c im h0' bk gy.out tk Y ER.out)
 have HJ := ahM (show decide (j = 1) = tk by rw [← lf, Bool.eq_iff_iff, decide_eq_true_eq, beq_iff_eq]; omega)
 rcases ho : eZ ⟨22, a, b, c, im⟩ bk tk with _ | r2
 ·rw [ho] at nt
  have HN := ahM ho
  clear ho
  go_wp2_with (first | (refine wpList_load_mid rfl _ _ rfl _ _ rfl (aa bk) _ kH.out Tryz.underlying174 rfl (hi3 gy.out.len) ?_) | (go_at_call 108; refine nt.out.mono ?_; rintro e w3 ⟨rfl, hb3⟩; unfold dy) | (refine wpList_store_row rfl 174 (.tmp 8) (.tmp 58) rfl (w.heap.size + 1) (aa aA).toArray rfl rfl 174 _ (pE.out.keep hb3) (hi4 aF) (hi6 aF aF) (ay aA) ?_))
  refine bodyPost_ret (bz Tryz.results88 _ (w.heap.size + 1) aF rfl (aN.row (pE.out.keep hb3))) rfl ⟨?_, ?_⟩
  ·rw [HJ.out, HN.out]; rfl
  ·exact below_setRow (BY.out.trans (hb3.mono BY.out.size)) agO _
 ·rw [ho] at nt
  have HN := ahM ho
  have R2 := ahM (dW gy.out ho)
  clear ho
  go_wp2_with (first | (refine wpList_load_mid rfl _ _ rfl _ _ rfl (aa bk) _ kH.out Tryz.underlying174 rfl (hi3 gy.out.len) ?_) | (go_at_call 108; refine nt.out.mono ?_; rintro e w3 ⟨rfl, hb3⟩; unfold dy) | (refine wpList_store_row rfl 174 (.tmp 8) (.tmp 58) rfl (w.heap.size + 1) (aa r2).toArray rfl rfl 174 _ (pE.out.keep hb3) (hi4 R2.out.len) (hi6 R2.out.len aF) (ay r2) ?_))
  refine bodyPost_ret (bz Tryz.results88 _ (w.heap.size + 1) R2.out.len rfl (aN.row (pE.out.keep hb3))) rfl ⟨?_, ?_⟩
  ·rw [HJ.out, HN.out]; rfl
  ·exact below_setRow (BY.out.trans (hb3.mono BY.out.size)) agO _
theorem Af {V w : World} {ab cb rb ib pb : Nat} {bv pv : Value} {G : List aZ} {B : List AB} {val : Nat → Value} {s : AS} (h : An V w ab cb rb ib pb bv pv G B val s) {k : Nat} {bl : AB} (hk : B[k]? = some bl) (hne : bl.code ≠ []) (eV : bl.nx.length ≤ 1000) (op a b c im : Int) (h0' : 0 ≤ op) (fY : bl.last = ⟨op, a, b, c, im⟩) (hop : op = 23) (j : Nat) (hu2 : bl.nx.length = 2) (bk : RG) (h16 : R16 bk) (T : gL w) :
  Calls Tryz.prog 88 #[.pointer (some ⟨ab, 0, none⟩), .int .i64 (k : Int), .int .i64 (j : Int), .agg (aa bk).toArray] w fun e w' => e = .returned (dy (eZ ⟨op, a, b, c, im⟩ bk (decide (j = 1)))) ∧ Below w.heap.size w w' := by
 subst hop
 have hkl := (List.getElem?_eq_some_iff.1 hk).1
 have yP := h.lB
 obtain ⟨V0, gl, kx, kz, b0, s0⟩ := iU w (aa bk).toArray ahV.toArray 174 174
 have h0 := h.below b0
 obtain ⟨l1, l2, l3, l4, l5⟩ := h0.lt
 obtain ⟨c0, c2, -, -, -⟩ := h0.cells
 have dk : (k : Int) < (B.length : Int) := by omega
 obtain ⟨q, cap, x2, cV, Hj, Mr, i0, i1, i2, i3, i4⟩ := h0.last hk hne fY
 obtain ⟨g, off, aW, nA, cY, mH, g1, g2, g3, nc, n1, n2, n3⟩ := h0.next hk
 have hm1 : 1 ≤ bl.code.length := List.length_pos_iff.2 hne
 have hnl : bl.nx.length ≤ 1000000 := by have := eV; omega
 obtain ⟨n, hn⟩ : ∃ n, B.length = n := ⟨_, rfl⟩
 obtain ⟨m, hm⟩ : ∃ m, bl.code.length = m := ⟨_, rfl⟩
 obtain ⟨u, hu⟩ : ∃ u, bl.nx.length = u := ⟨_, rfl⟩
 rw [mH] at c0
 rw [hn] at c0 c2 dk yP g1
 rw [hm] at x2 cV i0 i1 i2 i3 i4 hm1
 rw [hu] at nc n1 n3 hnl
 simp only at i0 i1 i2 i3 i4
 have dm : IntKind.i64.wrap ((m : Int) - 1) = ((m - 1 : Nat) : Int) := by
  rw [IntWalk.i64_in _ agO]; omega
 have dm2 : ((m - 1 : Nat) : Int) < (m : Int) := by omega
 have KX := ahM (show aN V0 w.heap.size 174 bk from kx)
 have KZ := ahM (show aN V0 (w.heap.size + 1) 174 aA from kz)
 have B0 := ahM b0
 have S0 := ahM s0
 have HU := ahM hu
 have HT := ahM (T.below b0)
 have gy := ahM h16
 clear h hk hne T h0 kx kz b0 s0 hkl mH n3 hu hm hn h16 fY eV
 go_enter Tryz.func88, Tryz.ntmps88
 go_upto_region 1 with fail
 clear gl
 go_cut [10] from 15 to 32 (fun a10 wx => ∃ jh, a10 = .pointer (some ⟨jh, 0, none⟩) ∧ wx.heap[jh]? = some (.cells #[.int .u8 23, .int .i64 a, .int .i64 b, .int .i64 c, .int .i64 im] 67 (0, 0)) ∧ Below V0.heap.size V0 wx)
 case first =>
  go_region
  all_goals
   go_wp2_with fail
   go_meet
   case rel =>
    exact ⟨_, rfl, heap_alloc_new _ _, (Below.drew (Below.refl _ _)).alloc (Nat.le_refl _) _⟩
 obtain ⟨jh, rfl, Bo, bY⟩ := hcut
 obtain ⟨Y, hY⟩ : ∃ Y : World, Y = wc := ⟨_, rfl⟩
 subst hY
 obtain ⟨z0, z1, z2, z3, z4, lY⟩ := bL Bo
 have BY := ahM (B0.out.trans (bY.mono B0.out.size))
 have Qo := ahM bY
 have wI := ahM (KX.out.keep bY)
 have pE := ahM (KZ.out.keep bY)
 have ER := ahM (HT.out.below bY)
 have kH := ahM wI.out.range
 have w1 : ab < Y.heap.size := by have := bY.size; omega
 have w2 : g < Y.heap.size := by have := bY.size; omega
 have lw : w.heap.size < Y.heap.size := wI.out.lt
 have lw1 : w.heap.size + 1 < Y.heap.size := pE.out.lt
 have y0 : Y.cell? ⟨ab, 0, none⟩ = _ := (bY.cell (p := ⟨ab, 0, none⟩) l1).trans c0
 have y1 : Y.cell? ⟨g, off + k * 3 + 2, none⟩ = _ := (bY.cell (p := ⟨g, off + k * 3 + 2, none⟩) g3).trans nc
 clear bY Bo c0 c2 nc x2 i0 i1 i2 i3 i4
 have du : ((u : Int) == 2) = true := by have := HU.out; rw [hu2] at this; rw [← this]; rfl
 obtain ⟨tk, lf⟩ : ∃ tk, ((j : Int) == 1) = tk := ⟨_, rfl⟩
 have nt := ahM (refine_any 23 a b c im h0' bk gy.out tk Y ER.out)
 have HJ := ahM (show decide (j = 1) = tk by rw [← lf, Bool.eq_iff_iff, decide_eq_true_eq, beq_iff_eq]; omega)
 rcases ho : eZ ⟨23, a, b, c, im⟩ bk tk with _ | r2
 ·rw [ho] at nt
  have HN := ahM ho
  clear ho
  go_wp2_with (first | (refine wpList_load_mid rfl _ _ rfl _ _ rfl (aa bk) _ kH.out Tryz.underlying174 rfl (hi3 gy.out.len) ?_) | (go_at_call 108; refine nt.out.mono ?_; rintro e w3 ⟨rfl, hb3⟩; unfold dy) | (refine wpList_store_row rfl 174 (.tmp 8) (.tmp 58) rfl (w.heap.size + 1) (aa aA).toArray rfl rfl 174 _ (pE.out.keep hb3) (hi4 aF) (hi6 aF aF) (ay aA) ?_))
  refine bodyPost_ret (bz Tryz.results88 _ (w.heap.size + 1) aF rfl (aN.row (pE.out.keep hb3))) rfl ⟨?_, ?_⟩
  ·rw [HJ.out, HN.out]; rfl
  ·exact below_setRow (BY.out.trans (hb3.mono BY.out.size)) agO _
 ·rw [ho] at nt
  have HN := ahM ho
  have R2 := ahM (dW gy.out ho)
  clear ho
  go_wp2_with (first | (refine wpList_load_mid rfl _ _ rfl _ _ rfl (aa bk) _ kH.out Tryz.underlying174 rfl (hi3 gy.out.len) ?_) | (go_at_call 108; refine nt.out.mono ?_; rintro e w3 ⟨rfl, hb3⟩; unfold dy) | (refine wpList_store_row rfl 174 (.tmp 8) (.tmp 58) rfl (w.heap.size + 1) (aa r2).toArray rfl rfl 174 _ (pE.out.keep hb3) (hi4 R2.out.len) (hi6 R2.out.len aF) (ay r2) ?_))
  refine bodyPost_ret (bz Tryz.results88 _ (w.heap.size + 1) R2.out.len rfl (aN.row (pE.out.keep hb3))) rfl ⟨?_, ?_⟩
  ·rw [HJ.out, HN.out]; rfl
  ·exact below_setRow (BY.out.trans (hb3.mono BY.out.size)) agO _
theorem Aj {V w : World} {ab cb rb ib pb : Nat} {bv pv : Value} {G : List aZ} {B : List AB} {val : Nat → Value} {s : AS} (h : An V w ab cb rb ib pb bv pv G B val s) {k : Nat} {bl : AB} (hk : B[k]? = some bl) (hne : bl.code ≠ []) (eV : bl.nx.length ≤ 1000) (op a b c im : Int) (h0' : 0 ≤ op) (fY : bl.last = ⟨op, a, b, c, im⟩) (hop : op = 22) (j : Nat) (hu2 : bl.nx.length ≠ 2) (bk : RG) (h16 : R16 bk) (T : gL w) :
  Calls Tryz.prog 88 #[.pointer (some ⟨ab, 0, none⟩), .int .i64 (k : Int), .int .i64 (j : Int), .agg (aa bk).toArray] w fun e w' => e = .returned (dy (dS bl.last bl.nx.length j bk)) ∧ Below w.heap.size w w' := by
 subst hop
 have zV := fY
 have hkl := (List.getElem?_eq_some_iff.1 hk).1
 have yP := h.lB
 obtain ⟨V0, gl, kx, kz, b0, s0⟩ := iU w (aa bk).toArray ahV.toArray 174 174
 have h0 := h.below b0
 obtain ⟨l1, l2, l3, l4, l5⟩ := h0.lt
 obtain ⟨c0, c2, -, -, -⟩ := h0.cells
 have dk : (k : Int) < (B.length : Int) := by omega
 obtain ⟨q, cap, x2, cV, Hj, Mr, i0, i1, i2, i3, i4⟩ := h0.last hk hne fY
 obtain ⟨g, off, aW, nA, cY, mH, g1, g2, g3, nc, n1, n2, n3⟩ := h0.next hk
 have hm1 : 1 ≤ bl.code.length := List.length_pos_iff.2 hne
 have hnl : bl.nx.length ≤ 1000000 := by have := eV; omega
 obtain ⟨n, hn⟩ : ∃ n, B.length = n := ⟨_, rfl⟩
 obtain ⟨m, hm⟩ : ∃ m, bl.code.length = m := ⟨_, rfl⟩
 obtain ⟨u, hu⟩ : ∃ u, bl.nx.length = u := ⟨_, rfl⟩
 rw [mH] at c0
 rw [hn] at c0 c2 dk yP g1
 rw [hm] at x2 cV i0 i1 i2 i3 i4 hm1
 rw [hu] at nc n1 n3 hnl
 simp only at i0 i1 i2 i3 i4
 have dm : IntKind.i64.wrap ((m : Int) - 1) = ((m - 1 : Nat) : Int) := by
  rw [IntWalk.i64_in _ agO]; omega
 have dm2 : ((m - 1 : Nat) : Int) < (m : Int) := by omega
 have KX := ahM (show aN V0 w.heap.size 174 bk from kx)
 have KZ := ahM (show aN V0 (w.heap.size + 1) 174 aA from kz)
 have B0 := ahM b0
 have S0 := ahM s0
 have HU := ahM hu
 have HT := ahM (T.below b0)
 have gy := ahM h16
 clear h hk hne T h0 kx kz b0 s0 hkl mH n3 hu hm hn h16 fY eV
 go_enter Tryz.func88, Tryz.ntmps88
 go_upto_region 1 with fail
 clear gl
 go_cut [10] from 15 to 32 (fun a10 wx => ∃ jh, a10 = .pointer (some ⟨jh, 0, none⟩) ∧ wx.heap[jh]? = some (.cells #[.int .u8 22, .int .i64 a, .int .i64 b, .int .i64 c, .int .i64 im] 67 (0, 0)) ∧ Below V0.heap.size V0 wx)
 case first =>
  go_region
  all_goals
   go_wp2_with fail
   go_meet
   case rel =>
    exact ⟨_, rfl, heap_alloc_new _ _, (Below.drew (Below.refl _ _)).alloc (Nat.le_refl _) _⟩
 obtain ⟨jh, rfl, Bo, bY⟩ := hcut
 obtain ⟨Y, hY⟩ : ∃ Y : World, Y = wc := ⟨_, rfl⟩
 subst hY
 obtain ⟨z0, z1, z2, z3, z4, lY⟩ := bL Bo
 have BY := ahM (B0.out.trans (bY.mono B0.out.size))
 have Qo := ahM bY
 have wI := ahM (KX.out.keep bY)
 have pE := ahM (KZ.out.keep bY)
 have ER := ahM (HT.out.below bY)
 have kH := ahM wI.out.range
 have w1 : ab < Y.heap.size := by have := bY.size; omega
 have w2 : g < Y.heap.size := by have := bY.size; omega
 have lw : w.heap.size < Y.heap.size := wI.out.lt
 have lw1 : w.heap.size + 1 < Y.heap.size := pE.out.lt
 have y0 : Y.cell? ⟨ab, 0, none⟩ = _ := (bY.cell (p := ⟨ab, 0, none⟩) l1).trans c0
 have y1 : Y.cell? ⟨g, off + k * 3 + 2, none⟩ = _ := (bY.cell (p := ⟨g, off + k * 3 + 2, none⟩) g3).trans nc
 clear bY Bo c0 c2 nc x2 i0 i1 i2 i3 i4
 have du : ((u : Int) == 2) = false := by have := HU.out; rw [beq_eq_false_iff_ne]; omega
 have sS := ahM (show ∀ x y, eZ ⟨22, a, b, c, im⟩ bk false = x → eZ ⟨22, a, b, c, im⟩ bk true = y → dS bl.last bl.nx.length j bk = match x, y with | none, y => y | some x, none => some x | some x, some y => some (bK x y) from fun x y hx hy => by
  unfold dS
  rw [zV, if_neg agT, if_neg hu2, hx, hy]
  rfl)
 have nt := ahM (refine_any 22 a b c im h0' bk gy.out false Y ER.out)
 rcases hx : eZ ⟨22, a, b, c, im⟩ bk false with _ | rx
 ·rw [hx] at nt
  have HX := ahM hx
  clear hx
  go_upto_region 7 with (first | (refine wpList_load_mid rfl _ _ rfl _ _ rfl (aa bk) _ kH.out Tryz.underlying174 rfl (hi3 gy.out.len) ?_) | (go_at_call 108; refine nt.out.mono ?_; rintro e w3 ⟨rfl, hb3⟩; unfold dy) | (refine wpList_store_row rfl 174 (.tmp 11) (.tmp 64) rfl w3.heap.size (aa aA).toArray rfl rfl 174 _ (heap_alloc_new _ _) (hi4 aF) (hi6 aF aF) (ay aA) ?_))
  obtain ⟨Y3, vJ⟩ : ∃ Y3, (w3.alloc (.cells ahV.toArray 174)).setRow w3.heap.size (aa aA).toArray = Y3 := ⟨_, rfl⟩
  rw [vJ]
  have b3 : Below w3.heap.size w3 Y3 := vJ ▸ below_setRow ((Below.refl _ _).alloc (Nat.le_refl _) _) (Nat.le_refl _) _
  have K3 := ahM (show aN Y3 w3.heap.size 174 aA from vJ ▸ aN.row (z := aA) (heap_alloc_new _ _))
  have iO : Below Y.heap.size Y Y3 := hb3.trans (b3.mono hb3.size)
  obtain ⟨q3, hq3⟩ : ∃ q3, w3.heap.size = q3 := ⟨_, rfl⟩
  rw [hq3] at K3
  rw [hq3]
  have OO := ahM (wI.out.keep iO)
  have Io := ahM (pE.out.keep iO)
  have sL := ahM OO.out.range
  have B3 := ahM (BY.out.trans (iO.mono BY.out.size))
  have L3 := ahM (show w.heap.size + 1 < q3 by have := hb3.size; omega)
  have s0 := (iO.cell (p := ⟨jh, 0, none⟩) lY).trans z0
  have s1 := (iO.cell (p := ⟨jh, 1, none⟩) lY).trans z1
  have s2 := (iO.cell (p := ⟨jh, 2, none⟩) lY).trans z2
  have s3 := (iO.cell (p := ⟨jh, 3, none⟩) lY).trans z3
  have s4 := (iO.cell (p := ⟨jh, 4, none⟩) lY).trans z4
  have VY : jh < Y3.heap.size := by have := iO.size; omega
  have j6 := ahM (refine_any 22 a b c im h0' bk gy.out true Y3 (ER.out.below iO))
  clear vJ b3 iO hq3 hb3
  rcases hy : eZ ⟨22, a, b, c, im⟩ bk true with _ | ry
  ·rw [hy] at j6
   have HY := ahM (sS.out _ _ HX.out hy)
   clear hy
   go_upto_region 8 with (first | (refine wpList_load_mid rfl _ _ rfl _ _ rfl (aa bk) _ sL.out Tryz.underlying174 rfl (hi3 gy.out.len) ?_) | (go_at_call 108; refine j6.out.mono ?_; rintro e w4 ⟨rfl, hb4⟩; unfold dy) | (refine wpList_store_row rfl 174 (.tmp 13) (.tmp 70) rfl w4.heap.size (aa aA).toArray rfl rfl 174 _ (heap_alloc_new _ _) (hi4 aF) (hi6 aF aF) (ay aA) ?_))
   obtain ⟨Y4, jS⟩ : ∃ Y4, (w4.alloc (.cells ahV.toArray 174)).setRow w4.heap.size (aa aA).toArray = Y4 := ⟨_, rfl⟩
   rw [jS]
   have b4 : Below w4.heap.size w4 Y4 := jS ▸ below_setRow ((Below.refl _ _).alloc (Nat.le_refl _) _) (Nat.le_refl _) _
   have K4 := ahM (show aN Y4 w4.heap.size 174 aA from jS ▸ aN.row (z := aA) (heap_alloc_new _ _))
   have jX : Below Y3.heap.size Y3 Y4 := hb4.trans (b4.mono hb4.size)
   have A0 := ahM (K3.out.keep jX)
   have ou := ahM A0.out.range
   have yT := ahM K4.out.range
   have sJ := ahM (Io.out.keep jX)
   have B4 := ahM (B3.out.trans (jX.mono B3.out.size))
   clear jS b4 jX hb4
   go_wp2_with (first | (refine wpList_load_mid rfl _ _ rfl _ _ rfl (aa aA) _ yT.out Tryz.underlying174 rfl (hi3 aF) ?_) | (refine wpList_store_row rfl 174 (.tmp 8) (.tmp 75) rfl (w.heap.size + 1) (aa aA).toArray rfl rfl 174 _ sJ.out (hi4 aF) (hi6 aF aF) (ay aA) ?_))
   refine bodyPost_ret (bz Tryz.results88 _ (w.heap.size + 1) aF rfl (aN.row sJ.out)) rfl ⟨?_, below_setRow B4.out agO _⟩
   rw [HY.out]; rfl
  ·rw [hy] at j6
   have HY := ahM (sS.out _ _ HX.out hy)
   have RY := ahM (dW gy.out hy)
   clear hy
   go_upto_region 8 with (first | (refine wpList_load_mid rfl _ _ rfl _ _ rfl (aa bk) _ sL.out Tryz.underlying174 rfl (hi3 gy.out.len) ?_) | (go_at_call 108; refine j6.out.mono ?_; rintro e w4 ⟨rfl, hb4⟩; unfold dy) | (refine wpList_store_row rfl 174 (.tmp 13) (.tmp 70) rfl w4.heap.size (aa ry).toArray rfl rfl 174 _ (heap_alloc_new _ _) (hi4 RY.out.len) (hi6 RY.out.len aF) (ay ry) ?_))
   obtain ⟨Y4, jS⟩ : ∃ Y4, (w4.alloc (.cells ahV.toArray 174)).setRow w4.heap.size (aa ry).toArray = Y4 := ⟨_, rfl⟩
   rw [jS]
   have b4 : Below w4.heap.size w4 Y4 := jS ▸ below_setRow ((Below.refl _ _).alloc (Nat.le_refl _) _) (Nat.le_refl _) _
   have K4 := ahM (show aN Y4 w4.heap.size 174 ry from jS ▸ aN.row (z := aA) (heap_alloc_new _ _))
   have jX : Below Y3.heap.size Y3 Y4 := hb4.trans (b4.mono hb4.size)
   have A0 := ahM (K3.out.keep jX)
   have ou := ahM A0.out.range
   have yT := ahM K4.out.range
   have sJ := ahM (Io.out.keep jX)
   have B4 := ahM (B3.out.trans (jX.mono B3.out.size))
   clear jS b4 jX hb4
   go_wp2_with (first | (refine wpList_load_mid rfl _ _ rfl _ _ rfl (aa ry) _ yT.out Tryz.underlying174 rfl (hi3 RY.out.len) ?_) | (refine wpList_store_row rfl 174 (.tmp 8) (.tmp 75) rfl (w.heap.size + 1) (aa ry).toArray rfl rfl 174 _ sJ.out (hi4 RY.out.len) (hi6 RY.out.len aF) (ay ry) ?_))
   refine bodyPost_ret (bz Tryz.results88 _ (w.heap.size + 1) RY.out.len rfl (aN.row sJ.out)) rfl ⟨?_, below_setRow B4.out agO _⟩
   rw [HY.out]; rfl
 ·rw [hx] at nt
  have HX := ahM hx
  have RX := ahM (dW gy.out hx)
  clear hx
  go_upto_region 7 with (first | (refine wpList_load_mid rfl _ _ rfl _ _ rfl (aa bk) _ kH.out Tryz.underlying174 rfl (hi3 gy.out.len) ?_) | (go_at_call 108; refine nt.out.mono ?_; rintro e w3 ⟨rfl, hb3⟩; unfold dy) | (refine wpList_store_row rfl 174 (.tmp 11) (.tmp 64) rfl w3.heap.size (aa rx).toArray rfl rfl 174 _ (heap_alloc_new _ _) (hi4 RX.out.len) (hi6 RX.out.len aF) (ay rx) ?_))
  obtain ⟨Y3, vJ⟩ : ∃ Y3, (w3.alloc (.cells ahV.toArray 174)).setRow w3.heap.size (aa rx).toArray = Y3 := ⟨_, rfl⟩
  rw [vJ]
  have b3 : Below w3.heap.size w3 Y3 := vJ ▸ below_setRow ((Below.refl _ _).alloc (Nat.le_refl _) _) (Nat.le_refl _) _
  have K3 := ahM (show aN Y3 w3.heap.size 174 rx from vJ ▸ aN.row (z := aA) (heap_alloc_new _ _))
  have iO : Below Y.heap.size Y Y3 := hb3.trans (b3.mono hb3.size)
  obtain ⟨q3, hq3⟩ : ∃ q3, w3.heap.size = q3 := ⟨_, rfl⟩
  rw [hq3] at K3
  rw [hq3]
  have OO := ahM (wI.out.keep iO)
  have Io := ahM (pE.out.keep iO)
  have sL := ahM OO.out.range
  have B3 := ahM (BY.out.trans (iO.mono BY.out.size))
  have L3 := ahM (show w.heap.size + 1 < q3 by have := hb3.size; omega)
  have s0 := (iO.cell (p := ⟨jh, 0, none⟩) lY).trans z0
  have s1 := (iO.cell (p := ⟨jh, 1, none⟩) lY).trans z1
  have s2 := (iO.cell (p := ⟨jh, 2, none⟩) lY).trans z2
  have s3 := (iO.cell (p := ⟨jh, 3, none⟩) lY).trans z3
  have s4 := (iO.cell (p := ⟨jh, 4, none⟩) lY).trans z4
  have VY : jh < Y3.heap.size := by have := iO.size; omega
  have j6 := ahM (refine_any 22 a b c im h0' bk gy.out true Y3 (ER.out.below iO))
  clear vJ b3 iO hq3 hb3
  rcases hy : eZ ⟨22, a, b, c, im⟩ bk true with _ | ry
  ·rw [hy] at j6
   have HY := ahM (sS.out _ _ HX.out hy)
   clear hy
   go_upto_region 8 with (first | (refine wpList_load_mid rfl _ _ rfl _ _ rfl (aa bk) _ sL.out Tryz.underlying174 rfl (hi3 gy.out.len) ?_) | (go_at_call 108; refine j6.out.mono ?_; rintro e w4 ⟨rfl, hb4⟩; unfold dy) | (refine wpList_store_row rfl 174 (.tmp 13) (.tmp 70) rfl w4.heap.size (aa aA).toArray rfl rfl 174 _ (heap_alloc_new _ _) (hi4 aF) (hi6 aF aF) (ay aA) ?_))
   obtain ⟨Y4, jS⟩ : ∃ Y4, (w4.alloc (.cells ahV.toArray 174)).setRow w4.heap.size (aa aA).toArray = Y4 := ⟨_, rfl⟩
   rw [jS]
   have b4 : Below w4.heap.size w4 Y4 := jS ▸ below_setRow ((Below.refl _ _).alloc (Nat.le_refl _) _) (Nat.le_refl _) _
   have K4 := ahM (show aN Y4 w4.heap.size 174 aA from jS ▸ aN.row (z := aA) (heap_alloc_new _ _))
   have jX : Below Y3.heap.size Y3 Y4 := hb4.trans (b4.mono hb4.size)
   have A0 := ahM (K3.out.keep jX)
   have ou := ahM A0.out.range
   have yT := ahM K4.out.range
   have sJ := ahM (Io.out.keep jX)
   have B4 := ahM (B3.out.trans (jX.mono B3.out.size))
   clear jS b4 jX hb4
   go_wp2_with (first | (refine wpList_load_mid rfl _ _ rfl _ _ rfl (aa rx) _ ou.out Tryz.underlying174 rfl (hi3 RX.out.len) ?_) | (refine wpList_store_row rfl 174 (.tmp 8) (.tmp 80) rfl (w.heap.size + 1) (aa rx).toArray rfl rfl 174 _ sJ.out (hi4 RX.out.len) (hi6 RX.out.len aF) (ay rx) ?_))
   refine bodyPost_ret (bz Tryz.results88 _ (w.heap.size + 1) RX.out.len rfl (aN.row sJ.out)) rfl ⟨?_, below_setRow B4.out agO _⟩
   rw [HY.out]; rfl
  ·rw [hy] at j6
   have HY := ahM (sS.out _ _ HX.out hy)
   have RY := ahM (dW gy.out hy)
   clear hy
   go_upto_region 8 with (first | (refine wpList_load_mid rfl _ _ rfl _ _ rfl (aa bk) _ sL.out Tryz.underlying174 rfl (hi3 gy.out.len) ?_) | (go_at_call 108; refine j6.out.mono ?_; rintro e w4 ⟨rfl, hb4⟩; unfold dy) | (refine wpList_store_row rfl 174 (.tmp 13) (.tmp 70) rfl w4.heap.size (aa ry).toArray rfl rfl 174 _ (heap_alloc_new _ _) (hi4 RY.out.len) (hi6 RY.out.len aF) (ay ry) ?_))
   obtain ⟨Y4, jS⟩ : ∃ Y4, (w4.alloc (.cells ahV.toArray 174)).setRow w4.heap.size (aa ry).toArray = Y4 := ⟨_, rfl⟩
   rw [jS]
   have b4 : Below w4.heap.size w4 Y4 := jS ▸ below_setRow ((Below.refl _ _).alloc (Nat.le_refl _) _) (Nat.le_refl _) _
   have K4 := ahM (show aN Y4 w4.heap.size 174 ry from jS ▸ aN.row (z := aA) (heap_alloc_new _ _))
   have jX : Below Y3.heap.size Y3 Y4 := hb4.trans (b4.mono hb4.size)
   have A0 := ahM (K3.out.keep jX)
   have ou := ahM A0.out.range
   have yT := ahM K4.out.range
   have sJ := ahM (Io.out.keep jX)
   have B4 := ahM (B3.out.trans (jX.mono B3.out.size))
   clear jS b4 jX hb4
   have M4 := ahM (ja 105 bC (fun _ _ => by kernel_rfl) rL rx ry RX.out.len RY.out.len Y4)
   have RJ := ahM (RX.out.join RY.out)
   go_wp2_with (first | (refine wpList_load_mid rfl _ _ rfl _ _ rfl (aa rx) _ ou.out Tryz.underlying174 rfl (hi3 RX.out.len) ?_) | (refine wpList_load_mid rfl _ _ rfl _ _ rfl (aa ry) _ yT.out Tryz.underlying174 rfl (hi3 RY.out.len) ?_) | (go_at_call 104; refine M4.out.mono ?_; rintro e w5 ⟨rfl, hb5⟩) | (refine wpList_store_row rfl 174 (.tmp 8) (.tmp 84) rfl (w.heap.size + 1) (aa (bK rx ry)).toArray rfl rfl 174 _ (sJ.out.keep hb5) (hi4 RJ.out.len) (hi6 RJ.out.len aF) (ay (bK rx ry)) ?_))
   refine bodyPost_ret (bz Tryz.results88 _ (w.heap.size + 1) RJ.out.len rfl (aN.row (sJ.out.keep hb5))) rfl ⟨?_, below_setRow (B4.out.trans (hb5.mono B4.out.size)) agO _⟩
   rw [HY.out]; rfl
theorem Ai {V w : World} {ab cb rb ib pb : Nat} {bv pv : Value} {G : List aZ} {B : List AB} {val : Nat → Value} {s : AS} (h : An V w ab cb rb ib pb bv pv G B val s) {k : Nat} {bl : AB} (hk : B[k]? = some bl) (hne : bl.code ≠ []) (eV : bl.nx.length ≤ 1000) (op a b c im : Int) (h0' : 0 ≤ op) (fY : bl.last = ⟨op, a, b, c, im⟩) (hop : op = 23) (j : Nat) (hu2 : bl.nx.length ≠ 2) (bk : RG) (h16 : R16 bk) (T : gL w) :
  Calls Tryz.prog 88 #[.pointer (some ⟨ab, 0, none⟩), .int .i64 (k : Int), .int .i64 (j : Int), .agg (aa bk).toArray] w fun e w' => e = .returned (dy (dS bl.last bl.nx.length j bk)) ∧ Below w.heap.size w w' := by
 subst hop
 have zV := fY
 have hkl := (List.getElem?_eq_some_iff.1 hk).1
 have yP := h.lB
 obtain ⟨V0, gl, kx, kz, b0, s0⟩ := iU w (aa bk).toArray ahV.toArray 174 174
 have h0 := h.below b0
 obtain ⟨l1, l2, l3, l4, l5⟩ := h0.lt
 obtain ⟨c0, c2, -, -, -⟩ := h0.cells
 have dk : (k : Int) < (B.length : Int) := by omega
 obtain ⟨q, cap, x2, cV, Hj, Mr, i0, i1, i2, i3, i4⟩ := h0.last hk hne fY
 obtain ⟨g, off, aW, nA, cY, mH, g1, g2, g3, nc, n1, n2, n3⟩ := h0.next hk
 have hm1 : 1 ≤ bl.code.length := List.length_pos_iff.2 hne
 have hnl : bl.nx.length ≤ 1000000 := by have := eV; omega
 obtain ⟨n, hn⟩ : ∃ n, B.length = n := ⟨_, rfl⟩
 obtain ⟨m, hm⟩ : ∃ m, bl.code.length = m := ⟨_, rfl⟩
 obtain ⟨u, hu⟩ : ∃ u, bl.nx.length = u := ⟨_, rfl⟩
 rw [mH] at c0
 rw [hn] at c0 c2 dk yP g1
 rw [hm] at x2 cV i0 i1 i2 i3 i4 hm1
 rw [hu] at nc n1 n3 hnl
 simp only at i0 i1 i2 i3 i4
 have dm : IntKind.i64.wrap ((m : Int) - 1) = ((m - 1 : Nat) : Int) := by
  rw [IntWalk.i64_in _ agO]; omega
 have dm2 : ((m - 1 : Nat) : Int) < (m : Int) := by omega
 have KX := ahM (show aN V0 w.heap.size 174 bk from kx)
 have KZ := ahM (show aN V0 (w.heap.size + 1) 174 aA from kz)
 have B0 := ahM b0
 have S0 := ahM s0
 have HU := ahM hu
 have HT := ahM (T.below b0)
 have gy := ahM h16
 clear h hk hne T h0 kx kz b0 s0 hkl mH n3 hu hm hn h16 fY eV
 go_enter Tryz.func88, Tryz.ntmps88
 go_upto_region 1 with fail
 clear gl
 go_cut [10] from 15 to 32 (fun a10 wx => ∃ jh, a10 = .pointer (some ⟨jh, 0, none⟩) ∧ wx.heap[jh]? = some (.cells #[.int .u8 23, .int .i64 a, .int .i64 b, .int .i64 c, .int .i64 im] 67 (0, 0)) ∧ Below V0.heap.size V0 wx)
 case first =>
  go_region
  all_goals
   go_wp2_with fail
   go_meet
   case rel =>
    exact ⟨_, rfl, heap_alloc_new _ _, (Below.drew (Below.refl _ _)).alloc (Nat.le_refl _) _⟩
 obtain ⟨jh, rfl, Bo, bY⟩ := hcut
 obtain ⟨Y, hY⟩ : ∃ Y : World, Y = wc := ⟨_, rfl⟩
 subst hY
 obtain ⟨z0, z1, z2, z3, z4, lY⟩ := bL Bo
 have BY := ahM (B0.out.trans (bY.mono B0.out.size))
 have Qo := ahM bY
 have wI := ahM (KX.out.keep bY)
 have pE := ahM (KZ.out.keep bY)
 have ER := ahM (HT.out.below bY)
 have kH := ahM wI.out.range
 have w1 : ab < Y.heap.size := by have := bY.size; omega
 have w2 : g < Y.heap.size := by have := bY.size; omega
 have lw : w.heap.size < Y.heap.size := wI.out.lt
 have lw1 : w.heap.size + 1 < Y.heap.size := pE.out.lt
 have y0 : Y.cell? ⟨ab, 0, none⟩ = _ := (bY.cell (p := ⟨ab, 0, none⟩) l1).trans c0
 have y1 : Y.cell? ⟨g, off + k * 3 + 2, none⟩ = _ := (bY.cell (p := ⟨g, off + k * 3 + 2, none⟩) g3).trans nc
 clear bY Bo c0 c2 nc x2 i0 i1 i2 i3 i4
 have du : ((u : Int) == 2) = false := by have := HU.out; rw [beq_eq_false_iff_ne]; omega
 have sS := ahM (show ∀ x y, eZ ⟨23, a, b, c, im⟩ bk false = x → eZ ⟨23, a, b, c, im⟩ bk true = y → dS bl.last bl.nx.length j bk = match x, y with | none, y => y | some x, none => some x | some x, some y => some (bK x y) from fun x y hx hy => by
  unfold dS
  rw [zV, if_neg agT, if_neg hu2, hx, hy]
  rfl)
 have nt := ahM (refine_any 23 a b c im h0' bk gy.out false Y ER.out)
 rcases hx : eZ ⟨23, a, b, c, im⟩ bk false with _ | rx
 ·rw [hx] at nt
  have HX := ahM hx
  clear hx
  go_upto_region 7 with (first | (refine wpList_load_mid rfl _ _ rfl _ _ rfl (aa bk) _ kH.out Tryz.underlying174 rfl (hi3 gy.out.len) ?_) | (go_at_call 108; refine nt.out.mono ?_; rintro e w3 ⟨rfl, hb3⟩; unfold dy) | (refine wpList_store_row rfl 174 (.tmp 11) (.tmp 64) rfl w3.heap.size (aa aA).toArray rfl rfl 174 _ (heap_alloc_new _ _) (hi4 aF) (hi6 aF aF) (ay aA) ?_))
  obtain ⟨Y3, vJ⟩ : ∃ Y3, (w3.alloc (.cells ahV.toArray 174)).setRow w3.heap.size (aa aA).toArray = Y3 := ⟨_, rfl⟩
  rw [vJ]
  have b3 : Below w3.heap.size w3 Y3 := vJ ▸ below_setRow ((Below.refl _ _).alloc (Nat.le_refl _) _) (Nat.le_refl _) _
  have K3 := ahM (show aN Y3 w3.heap.size 174 aA from vJ ▸ aN.row (z := aA) (heap_alloc_new _ _))
  have iO : Below Y.heap.size Y Y3 := hb3.trans (b3.mono hb3.size)
  obtain ⟨q3, hq3⟩ : ∃ q3, w3.heap.size = q3 := ⟨_, rfl⟩
  rw [hq3] at K3
  rw [hq3]
  have OO := ahM (wI.out.keep iO)
  have Io := ahM (pE.out.keep iO)
  have sL := ahM OO.out.range
  have B3 := ahM (BY.out.trans (iO.mono BY.out.size))
  have L3 := ahM (show w.heap.size + 1 < q3 by have := hb3.size; omega)
  have s0 := (iO.cell (p := ⟨jh, 0, none⟩) lY).trans z0
  have s1 := (iO.cell (p := ⟨jh, 1, none⟩) lY).trans z1
  have s2 := (iO.cell (p := ⟨jh, 2, none⟩) lY).trans z2
  have s3 := (iO.cell (p := ⟨jh, 3, none⟩) lY).trans z3
  have s4 := (iO.cell (p := ⟨jh, 4, none⟩) lY).trans z4
  have VY : jh < Y3.heap.size := by have := iO.size; omega
  have j6 := ahM (refine_any 23 a b c im h0' bk gy.out true Y3 (ER.out.below iO))
  clear vJ b3 iO hq3 hb3
  rcases hy : eZ ⟨23, a, b, c, im⟩ bk true with _ | ry
  ·rw [hy] at j6
   have HY := ahM (sS.out _ _ HX.out hy)
   clear hy
   go_upto_region 8 with (first | (refine wpList_load_mid rfl _ _ rfl _ _ rfl (aa bk) _ sL.out Tryz.underlying174 rfl (hi3 gy.out.len) ?_) | (go_at_call 108; refine j6.out.mono ?_; rintro e w4 ⟨rfl, hb4⟩; unfold dy) | (refine wpList_store_row rfl 174 (.tmp 13) (.tmp 70) rfl w4.heap.size (aa aA).toArray rfl rfl 174 _ (heap_alloc_new _ _) (hi4 aF) (hi6 aF aF) (ay aA) ?_))
   obtain ⟨Y4, jS⟩ : ∃ Y4, (w4.alloc (.cells ahV.toArray 174)).setRow w4.heap.size (aa aA).toArray = Y4 := ⟨_, rfl⟩
   rw [jS]
   have b4 : Below w4.heap.size w4 Y4 := jS ▸ below_setRow ((Below.refl _ _).alloc (Nat.le_refl _) _) (Nat.le_refl _) _
   have K4 := ahM (show aN Y4 w4.heap.size 174 aA from jS ▸ aN.row (z := aA) (heap_alloc_new _ _))
   have jX : Below Y3.heap.size Y3 Y4 := hb4.trans (b4.mono hb4.size)
   have A0 := ahM (K3.out.keep jX)
   have ou := ahM A0.out.range
   have yT := ahM K4.out.range
   have sJ := ahM (Io.out.keep jX)
   have B4 := ahM (B3.out.trans (jX.mono B3.out.size))
   clear jS b4 jX hb4
   go_wp2_with (first | (refine wpList_load_mid rfl _ _ rfl _ _ rfl (aa aA) _ yT.out Tryz.underlying174 rfl (hi3 aF) ?_) | (refine wpList_store_row rfl 174 (.tmp 8) (.tmp 75) rfl (w.heap.size + 1) (aa aA).toArray rfl rfl 174 _ sJ.out (hi4 aF) (hi6 aF aF) (ay aA) ?_))
   refine bodyPost_ret (bz Tryz.results88 _ (w.heap.size + 1) aF rfl (aN.row sJ.out)) rfl ⟨?_, below_setRow B4.out agO _⟩
   rw [HY.out]; rfl
  ·rw [hy] at j6
   have HY := ahM (sS.out _ _ HX.out hy)
   have RY := ahM (dW gy.out hy)
   clear hy
   go_upto_region 8 with (first | (refine wpList_load_mid rfl _ _ rfl _ _ rfl (aa bk) _ sL.out Tryz.underlying174 rfl (hi3 gy.out.len) ?_) | (go_at_call 108; refine j6.out.mono ?_; rintro e w4 ⟨rfl, hb4⟩; unfold dy) | (refine wpList_store_row rfl 174 (.tmp 13) (.tmp 70) rfl w4.heap.size (aa ry).toArray rfl rfl 174 _ (heap_alloc_new _ _) (hi4 RY.out.len) (hi6 RY.out.len aF) (ay ry) ?_))
   obtain ⟨Y4, jS⟩ : ∃ Y4, (w4.alloc (.cells ahV.toArray 174)).setRow w4.heap.size (aa ry).toArray = Y4 := ⟨_, rfl⟩
   rw [jS]
   have b4 : Below w4.heap.size w4 Y4 := jS ▸ below_setRow ((Below.refl _ _).alloc (Nat.le_refl _) _) (Nat.le_refl _) _
   have K4 := ahM (show aN Y4 w4.heap.size 174 ry from jS ▸ aN.row (z := aA) (heap_alloc_new _ _))
   have jX : Below Y3.heap.size Y3 Y4 := hb4.trans (b4.mono hb4.size)
   have A0 := ahM (K3.out.keep jX)
   have ou := ahM A0.out.range
   have yT := ahM K4.out.range
   have sJ := ahM (Io.out.keep jX)
   have B4 := ahM (B3.out.trans (jX.mono B3.out.size))
   clear jS b4 jX hb4
   go_wp2_with (first | (refine wpList_load_mid rfl _ _ rfl _ _ rfl (aa ry) _ yT.out Tryz.underlying174 rfl (hi3 RY.out.len) ?_) | (refine wpList_store_row rfl 174 (.tmp 8) (.tmp 75) rfl (w.heap.size + 1) (aa ry).toArray rfl rfl 174 _ sJ.out (hi4 RY.out.len) (hi6 RY.out.len aF) (ay ry) ?_))
   refine bodyPost_ret (bz Tryz.results88 _ (w.heap.size + 1) RY.out.len rfl (aN.row sJ.out)) rfl ⟨?_, below_setRow B4.out agO _⟩
   rw [HY.out]; rfl
 ·rw [hx] at nt
  have HX := ahM hx
  have RX := ahM (dW gy.out hx)
  clear hx
  go_upto_region 7 with (first | (refine wpList_load_mid rfl _ _ rfl _ _ rfl (aa bk) _ kH.out Tryz.underlying174 rfl (hi3 gy.out.len) ?_) | (go_at_call 108; refine nt.out.mono ?_; rintro e w3 ⟨rfl, hb3⟩; unfold dy) | (refine wpList_store_row rfl 174 (.tmp 11) (.tmp 64) rfl w3.heap.size (aa rx).toArray rfl rfl 174 _ (heap_alloc_new _ _) (hi4 RX.out.len) (hi6 RX.out.len aF) (ay rx) ?_))
  obtain ⟨Y3, vJ⟩ : ∃ Y3, (w3.alloc (.cells ahV.toArray 174)).setRow w3.heap.size (aa rx).toArray = Y3 := ⟨_, rfl⟩
  rw [vJ]
  have b3 : Below w3.heap.size w3 Y3 := vJ ▸ below_setRow ((Below.refl _ _).alloc (Nat.le_refl _) _) (Nat.le_refl _) _
  have K3 := ahM (show aN Y3 w3.heap.size 174 rx from vJ ▸ aN.row (z := aA) (heap_alloc_new _ _))
  have iO : Below Y.heap.size Y Y3 := hb3.trans (b3.mono hb3.size)
  obtain ⟨q3, hq3⟩ : ∃ q3, w3.heap.size = q3 := ⟨_, rfl⟩
  rw [hq3] at K3
  rw [hq3]
  have OO := ahM (wI.out.keep iO)
  have Io := ahM (pE.out.keep iO)
  have sL := ahM OO.out.range
  have B3 := ahM (BY.out.trans (iO.mono BY.out.size))
  have L3 := ahM (show w.heap.size + 1 < q3 by have := hb3.size; omega)
  have s0 := (iO.cell (p := ⟨jh, 0, none⟩) lY).trans z0
  have s1 := (iO.cell (p := ⟨jh, 1, none⟩) lY).trans z1
  have s2 := (iO.cell (p := ⟨jh, 2, none⟩) lY).trans z2
  have s3 := (iO.cell (p := ⟨jh, 3, none⟩) lY).trans z3
  have s4 := (iO.cell (p := ⟨jh, 4, none⟩) lY).trans z4
  have VY : jh < Y3.heap.size := by have := iO.size; omega
  have j6 := ahM (refine_any 23 a b c im h0' bk gy.out true Y3 (ER.out.below iO))
  clear vJ b3 iO hq3 hb3
  rcases hy : eZ ⟨23, a, b, c, im⟩ bk true with _ | ry
  ·rw [hy] at j6
   have HY := ahM (sS.out _ _ HX.out hy)
   clear hy
   go_upto_region 8 with (first | (refine wpList_load_mid rfl _ _ rfl _ _ rfl (aa bk) _ sL.out Tryz.underlying174 rfl (hi3 gy.out.len) ?_) | (go_at_call 108; refine j6.out.mono ?_; rintro e w4 ⟨rfl, hb4⟩; unfold dy) | (refine wpList_store_row rfl 174 (.tmp 13) (.tmp 70) rfl w4.heap.size (aa aA).toArray rfl rfl 174 _ (heap_alloc_new _ _) (hi4 aF) (hi6 aF aF) (ay aA) ?_))
   obtain ⟨Y4, jS⟩ : ∃ Y4, (w4.alloc (.cells ahV.toArray 174)).setRow w4.heap.size (aa aA).toArray = Y4 := ⟨_, rfl⟩
   rw [jS]
   have b4 : Below w4.heap.size w4 Y4 := jS ▸ below_setRow ((Below.refl _ _).alloc (Nat.le_refl _) _) (Nat.le_refl _) _
   have K4 := ahM (show aN Y4 w4.heap.size 174 aA from jS ▸ aN.row (z := aA) (heap_alloc_new _ _))
   have jX : Below Y3.heap.size Y3 Y4 := hb4.trans (b4.mono hb4.size)
   have A0 := ahM (K3.out.keep jX)
   have ou := ahM A0.out.range
   have yT := ahM K4.out.range
   have sJ := ahM (Io.out.keep jX)
   have B4 := ahM (B3.out.trans (jX.mono B3.out.size))
   clear jS b4 jX hb4
   go_wp2_with (first | (refine wpList_load_mid rfl _ _ rfl _ _ rfl (aa rx) _ ou.out Tryz.underlying174 rfl (hi3 RX.out.len) ?_) | (refine wpList_store_row rfl 174 (.tmp 8) (.tmp 80) rfl (w.heap.size + 1) (aa rx).toArray rfl rfl 174 _ sJ.out (hi4 RX.out.len) (hi6 RX.out.len aF) (ay rx) ?_))
   refine bodyPost_ret (bz Tryz.results88 _ (w.heap.size + 1) RX.out.len rfl (aN.row sJ.out)) rfl ⟨?_, below_setRow B4.out agO _⟩
   rw [HY.out]; rfl
  ·rw [hy] at j6
   have HY := ahM (sS.out _ _ HX.out hy)
   have RY := ahM (dW gy.out hy)
   clear hy
   go_upto_region 8 with (first | (refine wpList_load_mid rfl _ _ rfl _ _ rfl (aa bk) _ sL.out Tryz.underlying174 rfl (hi3 gy.out.len) ?_) | (go_at_call 108; refine j6.out.mono ?_; rintro e w4 ⟨rfl, hb4⟩; unfold dy) | (refine wpList_store_row rfl 174 (.tmp 13) (.tmp 70) rfl w4.heap.size (aa ry).toArray rfl rfl 174 _ (heap_alloc_new _ _) (hi4 RY.out.len) (hi6 RY.out.len aF) (ay ry) ?_))
   obtain ⟨Y4, jS⟩ : ∃ Y4, (w4.alloc (.cells ahV.toArray 174)).setRow w4.heap.size (aa ry).toArray = Y4 := ⟨_, rfl⟩
   rw [jS]
   have b4 : Below w4.heap.size w4 Y4 := jS ▸ below_setRow ((Below.refl _ _).alloc (Nat.le_refl _) _) (Nat.le_refl _) _
   have K4 := ahM (show aN Y4 w4.heap.size 174 ry from jS ▸ aN.row (z := aA) (heap_alloc_new _ _))
   have jX : Below Y3.heap.size Y3 Y4 := hb4.trans (b4.mono hb4.size)
   have A0 := ahM (K3.out.keep jX)
   have ou := ahM A0.out.range
   have yT := ahM K4.out.range
   have sJ := ahM (Io.out.keep jX)
   have B4 := ahM (B3.out.trans (jX.mono B3.out.size))
   clear jS b4 jX hb4
   have M4 := ahM (ja 105 bC (fun _ _ => by kernel_rfl) rL rx ry RX.out.len RY.out.len Y4)
   have RJ := ahM (RX.out.join RY.out)
   go_wp2_with (first | (refine wpList_load_mid rfl _ _ rfl _ _ rfl (aa rx) _ ou.out Tryz.underlying174 rfl (hi3 RX.out.len) ?_) | (refine wpList_load_mid rfl _ _ rfl _ _ rfl (aa ry) _ yT.out Tryz.underlying174 rfl (hi3 RY.out.len) ?_) | (go_at_call 104; refine M4.out.mono ?_; rintro e w5 ⟨rfl, hb5⟩) | (refine wpList_store_row rfl 174 (.tmp 8) (.tmp 84) rfl (w.heap.size + 1) (aa (bK rx ry)).toArray rfl rfl 174 _ (sJ.out.keep hb5) (hi4 RJ.out.len) (hi6 RJ.out.len aF) (ay (bK rx ry)) ?_))
   refine bodyPost_ret (bz Tryz.results88 _ (w.heap.size + 1) RJ.out.len rfl (aN.row (sJ.out.keep hb5))) rfl ⟨?_, below_setRow (B4.out.trans (hb5.mono B4.out.size)) agO _⟩
   rw [HY.out]; rfl
theorem ye {V w : World} {ab cb rb ib pb : Nat} {bv pv : Value} {G : List aZ} {B : List AB} {val : Nat → Value} {s : AS} (h : An V w ab cb rb ib pb bv pv G B val s) {k : Nat} {bl : AB} (hk : B[k]? = some bl) (hne : bl.code ≠ []) (eV : bl.nx.length ≤ 1000) (h0 : 0 ≤ bl.last.op) (j : Nat) (bk : RG) (h16 : R16 bk) (T : gL w) :
  Calls Tryz.prog 88 #[.pointer (some ⟨ab, 0, none⟩), .int .i64 (k : Int), .int .i64 (j : Int), .agg (aa bk).toArray] w fun e w' => e = .returned (dy (dS bl.last bl.nx.length j bk)) ∧ Below w.heap.size w w' := by
 obtain ⟨op, a, b, c, im, hl⟩ : ∃ op a b c im, bl.last = ⟨op, a, b, c, im⟩ := ⟨_, _, _, _, _, rfl⟩
 by_cases h2 : op = 22 ∨ op = 23
 ·have hE : bl.nx.length = 2 → dS bl.last bl.nx.length j bk = eZ ⟨op, a, b, c, im⟩ bk (decide (j = 1)) := fun hu => by
   unfold dS
   rw [hl, if_neg (fun hh => hh h2), if_pos hu]
  by_cases hu : bl.nx.length = 2
  ·rw [hE hu]
   rcases h2 with e | e
   ·exact Ag h hk hne eV op a b c im ahv hl e j hu bk h16 T
   ·exact Af h hk hne eV op a b c im ahv hl e j hu bk h16 T
  ·rcases h2 with e | e
   ·exact Aj h hk hne eV op a b c im ahv hl e j hu bk h16 T
   ·exact Ai h hk hne eV op a b c im ahv hl e j hu bk h16 T
 ·have hE : dS bl.last bl.nx.length j bk = some bk := by unfold dS; rw [hl, if_pos h2]
  rw [hE]
  exact Ah h hk hne eV op a b c im ahv hl agO j bk h16 T
end
end Go.Proofs.YtlmgkipmfgijiaaGreatDoor
