/-
  What is proved here: parts aEd.
-/
import Derived.Test.YtlmgkipmfgijiaaGreatDoorXa
import Derived.Test.YtlmgkipmfgijiaaGreatDoorXj
import Derived.Test.YtlmgkipmfgijiaaGreatDoorXi
import Derived.BigRegion
namespace Go.Proofs.YtlmgkipmfgijiaaGreatDoor
set_option linter.unusedVariables false
set_option linter.unusedSimpArgs false
set_option maxRecDepth 100000
set_option maxHeartbeats 8000000
section
open Go.RowKit
theorem ji (w : World) (cA cB : Array Value) (tA tB : TypeId) : ∃ V, (w.alloc (.cells cA tA)).alloc (.cells cB tB) = V ∧ V.heap[w.heap.size]? = some (.cells cA tA (0, 0)) ∧ V.heap[w.heap.size + 1]? = some (.cells cB tB (0, 0)) ∧ Below w.heap.size w V ∧ V.heap.size = w.heap.size + 1 + 1 := by
 refine ⟨_, rfl, ?_, aG _ _ ahZ, ((Below.refl _ _).alloc (Nat.le_refl _) _).alloc ahZ _, by simp⟩
 rw [heap_alloc_old _ _ ahZ]; exact heap_alloc_new _ _
theorem An.last {V w : World} {ab cb rb ib pb : Nat} {bv pv : Value} {G : List aU} {B : List AB} {val : Nat → Value} {s : AS} (h : An V w ab cb rb ib pb bv pv G B val s) {k : Nat} {b : AB} (hk : B[k]? = some b) (hne : b.code ≠ []) {i : Ins} (hi : b.last = i) :
  ∃ q cap, w.cell? ⟨cb, k, none⟩ = some (.slice (some ⟨q, 0, none⟩) b.code.length cap) ∧ b.code.length ≤ cap ∧ cap ≤ 2 ^ 63 - 1 ∧ q < w.heap.size ∧ w.cell? ⟨q, (b.code.length - 1) * 5, none⟩ = some (.int .u8 i.op) ∧ w.cell? ⟨q, (b.code.length - 1) * 5 + 1, none⟩ = some (.int .i64 i.a) ∧ w.cell? ⟨q, (b.code.length - 1) * 5 + 2, none⟩ = some (.int .i64 i.b) ∧ w.cell? ⟨q, (b.code.length - 1) * 5 + 3, none⟩ = some (.int .i64 i.c) ∧ w.cell? ⟨q, (b.code.length - 1) * 5 + 4, none⟩ = some (.int .i64 i.aP) := by
 obtain ⟨c, hc⟩ := h.code hk
 have hl : b.code.length - 1 < b.code.length := by have := List.length_pos_iff.2 hne; omega
 rcases hc with ⟨_, e⟩ | ⟨q, cap, e1, e2, e3, e4, e5⟩
 ·exact absurd e hne
 ·refine ⟨q, cap, by rw [c, e1], e2, ep e3, e4, e5 _ i ?_⟩
  rw [← hi]
  unfold AB.last
  simp [List.getD, List.getElem?_eq_getElem hl]
theorem An.next {V w : World} {ab cb rb ib pb : Nat} {bv pv : Value} {G : List aU} {B : List AB} {val : Nat → Value} {s : AS} (h : An V w ab cb rb ib pb bv pv G B val s) {k : Nat} {b : AB} (hk : B[k]? = some b) :
  ∃ g off cap nA di, bv = .slice (some ⟨g, off, none⟩) B.length cap ∧ B.length ≤ cap ∧ cap ≤ 2 ^ 63 - 1 ∧ g < w.heap.size ∧ w.cell? ⟨g, off + k * 3 + 2, none⟩ = some (.slice nA b.nx.length di) ∧ b.nx.length ≤ di ∧ di ≤ 2 ^ 63 - 1 ∧ Ints w (.slice nA b.nx.length di) b.nx := by
 have hkl := (List.getElem?_eq_some_iff.1 hk).1
 have X9 := h.lG
 obtain ⟨A, cap, h1, h2, h3, h4⟩ := h.PT.below h.aD
 obtain ⟨g, off, rfl, hg, hc⟩ := h4 ahU
 obtain ⟨x, hx⟩ : ∃ x, G[k]? = some x := ⟨_, List.getElem?_eq_getElem ahU⟩
 obtain ⟨_, _, nv, c2, hn⟩ := hc k x hx
 have e := h.YF k x b hx hk
 rw [e] at hn
 obtain ⟨nA, di, rfl, n2, n3⟩ := ints_at hn
 rw [X9] at h1 h2
 exact ⟨g, off, cap, nA, di, h1, h2, ep h3, hg, c2, n2, ep n3, hn⟩
theorem AO {V w : World} {ab cb rb ib pb : Nat} {bv pv : Value} {G : List aU} {B : List AB} {val : Nat → Value} {s : AS} (h : An V w ab cb rb ib pb bv pv G B val s) {k : Nat} {bl : AB} (hk : B[k]? = some bl) (hne : bl.code ≠ []) (fc : bl.nx.length ≤ 1000) (op a b c im : Int) (h0' : 0 ≤ op) (gz : bl.last = ⟨op, a, b, c, im⟩) (hop : op ≠ 22 ∧ op ≠ 23) (j : Nat) (bz : RG) (h16 : R16 bz) (T : gZ w) :
  Calls Tryz.prog 88 #[.pointer (some ⟨ab, 0, none⟩), .int .i64 (k : Int), .int .i64 (j : Int), .agg (aa bz).toArray] w fun e w' => e = .returned (dB (some bz)) ∧ Below w.heap.size w w' := by
 have e1 : (op != 22) = true := by simp [bne_iff_ne]; omega
 have e2 : (op != 23) = true := by simp [bne_iff_ne]; omega
 clear hop
 have hkl := (List.getElem?_eq_some_iff.1 hk).1
 have zm := h.lB
 obtain ⟨V0, gC, kx, kz, b0, s0⟩ := ji w (aa bz).toArray ai3.toArray 174 174
 have h0 := h.below b0
 obtain ⟨l1, l2, l3, l4, l5⟩ := h0.lt
 obtain ⟨c0, c2, -, -, -⟩ := h0.cells
 have dk : (k : Int) < (B.length : Int) := by omega
 obtain ⟨q, cap, x2, cX, IU, Nn, i0, i1, i2, i3, i4⟩ := h0.last hk hne gz
 obtain ⟨g, off, aY, nA, di, mV, g1, g2, g3, nc, n1, n2, n3⟩ := h0.next hk
 have hm1 : 1 ≤ bl.code.length := List.length_pos_iff.2 hne
 have hnl : bl.nx.length ≤ 1000000 := by have := fc; omega
 obtain ⟨n, hn⟩ : ∃ n, B.length = n := ⟨_, rfl⟩
 obtain ⟨m, hm⟩ : ∃ m, bl.code.length = m := ⟨_, rfl⟩
 obtain ⟨u, hu⟩ : ∃ u, bl.nx.length = u := ⟨_, rfl⟩
 rw [mV] at c0
 rw [hn] at c0 c2 dk zm g1
 rw [hm] at x2 cX i0 i1 i2 i3 i4 hm1
 rw [hu] at nc n1 n3 hnl
 simp only at i0 i1 i2 i3 i4
 have dm : IntKind.i64.wrap ((m : Int) - 1) = ((m - 1 : Nat) : Int) := by
  rw [IntWalk.i64_in _ ahU]; omega
 have dm2 : ((m - 1 : Nat) : Int) < (m : Int) := by omega
 have KX := aiU (show aN V0 w.heap.size 174 bz from kx)
 have KZ := aiU (show aN V0 (w.heap.size + 1) 174 aA from kz)
 have B0 := aiU b0
 have S0 := aiU s0
 have HU := aiU hu
 have HT := aiU (T.below b0)
 have gJ := aiU h16
 clear h hk hne T h0 kx kz b0 s0 hkl mV n3 hu hm hn h16 gz fc
 go_enter Tryz.func88, Tryz.ntmps88
 go_upto_region 1 with fail
 clear gC
 go_cut [10] from 15 to 32 (fun a10 wx => ∃ jA, a10 = .pointer (some ⟨jA, 0, none⟩) ∧ wx.heap[jA]? = some (.cells #[.int .u8 op, .int .i64 a, .int .i64 b, .int .i64 c, .int .i64 im] 67 (0, 0)) ∧ Below V0.heap.size V0 wx)
 case first =>
  go_region
  all_goals
   go_wp2_with fail
   go_meet
   case rel =>
    exact ⟨_, rfl, heap_alloc_new _ _, (Below.drew (Below.refl _ _)).alloc (Nat.le_refl _) _⟩
 obtain ⟨jA, rfl, Cg, bY⟩ := hcut
 obtain ⟨Y, hY⟩ : ∃ Y : World, Y = wc := ⟨_, rfl⟩
 subst hY
 obtain ⟨z0, z1, z2, z3, z4, lY⟩ := bP Cg
 have BY := aiU (B0.out.trans (bY.mono B0.out.size))
 have Rz := aiU bY
 have w8 := aiU (KX.out.keep bY)
 have pP := aiU (KZ.out.keep bY)
 have Fy := aiU (HT.out.below bY)
 have lF := aiU w8.out.range
 have w1 : ab < Y.heap.size := by have := bY.size; omega
 have w2 : g < Y.heap.size := by have := bY.size; omega
 have lw : w.heap.size < Y.heap.size := w8.out.lt
 have lw1 : w.heap.size + 1 < Y.heap.size := pP.out.lt
 have y0 : Y.cell? ⟨ab, 0, none⟩ = _ := (bY.cell (p := ⟨ab, 0, none⟩) l1).trans c0
 have y1 : Y.cell? ⟨g, off + k * 3 + 2, none⟩ = _ := (bY.cell (p := ⟨g, off + k * 3 + 2, none⟩) g3).trans nc
 clear bY Cg c0 c2 nc x2 i0 i1 i2 i3 i4
 go_wp2_with (first | (refine wpList_load_mid rfl _ _ rfl _ _ rfl (aa bz) _ lF.out Tryz.underlying174 rfl (hi3 gJ.out.len) ?_) | (refine wpList_store_row rfl 174 (.tmp 8) (.tmp 41) rfl (w.heap.size + 1) (aa bz).toArray rfl rfl 174 _ pP.out (hi4 gJ.out.len) (hi6 gJ.out.len aF) (ay bz) ?_))
 refine bodyPost_ret (bE Tryz.results88 _ (w.heap.size + 1) gJ.out.len rfl (aN.row pP.out)) rfl ⟨?_, ?_⟩
 ·rfl
 ·exact below_setRow BY.out ahU _
theorem AL {V w : World} {ab cb rb ib pb : Nat} {bv pv : Value} {G : List aU} {B : List AB} {val : Nat → Value} {s : AS} (h : An V w ab cb rb ib pb bv pv G B val s) {k : Nat} {bl : AB} (hk : B[k]? = some bl) (hne : bl.code ≠ []) (fc : bl.nx.length ≤ 1000) (op a b c im : Int) (h0' : 0 ≤ op) (gz : bl.last = ⟨op, a, b, c, im⟩) (hop : op = 22) (j : Nat) (hu2 : bl.nx.length = 2) (bz : RG) (h16 : R16 bz) (T : gZ w) :
  Calls Tryz.prog 88 #[.pointer (some ⟨ab, 0, none⟩), .int .i64 (k : Int), .int .i64 (j : Int), .agg (aa bz).toArray] w fun e w' => e = .returned (dB (fu ⟨op, a, b, c, im⟩ bz (decide (j = 1)))) ∧ Below w.heap.size w w' := by
 subst hop
 have hkl := (List.getElem?_eq_some_iff.1 hk).1
 have zm := h.lB
 obtain ⟨V0, gC, kx, kz, b0, s0⟩ := ji w (aa bz).toArray ai3.toArray 174 174
 have h0 := h.below b0
 obtain ⟨l1, l2, l3, l4, l5⟩ := h0.lt
 obtain ⟨c0, c2, -, -, -⟩ := h0.cells
 have dk : (k : Int) < (B.length : Int) := by omega
 obtain ⟨q, cap, x2, cX, IU, Nn, i0, i1, i2, i3, i4⟩ := h0.last hk hne gz
 obtain ⟨g, off, aY, nA, di, mV, g1, g2, g3, nc, n1, n2, n3⟩ := h0.next hk
 have hm1 : 1 ≤ bl.code.length := List.length_pos_iff.2 hne
 have hnl : bl.nx.length ≤ 1000000 := by have := fc; omega
 obtain ⟨n, hn⟩ : ∃ n, B.length = n := ⟨_, rfl⟩
 obtain ⟨m, hm⟩ : ∃ m, bl.code.length = m := ⟨_, rfl⟩
 obtain ⟨u, hu⟩ : ∃ u, bl.nx.length = u := ⟨_, rfl⟩
 rw [mV] at c0
 rw [hn] at c0 c2 dk zm g1
 rw [hm] at x2 cX i0 i1 i2 i3 i4 hm1
 rw [hu] at nc n1 n3 hnl
 simp only at i0 i1 i2 i3 i4
 have dm : IntKind.i64.wrap ((m : Int) - 1) = ((m - 1 : Nat) : Int) := by
  rw [IntWalk.i64_in _ ahU]; omega
 have dm2 : ((m - 1 : Nat) : Int) < (m : Int) := by omega
 have KX := aiU (show aN V0 w.heap.size 174 bz from kx)
 have KZ := aiU (show aN V0 (w.heap.size + 1) 174 aA from kz)
 have B0 := aiU b0
 have S0 := aiU s0
 have HU := aiU hu
 have HT := aiU (T.below b0)
 have gJ := aiU h16
 clear h hk hne T h0 kx kz b0 s0 hkl mV n3 hu hm hn h16 gz fc
 go_enter Tryz.func88, Tryz.ntmps88
 go_upto_region 1 with fail
 clear gC
 go_cut [10] from 15 to 32 (fun a10 wx => ∃ jA, a10 = .pointer (some ⟨jA, 0, none⟩) ∧ wx.heap[jA]? = some (.cells #[.int .u8 22, .int .i64 a, .int .i64 b, .int .i64 c, .int .i64 im] 67 (0, 0)) ∧ Below V0.heap.size V0 wx)
 case first =>
  go_region
  all_goals
   go_wp2_with fail
   go_meet
   case rel =>
    exact ⟨_, rfl, heap_alloc_new _ _, (Below.drew (Below.refl _ _)).alloc (Nat.le_refl _) _⟩
 obtain ⟨jA, rfl, Cg, bY⟩ := hcut
 obtain ⟨Y, hY⟩ : ∃ Y : World, Y = wc := ⟨_, rfl⟩
 subst hY
 obtain ⟨z0, z1, z2, z3, z4, lY⟩ := bP Cg
 have BY := aiU (B0.out.trans (bY.mono B0.out.size))
 have Rz := aiU bY
 have w8 := aiU (KX.out.keep bY)
 have pP := aiU (KZ.out.keep bY)
 have Fy := aiU (HT.out.below bY)
 have lF := aiU w8.out.range
 have w1 : ab < Y.heap.size := by have := bY.size; omega
 have w2 : g < Y.heap.size := by have := bY.size; omega
 have lw : w.heap.size < Y.heap.size := w8.out.lt
 have lw1 : w.heap.size + 1 < Y.heap.size := pP.out.lt
 have y0 : Y.cell? ⟨ab, 0, none⟩ = _ := (bY.cell (p := ⟨ab, 0, none⟩) l1).trans c0
 have y1 : Y.cell? ⟨g, off + k * 3 + 2, none⟩ = _ := (bY.cell (p := ⟨g, off + k * 3 + 2, none⟩) g3).trans nc
 clear bY Cg c0 c2 nc x2 i0 i1 i2 i3 i4
 have du : ((u : Int) == 2) = true := by have := HU.out; rw [hu2] at this; rw [← this]; rfl
 obtain ⟨tk, lf⟩ : ∃ tk, ((j : Int) == 1) = tk := ⟨_, rfl⟩
 have nP := aiU (refine_any 22 a b c im h0' bz gJ.out tk Y Fy.out)
 have HJ := aiU (show decide (j = 1) = tk by rw [← lf, Bool.eq_iff_iff, decide_eq_true_eq, beq_iff_eq]; omega)
 rcases ho : fu ⟨22, a, b, c, im⟩ bz tk with _ | r2
 ·rw [ho] at nP
  have HN := aiU ho
  clear ho
  go_wp2_with (first | (refine wpList_load_mid rfl _ _ rfl _ _ rfl (aa bz) _ lF.out Tryz.underlying174 rfl (hi3 gJ.out.len) ?_) | (go_at_call 108; refine nP.out.mono ?_; rintro e w3 ⟨rfl, hb3⟩; unfold dB) | (refine wpList_store_row rfl 174 (.tmp 8) (.tmp 58) rfl (w.heap.size + 1) (aa aA).toArray rfl rfl 174 _ (pP.out.keep hb3) (hi4 aF) (hi6 aF aF) (ay aA) ?_))
  refine bodyPost_ret (bE Tryz.results88 _ (w.heap.size + 1) aF rfl (aN.row (pP.out.keep hb3))) rfl ⟨?_, ?_⟩
  ·rw [HJ.out, HN.out]; rfl
  ·exact below_setRow (BY.out.trans (hb3.mono BY.out.size)) ahU _
 ·rw [ho] at nP
  have HN := aiU ho
  have R2 := aiU (dY gJ.out ho)
  clear ho
  go_wp2_with (first | (refine wpList_load_mid rfl _ _ rfl _ _ rfl (aa bz) _ lF.out Tryz.underlying174 rfl (hi3 gJ.out.len) ?_) | (go_at_call 108; refine nP.out.mono ?_; rintro e w3 ⟨rfl, hb3⟩; unfold dB) | (refine wpList_store_row rfl 174 (.tmp 8) (.tmp 58) rfl (w.heap.size + 1) (aa r2).toArray rfl rfl 174 _ (pP.out.keep hb3) (hi4 R2.out.len) (hi6 R2.out.len aF) (ay r2) ?_))
  refine bodyPost_ret (bE Tryz.results88 _ (w.heap.size + 1) R2.out.len rfl (aN.row (pP.out.keep hb3))) rfl ⟨?_, ?_⟩
  ·rw [HJ.out, HN.out]; rfl
  ·exact below_setRow (BY.out.trans (hb3.mono BY.out.size)) ahU _
theorem AK {V w : World} {ab cb rb ib pb : Nat} {bv pv : Value} {G : List aU} {B : List AB} {val : Nat → Value} {s : AS} (h : An V w ab cb rb ib pb bv pv G B val s) {k : Nat} {bl : AB} (hk : B[k]? = some bl) (hne : bl.code ≠ []) (fc : bl.nx.length ≤ 1000) (op a b c im : Int) (h0' : 0 ≤ op) (gz : bl.last = ⟨op, a, b, c, im⟩) (hop : op = 23) (j : Nat) (hu2 : bl.nx.length = 2) (bz : RG) (h16 : R16 bz) (T : gZ w) :
  Calls Tryz.prog 88 #[.pointer (some ⟨ab, 0, none⟩), .int .i64 (k : Int), .int .i64 (j : Int), .agg (aa bz).toArray] w fun e w' => e = .returned (dB (fu ⟨op, a, b, c, im⟩ bz (decide (j = 1)))) ∧ Below w.heap.size w w' := by
 subst hop
 have hkl := (List.getElem?_eq_some_iff.1 hk).1
 have zm := h.lB
 obtain ⟨V0, gC, kx, kz, b0, s0⟩ := ji w (aa bz).toArray ai3.toArray 174 174
 have h0 := h.below b0
 obtain ⟨l1, l2, l3, l4, l5⟩ := h0.lt
 obtain ⟨c0, c2, -, -, -⟩ := h0.cells
 have dk : (k : Int) < (B.length : Int) := by omega
 obtain ⟨q, cap, x2, cX, IU, Nn, i0, i1, i2, i3, i4⟩ := h0.last hk hne gz
 obtain ⟨g, off, aY, nA, di, mV, g1, g2, g3, nc, n1, n2, n3⟩ := h0.next hk
 have hm1 : 1 ≤ bl.code.length := List.length_pos_iff.2 hne
 have hnl : bl.nx.length ≤ 1000000 := by have := fc; omega
 obtain ⟨n, hn⟩ : ∃ n, B.length = n := ⟨_, rfl⟩
 obtain ⟨m, hm⟩ : ∃ m, bl.code.length = m := ⟨_, rfl⟩
 obtain ⟨u, hu⟩ : ∃ u, bl.nx.length = u := ⟨_, rfl⟩
 rw [mV] at c0
 rw [hn] at c0 c2 dk zm g1
 rw [hm] at x2 cX i0 i1 i2 i3 i4 hm1
 rw [hu] at nc n1 n3 hnl
 simp only at i0 i1 i2 i3 i4
 have dm : IntKind.i64.wrap ((m : Int) - 1) = ((m - 1 : Nat) : Int) := by
  rw [IntWalk.i64_in _ ahU]; omega
 have dm2 : ((m - 1 : Nat) : Int) < (m : Int) := by omega
 have KX := aiU (show aN V0 w.heap.size 174 bz from kx)
 have KZ := aiU (show aN V0 (w.heap.size + 1) 174 aA from kz)
 have B0 := aiU b0
 have S0 := aiU s0
 have HU := aiU hu
 have HT := aiU (T.below b0)
 have gJ := aiU h16
 clear h hk hne T h0 kx kz b0 s0 hkl mV n3 hu hm hn h16 gz fc
 go_enter Tryz.func88, Tryz.ntmps88
 go_upto_region 1 with fail
 clear gC
 go_cut [10] from 15 to 32 (fun a10 wx => ∃ jA, a10 = .pointer (some ⟨jA, 0, none⟩) ∧ wx.heap[jA]? = some (.cells #[.int .u8 23, .int .i64 a, .int .i64 b, .int .i64 c, .int .i64 im] 67 (0, 0)) ∧ Below V0.heap.size V0 wx)
 case first =>
  go_region
  all_goals
   go_wp2_with fail
   go_meet
   case rel =>
    exact ⟨_, rfl, heap_alloc_new _ _, (Below.drew (Below.refl _ _)).alloc (Nat.le_refl _) _⟩
 obtain ⟨jA, rfl, Cg, bY⟩ := hcut
 obtain ⟨Y, hY⟩ : ∃ Y : World, Y = wc := ⟨_, rfl⟩
 subst hY
 obtain ⟨z0, z1, z2, z3, z4, lY⟩ := bP Cg
 have BY := aiU (B0.out.trans (bY.mono B0.out.size))
 have Rz := aiU bY
 have w8 := aiU (KX.out.keep bY)
 have pP := aiU (KZ.out.keep bY)
 have Fy := aiU (HT.out.below bY)
 have lF := aiU w8.out.range
 have w1 : ab < Y.heap.size := by have := bY.size; omega
 have w2 : g < Y.heap.size := by have := bY.size; omega
 have lw : w.heap.size < Y.heap.size := w8.out.lt
 have lw1 : w.heap.size + 1 < Y.heap.size := pP.out.lt
 have y0 : Y.cell? ⟨ab, 0, none⟩ = _ := (bY.cell (p := ⟨ab, 0, none⟩) l1).trans c0
 have y1 : Y.cell? ⟨g, off + k * 3 + 2, none⟩ = _ := (bY.cell (p := ⟨g, off + k * 3 + 2, none⟩) g3).trans nc
 clear bY Cg c0 c2 nc x2 i0 i1 i2 i3 i4
 have du : ((u : Int) == 2) = true := by have := HU.out; rw [hu2] at this; rw [← this]; rfl
 obtain ⟨tk, lf⟩ : ∃ tk, ((j : Int) == 1) = tk := ⟨_, rfl⟩
 have nP := aiU (refine_any 23 a b c im h0' bz gJ.out tk Y Fy.out)
 have HJ := aiU (show decide (j = 1) = tk by rw [← lf, Bool.eq_iff_iff, decide_eq_true_eq, beq_iff_eq]; omega)
 rcases ho : fu ⟨23, a, b, c, im⟩ bz tk with _ | r2
 ·rw [ho] at nP
  have HN := aiU ho
  clear ho
  go_wp2_with (first | (refine wpList_load_mid rfl _ _ rfl _ _ rfl (aa bz) _ lF.out Tryz.underlying174 rfl (hi3 gJ.out.len) ?_) | (go_at_call 108; refine nP.out.mono ?_; rintro e w3 ⟨rfl, hb3⟩; unfold dB) | (refine wpList_store_row rfl 174 (.tmp 8) (.tmp 58) rfl (w.heap.size + 1) (aa aA).toArray rfl rfl 174 _ (pP.out.keep hb3) (hi4 aF) (hi6 aF aF) (ay aA) ?_))
  refine bodyPost_ret (bE Tryz.results88 _ (w.heap.size + 1) aF rfl (aN.row (pP.out.keep hb3))) rfl ⟨?_, ?_⟩
  ·rw [HJ.out, HN.out]; rfl
  ·exact below_setRow (BY.out.trans (hb3.mono BY.out.size)) ahU _
 ·rw [ho] at nP
  have HN := aiU ho
  have R2 := aiU (dY gJ.out ho)
  clear ho
  go_wp2_with (first | (refine wpList_load_mid rfl _ _ rfl _ _ rfl (aa bz) _ lF.out Tryz.underlying174 rfl (hi3 gJ.out.len) ?_) | (go_at_call 108; refine nP.out.mono ?_; rintro e w3 ⟨rfl, hb3⟩; unfold dB) | (refine wpList_store_row rfl 174 (.tmp 8) (.tmp 58) rfl (w.heap.size + 1) (aa r2).toArray rfl rfl 174 _ (pP.out.keep hb3) (hi4 R2.out.len) (hi6 R2.out.len aF) (ay r2) ?_))
  refine bodyPost_ret (bE Tryz.results88 _ (w.heap.size + 1) R2.out.len rfl (aN.row (pP.out.keep hb3))) rfl ⟨?_, ?_⟩
  ·rw [HJ.out, HN.out]; rfl
  ·exact below_setRow (BY.out.trans (hb3.mono BY.out.size)) ahU _
theorem AQ {V w : World} {ab cb rb ib pb : Nat} {bv pv : Value} {G : List aU} {B : List AB} {val : Nat → Value} {s : AS} (h : An V w ab cb rb ib pb bv pv G B val s) {k : Nat} {bl : AB} (hk : B[k]? = some bl) (hne : bl.code ≠ []) (fc : bl.nx.length ≤ 1000) (op a b c im : Int) (h0' : 0 ≤ op) (gz : bl.last = ⟨op, a, b, c, im⟩) (hop : op = 22) (j : Nat) (hu2 : bl.nx.length ≠ 2) (bz : RG) (h16 : R16 bz) (T : gZ w) :
  Calls Tryz.prog 88 #[.pointer (some ⟨ab, 0, none⟩), .int .i64 (k : Int), .int .i64 (j : Int), .agg (aa bz).toArray] w fun e w' => e = .returned (dB (dW bl.last bl.nx.length j bz)) ∧ Below w.heap.size w w' := by
 subst hop
 have Au := gz
 have hkl := (List.getElem?_eq_some_iff.1 hk).1
 have zm := h.lB
 obtain ⟨V0, gC, kx, kz, b0, s0⟩ := ji w (aa bz).toArray ai3.toArray 174 174
 have h0 := h.below b0
 obtain ⟨l1, l2, l3, l4, l5⟩ := h0.lt
 obtain ⟨c0, c2, -, -, -⟩ := h0.cells
 have dk : (k : Int) < (B.length : Int) := by omega
 obtain ⟨q, cap, x2, cX, IU, Nn, i0, i1, i2, i3, i4⟩ := h0.last hk hne gz
 obtain ⟨g, off, aY, nA, di, mV, g1, g2, g3, nc, n1, n2, n3⟩ := h0.next hk
 have hm1 : 1 ≤ bl.code.length := List.length_pos_iff.2 hne
 have hnl : bl.nx.length ≤ 1000000 := by have := fc; omega
 obtain ⟨n, hn⟩ : ∃ n, B.length = n := ⟨_, rfl⟩
 obtain ⟨m, hm⟩ : ∃ m, bl.code.length = m := ⟨_, rfl⟩
 obtain ⟨u, hu⟩ : ∃ u, bl.nx.length = u := ⟨_, rfl⟩
 rw [mV] at c0
 rw [hn] at c0 c2 dk zm g1
 rw [hm] at x2 cX i0 i1 i2 i3 i4 hm1
 rw [hu] at nc n1 n3 hnl
 simp only at i0 i1 i2 i3 i4
 have dm : IntKind.i64.wrap ((m : Int) - 1) = ((m - 1 : Nat) : Int) := by
  rw [IntWalk.i64_in _ ahU]; omega
 have dm2 : ((m - 1 : Nat) : Int) < (m : Int) := by omega
 have KX := aiU (show aN V0 w.heap.size 174 bz from kx)
 have KZ := aiU (show aN V0 (w.heap.size + 1) 174 aA from kz)
 have B0 := aiU b0
 have S0 := aiU s0
 have HU := aiU hu
 have HT := aiU (T.below b0)
 have gJ := aiU h16
 clear h hk hne T h0 kx kz b0 s0 hkl mV n3 hu hm hn h16 gz fc
 go_enter Tryz.func88, Tryz.ntmps88
 go_upto_region 1 with fail
 clear gC
 go_cut [10] from 15 to 32 (fun a10 wx => ∃ jA, a10 = .pointer (some ⟨jA, 0, none⟩) ∧ wx.heap[jA]? = some (.cells #[.int .u8 22, .int .i64 a, .int .i64 b, .int .i64 c, .int .i64 im] 67 (0, 0)) ∧ Below V0.heap.size V0 wx)
 case first =>
  go_region
  all_goals
   go_wp2_with fail
   go_meet
   case rel =>
    exact ⟨_, rfl, heap_alloc_new _ _, (Below.drew (Below.refl _ _)).alloc (Nat.le_refl _) _⟩
 obtain ⟨jA, rfl, Cg, bY⟩ := hcut
 obtain ⟨Y, hY⟩ : ∃ Y : World, Y = wc := ⟨_, rfl⟩
 subst hY
 obtain ⟨z0, z1, z2, z3, z4, lY⟩ := bP Cg
 have BY := aiU (B0.out.trans (bY.mono B0.out.size))
 have Rz := aiU bY
 have w8 := aiU (KX.out.keep bY)
 have pP := aiU (KZ.out.keep bY)
 have Fy := aiU (HT.out.below bY)
 have lF := aiU w8.out.range
 have w1 : ab < Y.heap.size := by have := bY.size; omega
 have w2 : g < Y.heap.size := by have := bY.size; omega
 have lw : w.heap.size < Y.heap.size := w8.out.lt
 have lw1 : w.heap.size + 1 < Y.heap.size := pP.out.lt
 have y0 : Y.cell? ⟨ab, 0, none⟩ = _ := (bY.cell (p := ⟨ab, 0, none⟩) l1).trans c0
 have y1 : Y.cell? ⟨g, off + k * 3 + 2, none⟩ = _ := (bY.cell (p := ⟨g, off + k * 3 + 2, none⟩) g3).trans nc
 clear bY Cg c0 c2 nc x2 i0 i1 i2 i3 i4
 have du : ((u : Int) == 2) = false := by have := HU.out; rw [beq_eq_false_iff_ne]; omega
 have tN := aiU (show ∀ x y, fu ⟨22, a, b, c, im⟩ bz false = x → fu ⟨22, a, b, c, im⟩ bz true = y → dW bl.last bl.nx.length j bz = match x, y with | none, y => y | some x, none => some x | some x, some y => some (bO x y) from fun x y hx hy => by
  unfold dW
  rw [Au, if_neg ahZ, if_neg hu2, hx, hy]
  rfl)
 have nP := aiU (refine_any 22 a b c im h0' bz gJ.out false Y Fy.out)
 rcases hx : fu ⟨22, a, b, c, im⟩ bz false with _ | rx
 ·rw [hx] at nP
  have HX := aiU hx
  clear hx
  go_upto_region 7 with (first | (refine wpList_load_mid rfl _ _ rfl _ _ rfl (aa bz) _ lF.out Tryz.underlying174 rfl (hi3 gJ.out.len) ?_) | (go_at_call 108; refine nP.out.mono ?_; rintro e w3 ⟨rfl, hb3⟩; unfold dB) | (refine wpList_store_row rfl 174 (.tmp 11) (.tmp 64) rfl w3.heap.size (aa aA).toArray rfl rfl 174 _ (heap_alloc_new _ _) (hi4 aF) (hi6 aF aF) (ay aA) ?_))
  obtain ⟨Y3, wh⟩ : ∃ Y3, (w3.alloc (.cells ai3.toArray 174)).setRow w3.heap.size (aa aA).toArray = Y3 := ⟨_, rfl⟩
  rw [wh]
  have b3 : Below w3.heap.size w3 Y3 := wh ▸ below_setRow ((Below.refl _ _).alloc (Nat.le_refl _) _) (Nat.le_refl _) _
  have K3 := aiU (show aN Y3 w3.heap.size 174 aA from wh ▸ aN.row (z := aA) (heap_alloc_new _ _))
  have je : Below Y.heap.size Y Y3 := hb3.trans (b3.mono hb3.size)
  obtain ⟨q3, hq3⟩ : ∃ q3, w3.heap.size = q3 := ⟨_, rfl⟩
  rw [hq3] at K3
  rw [hq3]
  have P9 := aiU (w8.out.keep je)
  have Js := aiU (pP.out.keep je)
  have tH := aiU P9.out.range
  have B3 := aiU (BY.out.trans (je.mono BY.out.size))
  have L3 := aiU (show w.heap.size + 1 < q3 by have := hb3.size; omega)
  have s0 := (je.cell (p := ⟨jA, 0, none⟩) lY).trans z0
  have s1 := (je.cell (p := ⟨jA, 1, none⟩) lY).trans z1
  have s2 := (je.cell (p := ⟨jA, 2, none⟩) lY).trans z2
  have s3 := (je.cell (p := ⟨jA, 3, none⟩) lY).trans z3
  have s4 := (je.cell (p := ⟨jA, 4, none⟩) lY).trans z4
  have Xu : jA < Y3.heap.size := by have := je.size; omega
  have kH := aiU (refine_any 22 a b c im h0' bz gJ.out true Y3 (Fy.out.below je))
  clear wh b3 je hq3 hb3
  rcases hy : fu ⟨22, a, b, c, im⟩ bz true with _ | ry
  ·rw [hy] at kH
   have HY := aiU (tN.out _ _ HX.out hy)
   clear hy
   go_upto_region 8 with (first | (refine wpList_load_mid rfl _ _ rfl _ _ rfl (aa bz) _ tH.out Tryz.underlying174 rfl (hi3 gJ.out.len) ?_) | (go_at_call 108; refine kH.out.mono ?_; rintro e w4 ⟨rfl, hb4⟩; unfold dB) | (refine wpList_store_row rfl 174 (.tmp 13) (.tmp 70) rfl w4.heap.size (aa aA).toArray rfl rfl 174 _ (heap_alloc_new _ _) (hi4 aF) (hi6 aF aF) (ay aA) ?_))
   obtain ⟨Y4, j7⟩ : ∃ Y4, (w4.alloc (.cells ai3.toArray 174)).setRow w4.heap.size (aa aA).toArray = Y4 := ⟨_, rfl⟩
   rw [j7]
   have b4 : Below w4.heap.size w4 Y4 := j7 ▸ below_setRow ((Below.refl _ _).alloc (Nat.le_refl _) _) (Nat.le_refl _) _
   have K4 := aiU (show aN Y4 w4.heap.size 174 aA from j7 ▸ aN.row (z := aA) (heap_alloc_new _ _))
   have ku : Below Y3.heap.size Y3 Y4 := hb4.trans (b4.mono hb4.size)
   have Bx := aiU (K3.out.keep ku)
   have oK := aiU Bx.out.range
   have zw := aiU K4.out.range
   have tF := aiU (Js.out.keep ku)
   have B4 := aiU (B3.out.trans (ku.mono B3.out.size))
   clear j7 b4 ku hb4
   go_wp2_with (first | (refine wpList_load_mid rfl _ _ rfl _ _ rfl (aa aA) _ zw.out Tryz.underlying174 rfl (hi3 aF) ?_) | (refine wpList_store_row rfl 174 (.tmp 8) (.tmp 75) rfl (w.heap.size + 1) (aa aA).toArray rfl rfl 174 _ tF.out (hi4 aF) (hi6 aF aF) (ay aA) ?_))
   refine bodyPost_ret (bE Tryz.results88 _ (w.heap.size + 1) aF rfl (aN.row tF.out)) rfl ⟨?_, below_setRow B4.out ahU _⟩
   rw [HY.out]; rfl
  ·rw [hy] at kH
   have HY := aiU (tN.out _ _ HX.out hy)
   have RY := aiU (dY gJ.out hy)
   clear hy
   go_upto_region 8 with (first | (refine wpList_load_mid rfl _ _ rfl _ _ rfl (aa bz) _ tH.out Tryz.underlying174 rfl (hi3 gJ.out.len) ?_) | (go_at_call 108; refine kH.out.mono ?_; rintro e w4 ⟨rfl, hb4⟩; unfold dB) | (refine wpList_store_row rfl 174 (.tmp 13) (.tmp 70) rfl w4.heap.size (aa ry).toArray rfl rfl 174 _ (heap_alloc_new _ _) (hi4 RY.out.len) (hi6 RY.out.len aF) (ay ry) ?_))
   obtain ⟨Y4, j7⟩ : ∃ Y4, (w4.alloc (.cells ai3.toArray 174)).setRow w4.heap.size (aa ry).toArray = Y4 := ⟨_, rfl⟩
   rw [j7]
   have b4 : Below w4.heap.size w4 Y4 := j7 ▸ below_setRow ((Below.refl _ _).alloc (Nat.le_refl _) _) (Nat.le_refl _) _
   have K4 := aiU (show aN Y4 w4.heap.size 174 ry from j7 ▸ aN.row (z := aA) (heap_alloc_new _ _))
   have ku : Below Y3.heap.size Y3 Y4 := hb4.trans (b4.mono hb4.size)
   have Bx := aiU (K3.out.keep ku)
   have oK := aiU Bx.out.range
   have zw := aiU K4.out.range
   have tF := aiU (Js.out.keep ku)
   have B4 := aiU (B3.out.trans (ku.mono B3.out.size))
   clear j7 b4 ku hb4
   go_wp2_with (first | (refine wpList_load_mid rfl _ _ rfl _ _ rfl (aa ry) _ zw.out Tryz.underlying174 rfl (hi3 RY.out.len) ?_) | (refine wpList_store_row rfl 174 (.tmp 8) (.tmp 75) rfl (w.heap.size + 1) (aa ry).toArray rfl rfl 174 _ tF.out (hi4 RY.out.len) (hi6 RY.out.len aF) (ay ry) ?_))
   refine bodyPost_ret (bE Tryz.results88 _ (w.heap.size + 1) RY.out.len rfl (aN.row tF.out)) rfl ⟨?_, below_setRow B4.out ahU _⟩
   rw [HY.out]; rfl
 ·rw [hx] at nP
  have HX := aiU hx
  have RX := aiU (dY gJ.out hx)
  clear hx
  go_upto_region 7 with (first | (refine wpList_load_mid rfl _ _ rfl _ _ rfl (aa bz) _ lF.out Tryz.underlying174 rfl (hi3 gJ.out.len) ?_) | (go_at_call 108; refine nP.out.mono ?_; rintro e w3 ⟨rfl, hb3⟩; unfold dB) | (refine wpList_store_row rfl 174 (.tmp 11) (.tmp 64) rfl w3.heap.size (aa rx).toArray rfl rfl 174 _ (heap_alloc_new _ _) (hi4 RX.out.len) (hi6 RX.out.len aF) (ay rx) ?_))
  obtain ⟨Y3, wh⟩ : ∃ Y3, (w3.alloc (.cells ai3.toArray 174)).setRow w3.heap.size (aa rx).toArray = Y3 := ⟨_, rfl⟩
  rw [wh]
  have b3 : Below w3.heap.size w3 Y3 := wh ▸ below_setRow ((Below.refl _ _).alloc (Nat.le_refl _) _) (Nat.le_refl _) _
  have K3 := aiU (show aN Y3 w3.heap.size 174 rx from wh ▸ aN.row (z := aA) (heap_alloc_new _ _))
  have je : Below Y.heap.size Y Y3 := hb3.trans (b3.mono hb3.size)
  obtain ⟨q3, hq3⟩ : ∃ q3, w3.heap.size = q3 := ⟨_, rfl⟩
  rw [hq3] at K3
  rw [hq3]
  have P9 := aiU (w8.out.keep je)
  have Js := aiU (pP.out.keep je)
  have tH := aiU P9.out.range
  have B3 := aiU (BY.out.trans (je.mono BY.out.size))
  have L3 := aiU (show w.heap.size + 1 < q3 by have := hb3.size; omega)
  have s0 := (je.cell (p := ⟨jA, 0, none⟩) lY).trans z0
  have s1 := (je.cell (p := ⟨jA, 1, none⟩) lY).trans z1
  have s2 := (je.cell (p := ⟨jA, 2, none⟩) lY).trans z2
  have s3 := (je.cell (p := ⟨jA, 3, none⟩) lY).trans z3
  have s4 := (je.cell (p := ⟨jA, 4, none⟩) lY).trans z4
  have Xu : jA < Y3.heap.size := by have := je.size; omega
  have kH := aiU (refine_any 22 a b c im h0' bz gJ.out true Y3 (Fy.out.below je))
  clear wh b3 je hq3 hb3
  rcases hy : fu ⟨22, a, b, c, im⟩ bz true with _ | ry
  ·rw [hy] at kH
   have HY := aiU (tN.out _ _ HX.out hy)
   clear hy
   go_upto_region 8 with (first | (refine wpList_load_mid rfl _ _ rfl _ _ rfl (aa bz) _ tH.out Tryz.underlying174 rfl (hi3 gJ.out.len) ?_) | (go_at_call 108; refine kH.out.mono ?_; rintro e w4 ⟨rfl, hb4⟩; unfold dB) | (refine wpList_store_row rfl 174 (.tmp 13) (.tmp 70) rfl w4.heap.size (aa aA).toArray rfl rfl 174 _ (heap_alloc_new _ _) (hi4 aF) (hi6 aF aF) (ay aA) ?_))
   obtain ⟨Y4, j7⟩ : ∃ Y4, (w4.alloc (.cells ai3.toArray 174)).setRow w4.heap.size (aa aA).toArray = Y4 := ⟨_, rfl⟩
   rw [j7]
   have b4 : Below w4.heap.size w4 Y4 := j7 ▸ below_setRow ((Below.refl _ _).alloc (Nat.le_refl _) _) (Nat.le_refl _) _
   have K4 := aiU (show aN Y4 w4.heap.size 174 aA from j7 ▸ aN.row (z := aA) (heap_alloc_new _ _))
   have ku : Below Y3.heap.size Y3 Y4 := hb4.trans (b4.mono hb4.size)
   have Bx := aiU (K3.out.keep ku)
   have oK := aiU Bx.out.range
   have zw := aiU K4.out.range
   have tF := aiU (Js.out.keep ku)
   have B4 := aiU (B3.out.trans (ku.mono B3.out.size))
   clear j7 b4 ku hb4
   go_wp2_with (first | (refine wpList_load_mid rfl _ _ rfl _ _ rfl (aa rx) _ oK.out Tryz.underlying174 rfl (hi3 RX.out.len) ?_) | (refine wpList_store_row rfl 174 (.tmp 8) (.tmp 80) rfl (w.heap.size + 1) (aa rx).toArray rfl rfl 174 _ tF.out (hi4 RX.out.len) (hi6 RX.out.len aF) (ay rx) ?_))
   refine bodyPost_ret (bE Tryz.results88 _ (w.heap.size + 1) RX.out.len rfl (aN.row tF.out)) rfl ⟨?_, below_setRow B4.out ahU _⟩
   rw [HY.out]; rfl
  ·rw [hy] at kH
   have HY := aiU (tN.out _ _ HX.out hy)
   have RY := aiU (dY gJ.out hy)
   clear hy
   go_upto_region 8 with (first | (refine wpList_load_mid rfl _ _ rfl _ _ rfl (aa bz) _ tH.out Tryz.underlying174 rfl (hi3 gJ.out.len) ?_) | (go_at_call 108; refine kH.out.mono ?_; rintro e w4 ⟨rfl, hb4⟩; unfold dB) | (refine wpList_store_row rfl 174 (.tmp 13) (.tmp 70) rfl w4.heap.size (aa ry).toArray rfl rfl 174 _ (heap_alloc_new _ _) (hi4 RY.out.len) (hi6 RY.out.len aF) (ay ry) ?_))
   obtain ⟨Y4, j7⟩ : ∃ Y4, (w4.alloc (.cells ai3.toArray 174)).setRow w4.heap.size (aa ry).toArray = Y4 := ⟨_, rfl⟩
   rw [j7]
   have b4 : Below w4.heap.size w4 Y4 := j7 ▸ below_setRow ((Below.refl _ _).alloc (Nat.le_refl _) _) (Nat.le_refl _) _
   have K4 := aiU (show aN Y4 w4.heap.size 174 ry from j7 ▸ aN.row (z := aA) (heap_alloc_new _ _))
   have ku : Below Y3.heap.size Y3 Y4 := hb4.trans (b4.mono hb4.size)
   have Bx := aiU (K3.out.keep ku)
   have oK := aiU Bx.out.range
   have zw := aiU K4.out.range
   have tF := aiU (Js.out.keep ku)
   have B4 := aiU (B3.out.trans (ku.mono B3.out.size))
   clear j7 b4 ku hb4
   have N4 := aiU (jo 105 bH (fun _ _ => by kernel_rfl) r7 rx ry RX.out.len RY.out.len Y4)
   have RJ := aiU (RX.out.join RY.out)
   go_wp2_with (first | (refine wpList_load_mid rfl _ _ rfl _ _ rfl (aa rx) _ oK.out Tryz.underlying174 rfl (hi3 RX.out.len) ?_) | (refine wpList_load_mid rfl _ _ rfl _ _ rfl (aa ry) _ zw.out Tryz.underlying174 rfl (hi3 RY.out.len) ?_) | (go_at_call 104; refine N4.out.mono ?_; rintro e w5 ⟨rfl, hb5⟩) | (refine wpList_store_row rfl 174 (.tmp 8) (.tmp 84) rfl (w.heap.size + 1) (aa (bO rx ry)).toArray rfl rfl 174 _ (tF.out.keep hb5) (hi4 RJ.out.len) (hi6 RJ.out.len aF) (ay (bO rx ry)) ?_))
   refine bodyPost_ret (bE Tryz.results88 _ (w.heap.size + 1) RJ.out.len rfl (aN.row (tF.out.keep hb5))) rfl ⟨?_, below_setRow (B4.out.trans (hb5.mono B4.out.size)) ahU _⟩
   rw [HY.out]; rfl
theorem AP {V w : World} {ab cb rb ib pb : Nat} {bv pv : Value} {G : List aU} {B : List AB} {val : Nat → Value} {s : AS} (h : An V w ab cb rb ib pb bv pv G B val s) {k : Nat} {bl : AB} (hk : B[k]? = some bl) (hne : bl.code ≠ []) (fc : bl.nx.length ≤ 1000) (op a b c im : Int) (h0' : 0 ≤ op) (gz : bl.last = ⟨op, a, b, c, im⟩) (hop : op = 23) (j : Nat) (hu2 : bl.nx.length ≠ 2) (bz : RG) (h16 : R16 bz) (T : gZ w) :
  Calls Tryz.prog 88 #[.pointer (some ⟨ab, 0, none⟩), .int .i64 (k : Int), .int .i64 (j : Int), .agg (aa bz).toArray] w fun e w' => e = .returned (dB (dW bl.last bl.nx.length j bz)) ∧ Below w.heap.size w w' := by
 subst hop
 have Au := gz
 have hkl := (List.getElem?_eq_some_iff.1 hk).1
 have zm := h.lB
 obtain ⟨V0, gC, kx, kz, b0, s0⟩ := ji w (aa bz).toArray ai3.toArray 174 174
 have h0 := h.below b0
 obtain ⟨l1, l2, l3, l4, l5⟩ := h0.lt
 obtain ⟨c0, c2, -, -, -⟩ := h0.cells
 have dk : (k : Int) < (B.length : Int) := by omega
 obtain ⟨q, cap, x2, cX, IU, Nn, i0, i1, i2, i3, i4⟩ := h0.last hk hne gz
 obtain ⟨g, off, aY, nA, di, mV, g1, g2, g3, nc, n1, n2, n3⟩ := h0.next hk
 have hm1 : 1 ≤ bl.code.length := List.length_pos_iff.2 hne
 have hnl : bl.nx.length ≤ 1000000 := by have := fc; omega
 obtain ⟨n, hn⟩ : ∃ n, B.length = n := ⟨_, rfl⟩
 obtain ⟨m, hm⟩ : ∃ m, bl.code.length = m := ⟨_, rfl⟩
 obtain ⟨u, hu⟩ : ∃ u, bl.nx.length = u := ⟨_, rfl⟩
 rw [mV] at c0
 rw [hn] at c0 c2 dk zm g1
 rw [hm] at x2 cX i0 i1 i2 i3 i4 hm1
 rw [hu] at nc n1 n3 hnl
 simp only at i0 i1 i2 i3 i4
 have dm : IntKind.i64.wrap ((m : Int) - 1) = ((m - 1 : Nat) : Int) := by
  rw [IntWalk.i64_in _ ahU]; omega
 have dm2 : ((m - 1 : Nat) : Int) < (m : Int) := by omega
 have KX := aiU (show aN V0 w.heap.size 174 bz from kx)
 have KZ := aiU (show aN V0 (w.heap.size + 1) 174 aA from kz)
 have B0 := aiU b0
 have S0 := aiU s0
 have HU := aiU hu
 have HT := aiU (T.below b0)
 have gJ := aiU h16
 clear h hk hne T h0 kx kz b0 s0 hkl mV n3 hu hm hn h16 gz fc
 go_enter Tryz.func88, Tryz.ntmps88
 go_upto_region 1 with fail
 clear gC
 go_cut [10] from 15 to 32 (fun a10 wx => ∃ jA, a10 = .pointer (some ⟨jA, 0, none⟩) ∧ wx.heap[jA]? = some (.cells #[.int .u8 23, .int .i64 a, .int .i64 b, .int .i64 c, .int .i64 im] 67 (0, 0)) ∧ Below V0.heap.size V0 wx)
 case first =>
  go_region
  all_goals
   go_wp2_with fail
   go_meet
   case rel =>
    exact ⟨_, rfl, heap_alloc_new _ _, (Below.drew (Below.refl _ _)).alloc (Nat.le_refl _) _⟩
 obtain ⟨jA, rfl, Cg, bY⟩ := hcut
 obtain ⟨Y, hY⟩ : ∃ Y : World, Y = wc := ⟨_, rfl⟩
 subst hY
 obtain ⟨z0, z1, z2, z3, z4, lY⟩ := bP Cg
 have BY := aiU (B0.out.trans (bY.mono B0.out.size))
 have Rz := aiU bY
 have w8 := aiU (KX.out.keep bY)
 have pP := aiU (KZ.out.keep bY)
 have Fy := aiU (HT.out.below bY)
 have lF := aiU w8.out.range
 have w1 : ab < Y.heap.size := by have := bY.size; omega
 have w2 : g < Y.heap.size := by have := bY.size; omega
 have lw : w.heap.size < Y.heap.size := w8.out.lt
 have lw1 : w.heap.size + 1 < Y.heap.size := pP.out.lt
 have y0 : Y.cell? ⟨ab, 0, none⟩ = _ := (bY.cell (p := ⟨ab, 0, none⟩) l1).trans c0
 have y1 : Y.cell? ⟨g, off + k * 3 + 2, none⟩ = _ := (bY.cell (p := ⟨g, off + k * 3 + 2, none⟩) g3).trans nc
 clear bY Cg c0 c2 nc x2 i0 i1 i2 i3 i4
 have du : ((u : Int) == 2) = false := by have := HU.out; rw [beq_eq_false_iff_ne]; omega
 have tN := aiU (show ∀ x y, fu ⟨23, a, b, c, im⟩ bz false = x → fu ⟨23, a, b, c, im⟩ bz true = y → dW bl.last bl.nx.length j bz = match x, y with | none, y => y | some x, none => some x | some x, some y => some (bO x y) from fun x y hx hy => by
  unfold dW
  rw [Au, if_neg ahZ, if_neg hu2, hx, hy]
  rfl)
 have nP := aiU (refine_any 23 a b c im h0' bz gJ.out false Y Fy.out)
 rcases hx : fu ⟨23, a, b, c, im⟩ bz false with _ | rx
 ·rw [hx] at nP
  have HX := aiU hx
  clear hx
  go_upto_region 7 with (first | (refine wpList_load_mid rfl _ _ rfl _ _ rfl (aa bz) _ lF.out Tryz.underlying174 rfl (hi3 gJ.out.len) ?_) | (go_at_call 108; refine nP.out.mono ?_; rintro e w3 ⟨rfl, hb3⟩; unfold dB) | (refine wpList_store_row rfl 174 (.tmp 11) (.tmp 64) rfl w3.heap.size (aa aA).toArray rfl rfl 174 _ (heap_alloc_new _ _) (hi4 aF) (hi6 aF aF) (ay aA) ?_))
  obtain ⟨Y3, wh⟩ : ∃ Y3, (w3.alloc (.cells ai3.toArray 174)).setRow w3.heap.size (aa aA).toArray = Y3 := ⟨_, rfl⟩
  rw [wh]
  have b3 : Below w3.heap.size w3 Y3 := wh ▸ below_setRow ((Below.refl _ _).alloc (Nat.le_refl _) _) (Nat.le_refl _) _
  have K3 := aiU (show aN Y3 w3.heap.size 174 aA from wh ▸ aN.row (z := aA) (heap_alloc_new _ _))
  have je : Below Y.heap.size Y Y3 := hb3.trans (b3.mono hb3.size)
  obtain ⟨q3, hq3⟩ : ∃ q3, w3.heap.size = q3 := ⟨_, rfl⟩
  rw [hq3] at K3
  rw [hq3]
  have P9 := aiU (w8.out.keep je)
  have Js := aiU (pP.out.keep je)
  have tH := aiU P9.out.range
  have B3 := aiU (BY.out.trans (je.mono BY.out.size))
  have L3 := aiU (show w.heap.size + 1 < q3 by have := hb3.size; omega)
  have s0 := (je.cell (p := ⟨jA, 0, none⟩) lY).trans z0
  have s1 := (je.cell (p := ⟨jA, 1, none⟩) lY).trans z1
  have s2 := (je.cell (p := ⟨jA, 2, none⟩) lY).trans z2
  have s3 := (je.cell (p := ⟨jA, 3, none⟩) lY).trans z3
  have s4 := (je.cell (p := ⟨jA, 4, none⟩) lY).trans z4
  have Xu : jA < Y3.heap.size := by have := je.size; omega
  have kH := aiU (refine_any 23 a b c im h0' bz gJ.out true Y3 (Fy.out.below je))
  clear wh b3 je hq3 hb3
  rcases hy : fu ⟨23, a, b, c, im⟩ bz true with _ | ry
  ·rw [hy] at kH
   have HY := aiU (tN.out _ _ HX.out hy)
   clear hy
   go_upto_region 8 with (first | (refine wpList_load_mid rfl _ _ rfl _ _ rfl (aa bz) _ tH.out Tryz.underlying174 rfl (hi3 gJ.out.len) ?_) | (go_at_call 108; refine kH.out.mono ?_; rintro e w4 ⟨rfl, hb4⟩; unfold dB) | (refine wpList_store_row rfl 174 (.tmp 13) (.tmp 70) rfl w4.heap.size (aa aA).toArray rfl rfl 174 _ (heap_alloc_new _ _) (hi4 aF) (hi6 aF aF) (ay aA) ?_))
   obtain ⟨Y4, j7⟩ : ∃ Y4, (w4.alloc (.cells ai3.toArray 174)).setRow w4.heap.size (aa aA).toArray = Y4 := ⟨_, rfl⟩
   rw [j7]
   have b4 : Below w4.heap.size w4 Y4 := j7 ▸ below_setRow ((Below.refl _ _).alloc (Nat.le_refl _) _) (Nat.le_refl _) _
   have K4 := aiU (show aN Y4 w4.heap.size 174 aA from j7 ▸ aN.row (z := aA) (heap_alloc_new _ _))
   have ku : Below Y3.heap.size Y3 Y4 := hb4.trans (b4.mono hb4.size)
   have Bx := aiU (K3.out.keep ku)
   have oK := aiU Bx.out.range
   have zw := aiU K4.out.range
   have tF := aiU (Js.out.keep ku)
   have B4 := aiU (B3.out.trans (ku.mono B3.out.size))
   clear j7 b4 ku hb4
   go_wp2_with (first | (refine wpList_load_mid rfl _ _ rfl _ _ rfl (aa aA) _ zw.out Tryz.underlying174 rfl (hi3 aF) ?_) | (refine wpList_store_row rfl 174 (.tmp 8) (.tmp 75) rfl (w.heap.size + 1) (aa aA).toArray rfl rfl 174 _ tF.out (hi4 aF) (hi6 aF aF) (ay aA) ?_))
   refine bodyPost_ret (bE Tryz.results88 _ (w.heap.size + 1) aF rfl (aN.row tF.out)) rfl ⟨?_, below_setRow B4.out ahU _⟩
   rw [HY.out]; rfl
  ·rw [hy] at kH
   have HY := aiU (tN.out _ _ HX.out hy)
   have RY := aiU (dY gJ.out hy)
   clear hy
   go_upto_region 8 with (first | (refine wpList_load_mid rfl _ _ rfl _ _ rfl (aa bz) _ tH.out Tryz.underlying174 rfl (hi3 gJ.out.len) ?_) | (go_at_call 108; refine kH.out.mono ?_; rintro e w4 ⟨rfl, hb4⟩; unfold dB) | (refine wpList_store_row rfl 174 (.tmp 13) (.tmp 70) rfl w4.heap.size (aa ry).toArray rfl rfl 174 _ (heap_alloc_new _ _) (hi4 RY.out.len) (hi6 RY.out.len aF) (ay ry) ?_))
   obtain ⟨Y4, j7⟩ : ∃ Y4, (w4.alloc (.cells ai3.toArray 174)).setRow w4.heap.size (aa ry).toArray = Y4 := ⟨_, rfl⟩
   rw [j7]
   have b4 : Below w4.heap.size w4 Y4 := j7 ▸ below_setRow ((Below.refl _ _).alloc (Nat.le_refl _) _) (Nat.le_refl _) _
   have K4 := aiU (show aN Y4 w4.heap.size 174 ry from j7 ▸ aN.row (z := aA) (heap_alloc_new _ _))
   have ku : Below Y3.heap.size Y3 Y4 := hb4.trans (b4.mono hb4.size)
   have Bx := aiU (K3.out.keep ku)
   have oK := aiU Bx.out.range
   have zw := aiU K4.out.range
   have tF := aiU (Js.out.keep ku)
   have B4 := aiU (B3.out.trans (ku.mono B3.out.size))
   clear j7 b4 ku hb4
   go_wp2_with (first | (refine wpList_load_mid rfl _ _ rfl _ _ rfl (aa ry) _ zw.out Tryz.underlying174 rfl (hi3 RY.out.len) ?_) | (refine wpList_store_row rfl 174 (.tmp 8) (.tmp 75) rfl (w.heap.size + 1) (aa ry).toArray rfl rfl 174 _ tF.out (hi4 RY.out.len) (hi6 RY.out.len aF) (ay ry) ?_))
   refine bodyPost_ret (bE Tryz.results88 _ (w.heap.size + 1) RY.out.len rfl (aN.row tF.out)) rfl ⟨?_, below_setRow B4.out ahU _⟩
   rw [HY.out]; rfl
 ·rw [hx] at nP
  have HX := aiU hx
  have RX := aiU (dY gJ.out hx)
  clear hx
  go_upto_region 7 with (first | (refine wpList_load_mid rfl _ _ rfl _ _ rfl (aa bz) _ lF.out Tryz.underlying174 rfl (hi3 gJ.out.len) ?_) | (go_at_call 108; refine nP.out.mono ?_; rintro e w3 ⟨rfl, hb3⟩; unfold dB) | (refine wpList_store_row rfl 174 (.tmp 11) (.tmp 64) rfl w3.heap.size (aa rx).toArray rfl rfl 174 _ (heap_alloc_new _ _) (hi4 RX.out.len) (hi6 RX.out.len aF) (ay rx) ?_))
  obtain ⟨Y3, wh⟩ : ∃ Y3, (w3.alloc (.cells ai3.toArray 174)).setRow w3.heap.size (aa rx).toArray = Y3 := ⟨_, rfl⟩
  rw [wh]
  have b3 : Below w3.heap.size w3 Y3 := wh ▸ below_setRow ((Below.refl _ _).alloc (Nat.le_refl _) _) (Nat.le_refl _) _
  have K3 := aiU (show aN Y3 w3.heap.size 174 rx from wh ▸ aN.row (z := aA) (heap_alloc_new _ _))
  have je : Below Y.heap.size Y Y3 := hb3.trans (b3.mono hb3.size)
  obtain ⟨q3, hq3⟩ : ∃ q3, w3.heap.size = q3 := ⟨_, rfl⟩
  rw [hq3] at K3
  rw [hq3]
  have P9 := aiU (w8.out.keep je)
  have Js := aiU (pP.out.keep je)
  have tH := aiU P9.out.range
  have B3 := aiU (BY.out.trans (je.mono BY.out.size))
  have L3 := aiU (show w.heap.size + 1 < q3 by have := hb3.size; omega)
  have s0 := (je.cell (p := ⟨jA, 0, none⟩) lY).trans z0
  have s1 := (je.cell (p := ⟨jA, 1, none⟩) lY).trans z1
  have s2 := (je.cell (p := ⟨jA, 2, none⟩) lY).trans z2
  have s3 := (je.cell (p := ⟨jA, 3, none⟩) lY).trans z3
  have s4 := (je.cell (p := ⟨jA, 4, none⟩) lY).trans z4
  have Xu : jA < Y3.heap.size := by have := je.size; omega
  have kH := aiU (refine_any 23 a b c im h0' bz gJ.out true Y3 (Fy.out.below je))
  clear wh b3 je hq3 hb3
  rcases hy : fu ⟨23, a, b, c, im⟩ bz true with _ | ry
  ·rw [hy] at kH
   have HY := aiU (tN.out _ _ HX.out hy)
   clear hy
   go_upto_region 8 with (first | (refine wpList_load_mid rfl _ _ rfl _ _ rfl (aa bz) _ tH.out Tryz.underlying174 rfl (hi3 gJ.out.len) ?_) | (go_at_call 108; refine kH.out.mono ?_; rintro e w4 ⟨rfl, hb4⟩; unfold dB) | (refine wpList_store_row rfl 174 (.tmp 13) (.tmp 70) rfl w4.heap.size (aa aA).toArray rfl rfl 174 _ (heap_alloc_new _ _) (hi4 aF) (hi6 aF aF) (ay aA) ?_))
   obtain ⟨Y4, j7⟩ : ∃ Y4, (w4.alloc (.cells ai3.toArray 174)).setRow w4.heap.size (aa aA).toArray = Y4 := ⟨_, rfl⟩
   rw [j7]
   have b4 : Below w4.heap.size w4 Y4 := j7 ▸ below_setRow ((Below.refl _ _).alloc (Nat.le_refl _) _) (Nat.le_refl _) _
   have K4 := aiU (show aN Y4 w4.heap.size 174 aA from j7 ▸ aN.row (z := aA) (heap_alloc_new _ _))
   have ku : Below Y3.heap.size Y3 Y4 := hb4.trans (b4.mono hb4.size)
   have Bx := aiU (K3.out.keep ku)
   have oK := aiU Bx.out.range
   have zw := aiU K4.out.range
   have tF := aiU (Js.out.keep ku)
   have B4 := aiU (B3.out.trans (ku.mono B3.out.size))
   clear j7 b4 ku hb4
   go_wp2_with (first | (refine wpList_load_mid rfl _ _ rfl _ _ rfl (aa rx) _ oK.out Tryz.underlying174 rfl (hi3 RX.out.len) ?_) | (refine wpList_store_row rfl 174 (.tmp 8) (.tmp 80) rfl (w.heap.size + 1) (aa rx).toArray rfl rfl 174 _ tF.out (hi4 RX.out.len) (hi6 RX.out.len aF) (ay rx) ?_))
   refine bodyPost_ret (bE Tryz.results88 _ (w.heap.size + 1) RX.out.len rfl (aN.row tF.out)) rfl ⟨?_, below_setRow B4.out ahU _⟩
   rw [HY.out]; rfl
  ·rw [hy] at kH
   have HY := aiU (tN.out _ _ HX.out hy)
   have RY := aiU (dY gJ.out hy)
   clear hy
   go_upto_region 8 with (first | (refine wpList_load_mid rfl _ _ rfl _ _ rfl (aa bz) _ tH.out Tryz.underlying174 rfl (hi3 gJ.out.len) ?_) | (go_at_call 108; refine kH.out.mono ?_; rintro e w4 ⟨rfl, hb4⟩; unfold dB) | (refine wpList_store_row rfl 174 (.tmp 13) (.tmp 70) rfl w4.heap.size (aa ry).toArray rfl rfl 174 _ (heap_alloc_new _ _) (hi4 RY.out.len) (hi6 RY.out.len aF) (ay ry) ?_))
   obtain ⟨Y4, j7⟩ : ∃ Y4, (w4.alloc (.cells ai3.toArray 174)).setRow w4.heap.size (aa ry).toArray = Y4 := ⟨_, rfl⟩
   rw [j7]
   have b4 : Below w4.heap.size w4 Y4 := j7 ▸ below_setRow ((Below.refl _ _).alloc (Nat.le_refl _) _) (Nat.le_refl _) _
   have K4 := aiU (show aN Y4 w4.heap.size 174 ry from j7 ▸ aN.row (z := aA) (heap_alloc_new _ _))
   have ku : Below Y3.heap.size Y3 Y4 := hb4.trans (b4.mono hb4.size)
   have Bx := aiU (K3.out.keep ku)
   have oK := aiU Bx.out.range
   have zw := aiU K4.out.range
   have tF := aiU (Js.out.keep ku)
   have B4 := aiU (B3.out.trans (ku.mono B3.out.size))
   clear j7 b4 ku hb4
   have N4 := aiU (jo 105 bH (fun _ _ => by kernel_rfl) r7 rx ry RX.out.len RY.out.len Y4)
   have RJ := aiU (RX.out.join RY.out)
   go_wp2_with (first | (refine wpList_load_mid rfl _ _ rfl _ _ rfl (aa rx) _ oK.out Tryz.underlying174 rfl (hi3 RX.out.len) ?_) | (refine wpList_load_mid rfl _ _ rfl _ _ rfl (aa ry) _ zw.out Tryz.underlying174 rfl (hi3 RY.out.len) ?_) | (go_at_call 104; refine N4.out.mono ?_; rintro e w5 ⟨rfl, hb5⟩) | (refine wpList_store_row rfl 174 (.tmp 8) (.tmp 84) rfl (w.heap.size + 1) (aa (bO rx ry)).toArray rfl rfl 174 _ (tF.out.keep hb5) (hi4 RJ.out.len) (hi6 RJ.out.len aF) (ay (bO rx ry)) ?_))
   refine bodyPost_ret (bE Tryz.results88 _ (w.heap.size + 1) RJ.out.len rfl (aN.row (tF.out.keep hb5))) rfl ⟨?_, below_setRow (B4.out.trans (hb5.mono B4.out.size)) ahU _⟩
   rw [HY.out]; rfl
theorem yI {V w : World} {ab cb rb ib pb : Nat} {bv pv : Value} {G : List aU} {B : List AB} {val : Nat → Value} {s : AS} (h : An V w ab cb rb ib pb bv pv G B val s) {k : Nat} {bl : AB} (hk : B[k]? = some bl) (hne : bl.code ≠ []) (fc : bl.nx.length ≤ 1000) (h0 : 0 ≤ bl.last.op) (j : Nat) (bz : RG) (h16 : R16 bz) (T : gZ w) :
  Calls Tryz.prog 88 #[.pointer (some ⟨ab, 0, none⟩), .int .i64 (k : Int), .int .i64 (j : Int), .agg (aa bz).toArray] w fun e w' => e = .returned (dB (dW bl.last bl.nx.length j bz)) ∧ Below w.heap.size w w' := by
 obtain ⟨op, a, b, c, im, hl⟩ : ∃ op a b c im, bl.last = ⟨op, a, b, c, im⟩ := ⟨_, _, _, _, _, rfl⟩
 by_cases h2 : op = 22 ∨ op = 23
 ·have hE : bl.nx.length = 2 → dW bl.last bl.nx.length j bz = fu ⟨op, a, b, c, im⟩ bz (decide (j = 1)) := fun hu => by
   unfold dW
   rw [hl, if_neg (fun hh => hh h2), if_pos hu]
  by_cases hu : bl.nx.length = 2
  ·rw [hE hu]
   rcases h2 with e | e
   ·exact AL h hk hne fc op a b c im aiC hl e j hu bz h16 T
   ·exact AK h hk hne fc op a b c im aiC hl e j hu bz h16 T
  ·rcases h2 with e | e
   ·exact AQ h hk hne fc op a b c im aiC hl e j hu bz h16 T
   ·exact AP h hk hne fc op a b c im aiC hl e j hu bz h16 T
 ·have hE : dW bl.last bl.nx.length j bz = some bz := by unfold dW; rw [hl, if_pos h2]
  rw [hE]
  exact AO h hk hne fc op a b c im aiC hl ahU j bz h16 T
end
end Go.Proofs.YtlmgkipmfgijiaaGreatDoor
