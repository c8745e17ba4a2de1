/-
  What is proved here: parts aEd.
-/
import Derived.Test.YtebklpnkcicpjaaGreatDoorXa
import Derived.Test.YtebklpnkcicpjaaGreatDoorXj
import Derived.Test.YtebklpnkcicpjaaGreatDoorXi
import Derived.BigRegion
namespace Go.Proofs.YtebklpnkcicpjaaGreatDoor
set_option linter.unusedVariables false
set_option linter.unusedSimpArgs false
set_option maxRecDepth 100000
set_option maxHeartbeats 8000000
section
open Go.RowKit
theorem jH (w : World) (cA cB : Array Value) (tA tB : TypeId) : ∃ V, (w.alloc (.cells cA tA)).alloc (.cells cB tB) = V ∧ V.heap[w.heap.size]? = some (.cells cA tA (0, 0)) ∧ V.heap[w.heap.size + 1]? = some (.cells cB tB (0, 0)) ∧ Below w.heap.size w V ∧ V.heap.size = w.heap.size + 1 + 1 := by
 refine ⟨_, rfl, ?_, bB _ _ aby, ((Below.refl _ _).alloc (Nat.le_refl _) _).alloc aby _, by simp⟩
 rw [heap_alloc_old _ _ aby]; exact heap_alloc_new _ _
theorem An.last {V w : World} {ab cb rb ib pb : Nat} {bv pv : Value} {G : List dL} {B : List AB} {val : Nat → Value} {s : AS} (h : An V w ab cb rb ib pb bv pv G B val s) {k : Nat} {b : AB} (hk : B[k]? = some b) (hne : b.code ≠ []) {i : aZ} (hi : b.last = i) :
  ∃ q cap, w.cell? ⟨cb, k, none⟩ = some (.slice (some ⟨q, 0, none⟩) b.code.length cap) ∧ b.code.length ≤ cap ∧ cap ≤ 2 ^ 63 - 1 ∧ q < w.heap.size ∧ w.cell? ⟨q, (b.code.length - 1) * 5, none⟩ = some (.int .u8 i.op) ∧ w.cell? ⟨q, (b.code.length - 1) * 5 + 1, none⟩ = some (.int .i64 i.a) ∧ w.cell? ⟨q, (b.code.length - 1) * 5 + 2, none⟩ = some (.int .i64 i.b) ∧ w.cell? ⟨q, (b.code.length - 1) * 5 + 3, none⟩ = some (.int .i64 i.c) ∧ w.cell? ⟨q, (b.code.length - 1) * 5 + 4, none⟩ = some (.int .i64 i.aS) := by
 obtain ⟨c, hc⟩ := h.code hk
 have hl : b.code.length - 1 < b.code.length := by have := List.length_pos_iff.2 hne; omega
 rcases hc with ⟨_, e⟩ | ⟨q, cap, e1, e2, e3, e4, e5⟩
 ·exact absurd e hne
 ·refine ⟨q, cap, by rw [c, e1], e2, fX e3, e4, e5 _ i ?_⟩
  rw [← hi]
  unfold AB.last
  simp [List.getD, List.getElem?_eq_getElem hl]
theorem An.next {V w : World} {ab cb rb ib pb : Nat} {bv pv : Value} {G : List dL} {B : List AB} {val : Nat → Value} {s : AS} (h : An V w ab cb rb ib pb bv pv G B val s) {k : Nat} {b : AB} (hk : B[k]? = some b) :
  ∃ g off cap nA cT, bv = .slice (some ⟨g, off, none⟩) B.length cap ∧ B.length ≤ cap ∧ cap ≤ 2 ^ 63 - 1 ∧ g < w.heap.size ∧ w.cell? ⟨g, off + k * 3 + 2, none⟩ = some (.slice nA b.nx.length cT) ∧ b.nx.length ≤ cT ∧ cT ≤ 2 ^ 63 - 1 ∧ Ints w (.slice nA b.nx.length cT) b.nx := by
 have pF := (List.getElem?_eq_some_iff.1 hk).1
 have TK := h.lG
 obtain ⟨A, cap, h1, h2, h3, h4⟩ := h.Nj.below h.aF
 obtain ⟨g, off, rfl, hg, hc⟩ := h4 abo
 obtain ⟨x, hx⟩ : ∃ x, G[k]? = some x := ⟨_, List.getElem?_eq_getElem abo⟩
 obtain ⟨_, _, nv, c2, hn⟩ := hc k x hx
 have e := h.Uk k x b hx hk
 rw [e] at hn
 obtain ⟨nA, cT, rfl, n2, n3⟩ := ints_at hn
 rw [TK] at h1 h2
 exact ⟨g, off, cap, nA, cT, h1, h2, fX h3, hg, c2, n2, fX n3, hn⟩
theorem Ak {V w : World} {ab cb rb ib pb : Nat} {bv pv : Value} {G : List dL} {B : List AB} {val : Nat → Value} {s : AS} (h : An V w ab cb rb ib pb bv pv G B val s) {k : Nat} {bl : AB} (hk : B[k]? = some bl) (hne : bl.code ≠ []) (gQ : bl.nx.length ≤ 1000) (op a b c im : Int) (h0' : 0 ≤ op) (fV : bl.last = ⟨op, a, b, c, im⟩) (hop : op ≠ 22 ∧ op ≠ 23) (j : Nat) (bI : RG) (h16 : R16 bI) (T : iU w) :
  Calls Tryz.prog 27 #[.pointer (some ⟨ab, 0, none⟩), .int .i64 (k : Int), .int .i64 (j : Int), .agg (aa bI).toArray] w fun e w' => e = .returned (cM (some bI)) ∧ Below w.heap.size w w' := by
 have e1 : (op != 22) = true := by simp [bne_iff_ne]; omega
 have e2 : (op != 23) = true := by simp [bne_iff_ne]; omega
 clear hop
 have pF := (List.getElem?_eq_some_iff.1 hk).1
 have yE := h.lB
 obtain ⟨V0, gZ, kx, kz, b0, s0⟩ := jH w (aa bI).toArray acM.toArray 56 56
 have h0 := h.below b0
 obtain ⟨l1, l2, l3, l4, l5⟩ := h0.lt
 obtain ⟨c0, c2, -, -, -⟩ := h0.cells
 have dk : (k : Int) < (B.length : Int) := by omega
 obtain ⟨q, cap, x2, gF, Ib, Oi, i0, i1, i2, i3, i4⟩ := h0.last hk hne fV
 obtain ⟨g, off, cj, nA, cT, nG, g1, g2, g3, nc, n1, n2, n3⟩ := h0.next hk
 have hm1 : 1 ≤ bl.code.length := List.length_pos_iff.2 hne
 have hnl : bl.nx.length ≤ 1000000 := by have := gQ; omega
 obtain ⟨n, hn⟩ : ∃ n, B.length = n := ⟨_, rfl⟩
 obtain ⟨m, hm⟩ : ∃ m, bl.code.length = m := ⟨_, rfl⟩
 obtain ⟨u, hu⟩ : ∃ u, bl.nx.length = u := ⟨_, rfl⟩
 rw [nG] at c0
 rw [hn] at c0 c2 dk yE g1
 rw [hm] at x2 gF i0 i1 i2 i3 i4 hm1
 rw [hu] at nc n1 n3 hnl
 simp only at i0 i1 i2 i3 i4
 have dm : IntKind.i64.wrap ((m : Int) - 1) = ((m - 1 : Nat) : Int) := by
  rw [IntWalk.i64_in _ abo]; omega
 have dm2 : ((m - 1 : Nat) : Int) < (m : Int) := by omega
 have KX := acD (show aH V0 w.heap.size 56 bI from kx)
 have KZ := acD (show aH V0 (w.heap.size + 1) 56 aq from kz)
 have B0 := acD b0
 have S0 := acD s0
 have HU := acD hu
 have HT := acD (T.below b0)
 have gv := acD h16
 clear h hk hne T h0 kx kz b0 s0 pF nG n3 hu hm hn h16 fV gQ
 go_enter Tryz.func27, Tryz.ntmps27
 go_upto_region 1 with fail
 clear gZ
 go_cut [10] from 15 to 32 (fun a10 wx => ∃ jn, a10 = .pointer (some ⟨jn, 0, none⟩) ∧ wx.heap[jn]? = some (.cells #[.int .u8 op, .int .i64 a, .int .i64 b, .int .i64 c, .int .i64 im] 64 (0, 0)) ∧ Below V0.heap.size V0 wx)
 case first =>
  go_region
  all_goals
   go_wp2_with fail
   go_meet
   case rel =>
    exact ⟨_, rfl, heap_alloc_new _ _, (Below.drew (Below.refl _ _)).alloc (Nat.le_refl _) _⟩
 obtain ⟨jn, rfl, yD, bY⟩ := hcut
 obtain ⟨Y, hY⟩ : ∃ Y : World, Y = wc := ⟨_, rfl⟩
 subst hY
 obtain ⟨z0, z1, z2, z3, z4, lY⟩ := aQ yD
 have BY := acD (B0.out.trans (bY.mono B0.out.size))
 have OB := acD bY
 have wB := acD (KX.out.keep bY)
 have nB := acD (KZ.out.keep bY)
 have AP := acD (HT.out.below bY)
 have gK := acD wB.out.range
 have w1 : ab < Y.heap.size := by have := bY.size; omega
 have w2 : g < Y.heap.size := by have := bY.size; omega
 have lw : w.heap.size < Y.heap.size := wB.out.lt
 have lw1 : w.heap.size + 1 < Y.heap.size := nB.out.lt
 have y0 : Y.cell? ⟨ab, 0, none⟩ = _ := (bY.cell (p := ⟨ab, 0, none⟩) l1).trans c0
 have y1 : Y.cell? ⟨g, off + k * 3 + 2, none⟩ = _ := (bY.cell (p := ⟨g, off + k * 3 + 2, none⟩) g3).trans nc
 clear bY yD c0 c2 nc x2 i0 i1 i2 i3 i4
 go_wp2_with (first | (refine wpList_load_mid rfl _ _ rfl _ _ rfl (aa bI) _ gK.out Tryz.underlying56 rfl (hi3 gv.out.len) ?_) | (refine wpList_store_row rfl 56 (.tmp 8) (.tmp 41) rfl (w.heap.size + 1) (aa bI).toArray rfl rfl 56 _ nB.out (hi4 gv.out.len) (hi6 gv.out.len ak) (aj bI) ?_))
 refine bodyPost_ret (bg Tryz.results27 _ (w.heap.size + 1) gv.out.len rfl (aH.row nB.out)) rfl ⟨?_, ?_⟩
 ·rfl
 ·exact below_setRow BY.out abo _
theorem Aj {V w : World} {ab cb rb ib pb : Nat} {bv pv : Value} {G : List dL} {B : List AB} {val : Nat → Value} {s : AS} (h : An V w ab cb rb ib pb bv pv G B val s) {k : Nat} {bl : AB} (hk : B[k]? = some bl) (hne : bl.code ≠ []) (gQ : bl.nx.length ≤ 1000) (op a b c im : Int) (h0' : 0 ≤ op) (fV : bl.last = ⟨op, a, b, c, im⟩) (hop : op = 22) (j : Nat) (hu2 : bl.nx.length = 2) (bI : RG) (h16 : R16 bI) (T : iU w) :
  Calls Tryz.prog 27 #[.pointer (some ⟨ab, 0, none⟩), .int .i64 (k : Int), .int .i64 (j : Int), .agg (aa bI).toArray] w fun e w' => e = .returned (cM (dI ⟨op, a, b, c, im⟩ bI (decide (j = 1)))) ∧ Below w.heap.size w w' := by
 subst hop
 have pF := (List.getElem?_eq_some_iff.1 hk).1
 have yE := h.lB
 obtain ⟨V0, gZ, kx, kz, b0, s0⟩ := jH w (aa bI).toArray acM.toArray 56 56
 have h0 := h.below b0
 obtain ⟨l1, l2, l3, l4, l5⟩ := h0.lt
 obtain ⟨c0, c2, -, -, -⟩ := h0.cells
 have dk : (k : Int) < (B.length : Int) := by omega
 obtain ⟨q, cap, x2, gF, Ib, Oi, i0, i1, i2, i3, i4⟩ := h0.last hk hne fV
 obtain ⟨g, off, cj, nA, cT, nG, g1, g2, g3, nc, n1, n2, n3⟩ := h0.next hk
 have hm1 : 1 ≤ bl.code.length := List.length_pos_iff.2 hne
 have hnl : bl.nx.length ≤ 1000000 := by have := gQ; omega
 obtain ⟨n, hn⟩ : ∃ n, B.length = n := ⟨_, rfl⟩
 obtain ⟨m, hm⟩ : ∃ m, bl.code.length = m := ⟨_, rfl⟩
 obtain ⟨u, hu⟩ : ∃ u, bl.nx.length = u := ⟨_, rfl⟩
 rw [nG] at c0
 rw [hn] at c0 c2 dk yE g1
 rw [hm] at x2 gF i0 i1 i2 i3 i4 hm1
 rw [hu] at nc n1 n3 hnl
 simp only at i0 i1 i2 i3 i4
 have dm : IntKind.i64.wrap ((m : Int) - 1) = ((m - 1 : Nat) : Int) := by
  rw [IntWalk.i64_in _ abo]; omega
 have dm2 : ((m - 1 : Nat) : Int) < (m : Int) := by omega
 have KX := acD (show aH V0 w.heap.size 56 bI from kx)
 have KZ := acD (show aH V0 (w.heap.size + 1) 56 aq from kz)
 have B0 := acD b0
 have S0 := acD s0
 have HU := acD hu
 have HT := acD (T.below b0)
 have gv := acD h16
 clear h hk hne T h0 kx kz b0 s0 pF nG n3 hu hm hn h16 fV gQ
 go_enter Tryz.func27, Tryz.ntmps27
 go_upto_region 1 with fail
 clear gZ
 go_cut [10] from 15 to 32 (fun a10 wx => ∃ jn, a10 = .pointer (some ⟨jn, 0, none⟩) ∧ wx.heap[jn]? = some (.cells #[.int .u8 22, .int .i64 a, .int .i64 b, .int .i64 c, .int .i64 im] 64 (0, 0)) ∧ Below V0.heap.size V0 wx)
 case first =>
  go_region
  all_goals
   go_wp2_with fail
   go_meet
   case rel =>
    exact ⟨_, rfl, heap_alloc_new _ _, (Below.drew (Below.refl _ _)).alloc (Nat.le_refl _) _⟩
 obtain ⟨jn, rfl, yD, bY⟩ := hcut
 obtain ⟨Y, hY⟩ : ∃ Y : World, Y = wc := ⟨_, rfl⟩
 subst hY
 obtain ⟨z0, z1, z2, z3, z4, lY⟩ := aQ yD
 have BY := acD (B0.out.trans (bY.mono B0.out.size))
 have OB := acD bY
 have wB := acD (KX.out.keep bY)
 have nB := acD (KZ.out.keep bY)
 have AP := acD (HT.out.below bY)
 have gK := acD wB.out.range
 have w1 : ab < Y.heap.size := by have := bY.size; omega
 have w2 : g < Y.heap.size := by have := bY.size; omega
 have lw : w.heap.size < Y.heap.size := wB.out.lt
 have lw1 : w.heap.size + 1 < Y.heap.size := nB.out.lt
 have y0 : Y.cell? ⟨ab, 0, none⟩ = _ := (bY.cell (p := ⟨ab, 0, none⟩) l1).trans c0
 have y1 : Y.cell? ⟨g, off + k * 3 + 2, none⟩ = _ := (bY.cell (p := ⟨g, off + k * 3 + 2, none⟩) g3).trans nc
 clear bY yD c0 c2 nc x2 i0 i1 i2 i3 i4
 have du : ((u : Int) == 2) = true := by have := HU.out; rw [hu2] at this; rw [← this]; rfl
 obtain ⟨tk, Bj⟩ : ∃ tk, ((j : Int) == 1) = tk := ⟨_, rfl⟩
 have oK := acD (refine_any 22 a b c im h0' bI gv.out tk Y AP.out)
 have HJ := acD (show decide (j = 1) = tk by rw [← Bj, Bool.eq_iff_iff, decide_eq_true_eq, beq_iff_eq]; omega)
 rcases ho : dI ⟨22, a, b, c, im⟩ bI tk with _ | r2
 ·rw [ho] at oK
  have HN := acD ho
  clear ho
  go_wp2_with (first | (refine wpList_load_mid rfl _ _ rfl _ _ rfl (aa bI) _ gK.out Tryz.underlying56 rfl (hi3 gv.out.len) ?_) | (go_at_call 15; refine oK.out.mono ?_; rintro e w3 ⟨rfl, hb3⟩; unfold cM) | (refine wpList_store_row rfl 56 (.tmp 8) (.tmp 58) rfl (w.heap.size + 1) (aa aq).toArray rfl rfl 56 _ (nB.out.keep hb3) (hi4 ak) (hi6 ak ak) (aj aq) ?_))
  refine bodyPost_ret (bg Tryz.results27 _ (w.heap.size + 1) ak rfl (aH.row (nB.out.keep hb3))) rfl ⟨?_, ?_⟩
  ·rw [HJ.out, HN.out]; rfl
  ·exact below_setRow (BY.out.trans (hb3.mono BY.out.size)) abo _
 ·rw [ho] at oK
  have HN := acD ho
  have R2 := acD (dB gv.out ho)
  clear ho
  go_wp2_with (first | (refine wpList_load_mid rfl _ _ rfl _ _ rfl (aa bI) _ gK.out Tryz.underlying56 rfl (hi3 gv.out.len) ?_) | (go_at_call 15; refine oK.out.mono ?_; rintro e w3 ⟨rfl, hb3⟩; unfold cM) | (refine wpList_store_row rfl 56 (.tmp 8) (.tmp 58) rfl (w.heap.size + 1) (aa r2).toArray rfl rfl 56 _ (nB.out.keep hb3) (hi4 R2.out.len) (hi6 R2.out.len ak) (aj r2) ?_))
  refine bodyPost_ret (bg Tryz.results27 _ (w.heap.size + 1) R2.out.len rfl (aH.row (nB.out.keep hb3))) rfl ⟨?_, ?_⟩
  ·rw [HJ.out, HN.out]; rfl
  ·exact below_setRow (BY.out.trans (hb3.mono BY.out.size)) abo _
theorem Ai {V w : World} {ab cb rb ib pb : Nat} {bv pv : Value} {G : List dL} {B : List AB} {val : Nat → Value} {s : AS} (h : An V w ab cb rb ib pb bv pv G B val s) {k : Nat} {bl : AB} (hk : B[k]? = some bl) (hne : bl.code ≠ []) (gQ : bl.nx.length ≤ 1000) (op a b c im : Int) (h0' : 0 ≤ op) (fV : bl.last = ⟨op, a, b, c, im⟩) (hop : op = 23) (j : Nat) (hu2 : bl.nx.length = 2) (bI : RG) (h16 : R16 bI) (T : iU w) :
  Calls Tryz.prog 27 #[.pointer (some ⟨ab, 0, none⟩), .int .i64 (k : Int), .int .i64 (j : Int), .agg (aa bI).toArray] w fun e w' => e = .returned (cM (dI ⟨op, a, b, c, im⟩ bI (decide (j = 1)))) ∧ Below w.heap.size w w' := by
 subst hop
 have pF := (List.getElem?_eq_some_iff.1 hk).1
 have yE := h.lB
 obtain ⟨V0, gZ, kx, kz, b0, s0⟩ := jH w (aa bI).toArray acM.toArray 56 56
 have h0 := h.below b0
 obtain ⟨l1, l2, l3, l4, l5⟩ := h0.lt
 obtain ⟨c0, c2, -, -, -⟩ := h0.cells
 have dk : (k : Int) < (B.length : Int) := by omega
 obtain ⟨q, cap, x2, gF, Ib, Oi, i0, i1, i2, i3, i4⟩ := h0.last hk hne fV
 obtain ⟨g, off, cj, nA, cT, nG, g1, g2, g3, nc, n1, n2, n3⟩ := h0.next hk
 have hm1 : 1 ≤ bl.code.length := List.length_pos_iff.2 hne
 have hnl : bl.nx.length ≤ 1000000 := by have := gQ; omega
 obtain ⟨n, hn⟩ : ∃ n, B.length = n := ⟨_, rfl⟩
 obtain ⟨m, hm⟩ : ∃ m, bl.code.length = m := ⟨_, rfl⟩
 obtain ⟨u, hu⟩ : ∃ u, bl.nx.length = u := ⟨_, rfl⟩
 rw [nG] at c0
 rw [hn] at c0 c2 dk yE g1
 rw [hm] at x2 gF i0 i1 i2 i3 i4 hm1
 rw [hu] at nc n1 n3 hnl
 simp only at i0 i1 i2 i3 i4
 have dm : IntKind.i64.wrap ((m : Int) - 1) = ((m - 1 : Nat) : Int) := by
  rw [IntWalk.i64_in _ abo]; omega
 have dm2 : ((m - 1 : Nat) : Int) < (m : Int) := by omega
 have KX := acD (show aH V0 w.heap.size 56 bI from kx)
 have KZ := acD (show aH V0 (w.heap.size + 1) 56 aq from kz)
 have B0 := acD b0
 have S0 := acD s0
 have HU := acD hu
 have HT := acD (T.below b0)
 have gv := acD h16
 clear h hk hne T h0 kx kz b0 s0 pF nG n3 hu hm hn h16 fV gQ
 go_enter Tryz.func27, Tryz.ntmps27
 go_upto_region 1 with fail
 clear gZ
 go_cut [10] from 15 to 32 (fun a10 wx => ∃ jn, a10 = .pointer (some ⟨jn, 0, none⟩) ∧ wx.heap[jn]? = some (.cells #[.int .u8 23, .int .i64 a, .int .i64 b, .int .i64 c, .int .i64 im] 64 (0, 0)) ∧ Below V0.heap.size V0 wx)
 case first =>
  go_region
  all_goals
   go_wp2_with fail
   go_meet
   case rel =>
    exact ⟨_, rfl, heap_alloc_new _ _, (Below.drew (Below.refl _ _)).alloc (Nat.le_refl _) _⟩
 obtain ⟨jn, rfl, yD, bY⟩ := hcut
 obtain ⟨Y, hY⟩ : ∃ Y : World, Y = wc := ⟨_, rfl⟩
 subst hY
 obtain ⟨z0, z1, z2, z3, z4, lY⟩ := aQ yD
 have BY := acD (B0.out.trans (bY.mono B0.out.size))
 have OB := acD bY
 have wB := acD (KX.out.keep bY)
 have nB := acD (KZ.out.keep bY)
 have AP := acD (HT.out.below bY)
 have gK := acD wB.out.range
 have w1 : ab < Y.heap.size := by have := bY.size; omega
 have w2 : g < Y.heap.size := by have := bY.size; omega
 have lw : w.heap.size < Y.heap.size := wB.out.lt
 have lw1 : w.heap.size + 1 < Y.heap.size := nB.out.lt
 have y0 : Y.cell? ⟨ab, 0, none⟩ = _ := (bY.cell (p := ⟨ab, 0, none⟩) l1).trans c0
 have y1 : Y.cell? ⟨g, off + k * 3 + 2, none⟩ = _ := (bY.cell (p := ⟨g, off + k * 3 + 2, none⟩) g3).trans nc
 clear bY yD c0 c2 nc x2 i0 i1 i2 i3 i4
 have du : ((u : Int) == 2) = true := by have := HU.out; rw [hu2] at this; rw [← this]; rfl
 obtain ⟨tk, Bj⟩ : ∃ tk, ((j : Int) == 1) = tk := ⟨_, rfl⟩
 have oK := acD (refine_any 23 a b c im h0' bI gv.out tk Y AP.out)
 have HJ := acD (show decide (j = 1) = tk by rw [← Bj, Bool.eq_iff_iff, decide_eq_true_eq, beq_iff_eq]; omega)
 rcases ho : dI ⟨23, a, b, c, im⟩ bI tk with _ | r2
 ·rw [ho] at oK
  have HN := acD ho
  clear ho
  go_wp2_with (first | (refine wpList_load_mid rfl _ _ rfl _ _ rfl (aa bI) _ gK.out Tryz.underlying56 rfl (hi3 gv.out.len) ?_) | (go_at_call 15; refine oK.out.mono ?_; rintro e w3 ⟨rfl, hb3⟩; unfold cM) | (refine wpList_store_row rfl 56 (.tmp 8) (.tmp 58) rfl (w.heap.size + 1) (aa aq).toArray rfl rfl 56 _ (nB.out.keep hb3) (hi4 ak) (hi6 ak ak) (aj aq) ?_))
  refine bodyPost_ret (bg Tryz.results27 _ (w.heap.size + 1) ak rfl (aH.row (nB.out.keep hb3))) rfl ⟨?_, ?_⟩
  ·rw [HJ.out, HN.out]; rfl
  ·exact below_setRow (BY.out.trans (hb3.mono BY.out.size)) abo _
 ·rw [ho] at oK
  have HN := acD ho
  have R2 := acD (dB gv.out ho)
  clear ho
  go_wp2_with (first | (refine wpList_load_mid rfl _ _ rfl _ _ rfl (aa bI) _ gK.out Tryz.underlying56 rfl (hi3 gv.out.len) ?_) | (go_at_call 15; refine oK.out.mono ?_; rintro e w3 ⟨rfl, hb3⟩; unfold cM) | (refine wpList_store_row rfl 56 (.tmp 8) (.tmp 58) rfl (w.heap.size + 1) (aa r2).toArray rfl rfl 56 _ (nB.out.keep hb3) (hi4 R2.out.len) (hi6 R2.out.len ak) (aj r2) ?_))
  refine bodyPost_ret (bg Tryz.results27 _ (w.heap.size + 1) R2.out.len rfl (aH.row (nB.out.keep hb3))) rfl ⟨?_, ?_⟩
  ·rw [HJ.out, HN.out]; rfl
  ·exact below_setRow (BY.out.trans (hb3.mono BY.out.size)) abo _
theorem Am {V w : World} {ab cb rb ib pb : Nat} {bv pv : Value} {G : List dL} {B : List AB} {val : Nat → Value} {s : AS} (h : An V w ab cb rb ib pb bv pv G B val s) {k : Nat} {bl : AB} (hk : B[k]? = some bl) (hne : bl.code ≠ []) (gQ : bl.nx.length ≤ 1000) (op a b c im : Int) (h0' : 0 ≤ op) (fV : bl.last = ⟨op, a, b, c, im⟩) (hop : op = 22) (j : Nat) (hu2 : bl.nx.length ≠ 2) (bI : RG) (h16 : R16 bI) (T : iU w) :
  Calls Tryz.prog 27 #[.pointer (some ⟨ab, 0, none⟩), .int .i64 (k : Int), .int .i64 (j : Int), .agg (aa bI).toArray] w fun e w' => e = .returned (cM (dK bl.last bl.nx.length j bI)) ∧ Below w.heap.size w w' := by
 subst hop
 have zR := fV
 have pF := (List.getElem?_eq_some_iff.1 hk).1
 have yE := h.lB
 obtain ⟨V0, gZ, kx, kz, b0, s0⟩ := jH w (aa bI).toArray acM.toArray 56 56
 have h0 := h.below b0
 obtain ⟨l1, l2, l3, l4, l5⟩ := h0.lt
 obtain ⟨c0, c2, -, -, -⟩ := h0.cells
 have dk : (k : Int) < (B.length : Int) := by omega
 obtain ⟨q, cap, x2, gF, Ib, Oi, i0, i1, i2, i3, i4⟩ := h0.last hk hne fV
 obtain ⟨g, off, cj, nA, cT, nG, g1, g2, g3, nc, n1, n2, n3⟩ := h0.next hk
 have hm1 : 1 ≤ bl.code.length := List.length_pos_iff.2 hne
 have hnl : bl.nx.length ≤ 1000000 := by have := gQ; omega
 obtain ⟨n, hn⟩ : ∃ n, B.length = n := ⟨_, rfl⟩
 obtain ⟨m, hm⟩ : ∃ m, bl.code.length = m := ⟨_, rfl⟩
 obtain ⟨u, hu⟩ : ∃ u, bl.nx.length = u := ⟨_, rfl⟩
 rw [nG] at c0
 rw [hn] at c0 c2 dk yE g1
 rw [hm] at x2 gF i0 i1 i2 i3 i4 hm1
 rw [hu] at nc n1 n3 hnl
 simp only at i0 i1 i2 i3 i4
 have dm : IntKind.i64.wrap ((m : Int) - 1) = ((m - 1 : Nat) : Int) := by
  rw [IntWalk.i64_in _ abo]; omega
 have dm2 : ((m - 1 : Nat) : Int) < (m : Int) := by omega
 have KX := acD (show aH V0 w.heap.size 56 bI from kx)
 have KZ := acD (show aH V0 (w.heap.size + 1) 56 aq from kz)
 have B0 := acD b0
 have S0 := acD s0
 have HU := acD hu
 have HT := acD (T.below b0)
 have gv := acD h16
 clear h hk hne T h0 kx kz b0 s0 pF nG n3 hu hm hn h16 fV gQ
 go_enter Tryz.func27, Tryz.ntmps27
 go_upto_region 1 with fail
 clear gZ
 go_cut [10] from 15 to 32 (fun a10 wx => ∃ jn, a10 = .pointer (some ⟨jn, 0, none⟩) ∧ wx.heap[jn]? = some (.cells #[.int .u8 22, .int .i64 a, .int .i64 b, .int .i64 c, .int .i64 im] 64 (0, 0)) ∧ Below V0.heap.size V0 wx)
 case first =>
  go_region
  all_goals
   go_wp2_with fail
   go_meet
   case rel =>
    exact ⟨_, rfl, heap_alloc_new _ _, (Below.drew (Below.refl _ _)).alloc (Nat.le_refl _) _⟩
 obtain ⟨jn, rfl, yD, bY⟩ := hcut
 obtain ⟨Y, hY⟩ : ∃ Y : World, Y = wc := ⟨_, rfl⟩
 subst hY
 obtain ⟨z0, z1, z2, z3, z4, lY⟩ := aQ yD
 have BY := acD (B0.out.trans (bY.mono B0.out.size))
 have OB := acD bY
 have wB := acD (KX.out.keep bY)
 have nB := acD (KZ.out.keep bY)
 have AP := acD (HT.out.below bY)
 have gK := acD wB.out.range
 have w1 : ab < Y.heap.size := by have := bY.size; omega
 have w2 : g < Y.heap.size := by have := bY.size; omega
 have lw : w.heap.size < Y.heap.size := wB.out.lt
 have lw1 : w.heap.size + 1 < Y.heap.size := nB.out.lt
 have y0 : Y.cell? ⟨ab, 0, none⟩ = _ := (bY.cell (p := ⟨ab, 0, none⟩) l1).trans c0
 have y1 : Y.cell? ⟨g, off + k * 3 + 2, none⟩ = _ := (bY.cell (p := ⟨g, off + k * 3 + 2, none⟩) g3).trans nc
 clear bY yD c0 c2 nc x2 i0 i1 i2 i3 i4
 have du : ((u : Int) == 2) = false := by have := HU.out; rw [beq_eq_false_iff_ne]; omega
 have oI := acD (show ∀ x y, dI ⟨22, a, b, c, im⟩ bI false = x → dI ⟨22, a, b, c, im⟩ bI true = y → dK bl.last bl.nx.length j bI = match x, y with | none, y => y | some x, none => some x | some x, some y => some (bF x y) from fun x y hx hy => by
  unfold dK
  rw [zR, if_neg aby, if_neg hu2, hx, hy]
  rfl)
 have oK := acD (refine_any 22 a b c im h0' bI gv.out false Y AP.out)
 rcases hx : dI ⟨22, a, b, c, im⟩ bI false with _ | rx
 ·rw [hx] at oK
  have HX := acD hx
  clear hx
  go_upto_region 7 with (first | (refine wpList_load_mid rfl _ _ rfl _ _ rfl (aa bI) _ gK.out Tryz.underlying56 rfl (hi3 gv.out.len) ?_) | (go_at_call 15; refine oK.out.mono ?_; rintro e w3 ⟨rfl, hb3⟩; unfold cM) | (refine wpList_store_row rfl 56 (.tmp 11) (.tmp 64) rfl w3.heap.size (aa aq).toArray rfl rfl 56 _ (heap_alloc_new _ _) (hi4 ak) (hi6 ak ak) (aj aq) ?_))
  obtain ⟨Y3, vU⟩ : ∃ Y3, (w3.alloc (.cells acM.toArray 56)).setRow w3.heap.size (aa aq).toArray = Y3 := ⟨_, rfl⟩
  rw [vU]
  have b3 : Below w3.heap.size w3 Y3 := vU ▸ below_setRow ((Below.refl _ _).alloc (Nat.le_refl _) _) (Nat.le_refl _) _
  have K3 := acD (show aH Y3 w3.heap.size 56 aq from vU ▸ aH.row (z := aq) (heap_alloc_new _ _))
  have iR : Below Y.heap.size Y Y3 := hb3.trans (b3.mono hb3.size)
  obtain ⟨q3, hq3⟩ : ∃ q3, w3.heap.size = q3 := ⟨_, rfl⟩
  rw [hq3] at K3
  rw [hq3]
  have Nx := acD (wB.out.keep iR)
  have IC := acD (nB.out.keep iR)
  have s9 := acD Nx.out.range
  have B3 := acD (BY.out.trans (iR.mono BY.out.size))
  have L3 := acD (show w.heap.size + 1 < q3 by have := hb3.size; omega)
  have s0 := (iR.cell (p := ⟨jn, 0, none⟩) lY).trans z0
  have s1 := (iR.cell (p := ⟨jn, 1, none⟩) lY).trans z1
  have s2 := (iR.cell (p := ⟨jn, 2, none⟩) lY).trans z2
  have s3 := (iR.cell (p := ⟨jn, 3, none⟩) lY).trans z3
  have s4 := (iR.cell (p := ⟨jn, 4, none⟩) lY).trans z4
  have Tk : jn < Y3.heap.size := by have := iR.size; omega
  have j7 := acD (refine_any 22 a b c im h0' bI gv.out true Y3 (AP.out.below iR))
  clear vU b3 iR hq3 hb3
  rcases hy : dI ⟨22, a, b, c, im⟩ bI true with _ | ry
  ·rw [hy] at j7
   have HY := acD (oI.out _ _ HX.out hy)
   clear hy
   go_upto_region 8 with (first | (refine wpList_load_mid rfl _ _ rfl _ _ rfl (aa bI) _ s9.out Tryz.underlying56 rfl (hi3 gv.out.len) ?_) | (go_at_call 15; refine j7.out.mono ?_; rintro e w4 ⟨rfl, hb4⟩; unfold cM) | (refine wpList_store_row rfl 56 (.tmp 13) (.tmp 70) rfl w4.heap.size (aa aq).toArray rfl rfl 56 _ (heap_alloc_new _ _) (hi4 ak) (hi6 ak ak) (aj aq) ?_))
   obtain ⟨Y4, jS⟩ : ∃ Y4, (w4.alloc (.cells acM.toArray 56)).setRow w4.heap.size (aa aq).toArray = Y4 := ⟨_, rfl⟩
   rw [jS]
   have b4 : Below w4.heap.size w4 Y4 := jS ▸ below_setRow ((Below.refl _ _).alloc (Nat.le_refl _) _) (Nat.le_refl _) _
   have K4 := acD (show aH Y4 w4.heap.size 56 aq from jS ▸ aH.row (z := aq) (heap_alloc_new _ _))
   have jX : Below Y3.heap.size Y3 Y4 := hb4.trans (b4.mono hb4.size)
   have AL := acD (K3.out.keep jX)
   have p8 := acD AL.out.range
   have yH := acD K4.out.range
   have sQ := acD (IC.out.keep jX)
   have B4 := acD (B3.out.trans (jX.mono B3.out.size))
   clear jS b4 jX hb4
   go_wp2_with (first | (refine wpList_load_mid rfl _ _ rfl _ _ rfl (aa aq) _ yH.out Tryz.underlying56 rfl (hi3 ak) ?_) | (refine wpList_store_row rfl 56 (.tmp 8) (.tmp 75) rfl (w.heap.size + 1) (aa aq).toArray rfl rfl 56 _ sQ.out (hi4 ak) (hi6 ak ak) (aj aq) ?_))
   refine bodyPost_ret (bg Tryz.results27 _ (w.heap.size + 1) ak rfl (aH.row sQ.out)) rfl ⟨?_, below_setRow B4.out abo _⟩
   rw [HY.out]; rfl
  ·rw [hy] at j7
   have HY := acD (oI.out _ _ HX.out hy)
   have RY := acD (dB gv.out hy)
   clear hy
   go_upto_region 8 with (first | (refine wpList_load_mid rfl _ _ rfl _ _ rfl (aa bI) _ s9.out Tryz.underlying56 rfl (hi3 gv.out.len) ?_) | (go_at_call 15; refine j7.out.mono ?_; rintro e w4 ⟨rfl, hb4⟩; unfold cM) | (refine wpList_store_row rfl 56 (.tmp 13) (.tmp 70) rfl w4.heap.size (aa ry).toArray rfl rfl 56 _ (heap_alloc_new _ _) (hi4 RY.out.len) (hi6 RY.out.len ak) (aj ry) ?_))
   obtain ⟨Y4, jS⟩ : ∃ Y4, (w4.alloc (.cells acM.toArray 56)).setRow w4.heap.size (aa ry).toArray = Y4 := ⟨_, rfl⟩
   rw [jS]
   have b4 : Below w4.heap.size w4 Y4 := jS ▸ below_setRow ((Below.refl _ _).alloc (Nat.le_refl _) _) (Nat.le_refl _) _
   have K4 := acD (show aH Y4 w4.heap.size 56 ry from jS ▸ aH.row (z := aq) (heap_alloc_new _ _))
   have jX : Below Y3.heap.size Y3 Y4 := hb4.trans (b4.mono hb4.size)
   have AL := acD (K3.out.keep jX)
   have p8 := acD AL.out.range
   have yH := acD K4.out.range
   have sQ := acD (IC.out.keep jX)
   have B4 := acD (B3.out.trans (jX.mono B3.out.size))
   clear jS b4 jX hb4
   go_wp2_with (first | (refine wpList_load_mid rfl _ _ rfl _ _ rfl (aa ry) _ yH.out Tryz.underlying56 rfl (hi3 RY.out.len) ?_) | (refine wpList_store_row rfl 56 (.tmp 8) (.tmp 75) rfl (w.heap.size + 1) (aa ry).toArray rfl rfl 56 _ sQ.out (hi4 RY.out.len) (hi6 RY.out.len ak) (aj ry) ?_))
   refine bodyPost_ret (bg Tryz.results27 _ (w.heap.size + 1) RY.out.len rfl (aH.row sQ.out)) rfl ⟨?_, below_setRow B4.out abo _⟩
   rw [HY.out]; rfl
 ·rw [hx] at oK
  have HX := acD hx
  have RX := acD (dB gv.out hx)
  clear hx
  go_upto_region 7 with (first | (refine wpList_load_mid rfl _ _ rfl _ _ rfl (aa bI) _ gK.out Tryz.underlying56 rfl (hi3 gv.out.len) ?_) | (go_at_call 15; refine oK.out.mono ?_; rintro e w3 ⟨rfl, hb3⟩; unfold cM) | (refine wpList_store_row rfl 56 (.tmp 11) (.tmp 64) rfl w3.heap.size (aa rx).toArray rfl rfl 56 _ (heap_alloc_new _ _) (hi4 RX.out.len) (hi6 RX.out.len ak) (aj rx) ?_))
  obtain ⟨Y3, vU⟩ : ∃ Y3, (w3.alloc (.cells acM.toArray 56)).setRow w3.heap.size (aa rx).toArray = Y3 := ⟨_, rfl⟩
  rw [vU]
  have b3 : Below w3.heap.size w3 Y3 := vU ▸ below_setRow ((Below.refl _ _).alloc (Nat.le_refl _) _) (Nat.le_refl _) _
  have K3 := acD (show aH Y3 w3.heap.size 56 rx from vU ▸ aH.row (z := aq) (heap_alloc_new _ _))
  have iR : Below Y.heap.size Y Y3 := hb3.trans (b3.mono hb3.size)
  obtain ⟨q3, hq3⟩ : ∃ q3, w3.heap.size = q3 := ⟨_, rfl⟩
  rw [hq3] at K3
  rw [hq3]
  have Nx := acD (wB.out.keep iR)
  have IC := acD (nB.out.keep iR)
  have s9 := acD Nx.out.range
  have B3 := acD (BY.out.trans (iR.mono BY.out.size))
  have L3 := acD (show w.heap.size + 1 < q3 by have := hb3.size; omega)
  have s0 := (iR.cell (p := ⟨jn, 0, none⟩) lY).trans z0
  have s1 := (iR.cell (p := ⟨jn, 1, none⟩) lY).trans z1
  have s2 := (iR.cell (p := ⟨jn, 2, none⟩) lY).trans z2
  have s3 := (iR.cell (p := ⟨jn, 3, none⟩) lY).trans z3
  have s4 := (iR.cell (p := ⟨jn, 4, none⟩) lY).trans z4
  have Tk : jn < Y3.heap.size := by have := iR.size; omega
  have j7 := acD (refine_any 22 a b c im h0' bI gv.out true Y3 (AP.out.below iR))
  clear vU b3 iR hq3 hb3
  rcases hy : dI ⟨22, a, b, c, im⟩ bI true with _ | ry
  ·rw [hy] at j7
   have HY := acD (oI.out _ _ HX.out hy)
   clear hy
   go_upto_region 8 with (first | (refine wpList_load_mid rfl _ _ rfl _ _ rfl (aa bI) _ s9.out Tryz.underlying56 rfl (hi3 gv.out.len) ?_) | (go_at_call 15; refine j7.out.mono ?_; rintro e w4 ⟨rfl, hb4⟩; unfold cM) | (refine wpList_store_row rfl 56 (.tmp 13) (.tmp 70) rfl w4.heap.size (aa aq).toArray rfl rfl 56 _ (heap_alloc_new _ _) (hi4 ak) (hi6 ak ak) (aj aq) ?_))
   obtain ⟨Y4, jS⟩ : ∃ Y4, (w4.alloc (.cells acM.toArray 56)).setRow w4.heap.size (aa aq).toArray = Y4 := ⟨_, rfl⟩
   rw [jS]
   have b4 : Below w4.heap.size w4 Y4 := jS ▸ below_setRow ((Below.refl _ _).alloc (Nat.le_refl _) _) (Nat.le_refl _) _
   have K4 := acD (show aH Y4 w4.heap.size 56 aq from jS ▸ aH.row (z := aq) (heap_alloc_new _ _))
   have jX : Below Y3.heap.size Y3 Y4 := hb4.trans (b4.mono hb4.size)
   have AL := acD (K3.out.keep jX)
   have p8 := acD AL.out.range
   have yH := acD K4.out.range
   have sQ := acD (IC.out.keep jX)
   have B4 := acD (B3.out.trans (jX.mono B3.out.size))
   clear jS b4 jX hb4
   go_wp2_with (first | (refine wpList_load_mid rfl _ _ rfl _ _ rfl (aa rx) _ p8.out Tryz.underlying56 rfl (hi3 RX.out.len) ?_) | (refine wpList_store_row rfl 56 (.tmp 8) (.tmp 80) rfl (w.heap.size + 1) (aa rx).toArray rfl rfl 56 _ sQ.out (hi4 RX.out.len) (hi6 RX.out.len ak) (aj rx) ?_))
   refine bodyPost_ret (bg Tryz.results27 _ (w.heap.size + 1) RX.out.len rfl (aH.row sQ.out)) rfl ⟨?_, below_setRow B4.out abo _⟩
   rw [HY.out]; rfl
  ·rw [hy] at j7
   have HY := acD (oI.out _ _ HX.out hy)
   have RY := acD (dB gv.out hy)
   clear hy
   go_upto_region 8 with (first | (refine wpList_load_mid rfl _ _ rfl _ _ rfl (aa bI) _ s9.out Tryz.underlying56 rfl (hi3 gv.out.len) ?_) | (go_at_call 15; refine j7.out.mono ?_; rintro e w4 ⟨rfl, hb4⟩; unfold cM) | (refine wpList_store_row rfl 56 (.tmp 13) (.tmp 70) rfl w4.heap.size (aa ry).toArray rfl rfl 56 _ (heap_alloc_new _ _) (hi4 RY.out.len) (hi6 RY.out.len ak) (aj ry) ?_))
   obtain ⟨Y4, jS⟩ : ∃ Y4, (w4.alloc (.cells acM.toArray 56)).setRow w4.heap.size (aa ry).toArray = Y4 := ⟨_, rfl⟩
   rw [jS]
   have b4 : Below w4.heap.size w4 Y4 := jS ▸ below_setRow ((Below.refl _ _).alloc (Nat.le_refl _) _) (Nat.le_refl _) _
   have K4 := acD (show aH Y4 w4.heap.size 56 ry from jS ▸ aH.row (z := aq) (heap_alloc_new _ _))
   have jX : Below Y3.heap.size Y3 Y4 := hb4.trans (b4.mono hb4.size)
   have AL := acD (K3.out.keep jX)
   have p8 := acD AL.out.range
   have yH := acD K4.out.range
   have sQ := acD (IC.out.keep jX)
   have B4 := acD (B3.out.trans (jX.mono B3.out.size))
   clear jS b4 jX hb4
   have Oz := acD (jc 64 bR (fun _ _ => by kernel_rfl) rS rx ry RX.out.len RY.out.len Y4)
   have RJ := acD (RX.out.join RY.out)
   go_wp2_with (first | (refine wpList_load_mid rfl _ _ rfl _ _ rfl (aa rx) _ p8.out Tryz.underlying56 rfl (hi3 RX.out.len) ?_) | (refine wpList_load_mid rfl _ _ rfl _ _ rfl (aa ry) _ yH.out Tryz.underlying56 rfl (hi3 RY.out.len) ?_) | (go_at_call 63; refine Oz.out.mono ?_; rintro e w5 ⟨rfl, hb5⟩) | (refine wpList_store_row rfl 56 (.tmp 8) (.tmp 84) rfl (w.heap.size + 1) (aa (bF rx ry)).toArray rfl rfl 56 _ (sQ.out.keep hb5) (hi4 RJ.out.len) (hi6 RJ.out.len ak) (aj (bF rx ry)) ?_))
   refine bodyPost_ret (bg Tryz.results27 _ (w.heap.size + 1) RJ.out.len rfl (aH.row (sQ.out.keep hb5))) rfl ⟨?_, below_setRow (B4.out.trans (hb5.mono B4.out.size)) abo _⟩
   rw [HY.out]; rfl
theorem Al {V w : World} {ab cb rb ib pb : Nat} {bv pv : Value} {G : List dL} {B : List AB} {val : Nat → Value} {s : AS} (h : An V w ab cb rb ib pb bv pv G B val s) {k : Nat} {bl : AB} (hk : B[k]? = some bl) (hne : bl.code ≠ []) (gQ : bl.nx.length ≤ 1000) (op a b c im : Int) (h0' : 0 ≤ op) (fV : bl.last = ⟨op, a, b, c, im⟩) (hop : op = 23) (j : Nat) (hu2 : bl.nx.length ≠ 2) (bI : RG) (h16 : R16 bI) (T : iU w) :
  Calls Tryz.prog 27 #[.pointer (some ⟨ab, 0, none⟩), .int .i64 (k : Int), .int .i64 (j : Int), .agg (aa bI).toArray] w fun e w' => e = .returned (cM (dK bl.last bl.nx.length j bI)) ∧ Below w.heap.size w w' := by
 subst hop
 have zR := fV
 have pF := (List.getElem?_eq_some_iff.1 hk).1
 have yE := h.lB
 obtain ⟨V0, gZ, kx, kz, b0, s0⟩ := jH w (aa bI).toArray acM.toArray 56 56
 have h0 := h.below b0
 obtain ⟨l1, l2, l3, l4, l5⟩ := h0.lt
 obtain ⟨c0, c2, -, -, -⟩ := h0.cells
 have dk : (k : Int) < (B.length : Int) := by omega
 obtain ⟨q, cap, x2, gF, Ib, Oi, i0, i1, i2, i3, i4⟩ := h0.last hk hne fV
 obtain ⟨g, off, cj, nA, cT, nG, g1, g2, g3, nc, n1, n2, n3⟩ := h0.next hk
 have hm1 : 1 ≤ bl.code.length := List.length_pos_iff.2 hne
 have hnl : bl.nx.length ≤ 1000000 := by have := gQ; omega
 obtain ⟨n, hn⟩ : ∃ n, B.length = n := ⟨_, rfl⟩
 obtain ⟨m, hm⟩ : ∃ m, bl.code.length = m := ⟨_, rfl⟩
 obtain ⟨u, hu⟩ : ∃ u, bl.nx.length = u := ⟨_, rfl⟩
 rw [nG] at c0
 rw [hn] at c0 c2 dk yE g1
 rw [hm] at x2 gF i0 i1 i2 i3 i4 hm1
 rw [hu] at nc n1 n3 hnl
 simp only at i0 i1 i2 i3 i4
 have dm : IntKind.i64.wrap ((m : Int) - 1) = ((m - 1 : Nat) : Int) := by
  rw [IntWalk.i64_in _ abo]; omega
 have dm2 : ((m - 1 : Nat) : Int) < (m : Int) := by omega
 have KX := acD (show aH V0 w.heap.size 56 bI from kx)
 have KZ := acD (show aH V0 (w.heap.size + 1) 56 aq from kz)
 have B0 := acD b0
 have S0 := acD s0
 have HU := acD hu
 have HT := acD (T.below b0)
 have gv := acD h16
 clear h hk hne T h0 kx kz b0 s0 pF nG n3 hu hm hn h16 fV gQ
 go_enter Tryz.func27, Tryz.ntmps27
 go_upto_region 1 with fail
 clear gZ
 go_cut [10] from 15 to 32 (fun a10 wx => ∃ jn, a10 = .pointer (some ⟨jn, 0, none⟩) ∧ wx.heap[jn]? = some (.cells #[.int .u8 23, .int .i64 a, .int .i64 b, .int .i64 c, .int .i64 im] 64 (0, 0)) ∧ Below V0.heap.size V0 wx)
 case first =>
  go_region
  all_goals
   go_wp2_with fail
   go_meet
   case rel =>
    exact ⟨_, rfl, heap_alloc_new _ _, (Below.drew (Below.refl _ _)).alloc (Nat.le_refl _) _⟩
 obtain ⟨jn, rfl, yD, bY⟩ := hcut
 obtain ⟨Y, hY⟩ : ∃ Y : World, Y = wc := ⟨_, rfl⟩
 subst hY
 obtain ⟨z0, z1, z2, z3, z4, lY⟩ := aQ yD
 have BY := acD (B0.out.trans (bY.mono B0.out.size))
 have OB := acD bY
 have wB := acD (KX.out.keep bY)
 have nB := acD (KZ.out.keep bY)
 have AP := acD (HT.out.below bY)
 have gK := acD wB.out.range
 have w1 : ab < Y.heap.size := by have := bY.size; omega
 have w2 : g < Y.heap.size := by have := bY.size; omega
 have lw : w.heap.size < Y.heap.size := wB.out.lt
 have lw1 : w.heap.size + 1 < Y.heap.size := nB.out.lt
 have y0 : Y.cell? ⟨ab, 0, none⟩ = _ := (bY.cell (p := ⟨ab, 0, none⟩) l1).trans c0
 have y1 : Y.cell? ⟨g, off + k * 3 + 2, none⟩ = _ := (bY.cell (p := ⟨g, off + k * 3 + 2, none⟩) g3).trans nc
 clear bY yD c0 c2 nc x2 i0 i1 i2 i3 i4
 have du : ((u : Int) == 2) = false := by have := HU.out; rw [beq_eq_false_iff_ne]; omega
 have oI := acD (show ∀ x y, dI ⟨23, a, b, c, im⟩ bI false = x → dI ⟨23, a, b, c, im⟩ bI true = y → dK bl.last bl.nx.length j bI = match x, y with | none, y => y | some x, none => some x | some x, some y => some (bF x y) from fun x y hx hy => by
  unfold dK
  rw [zR, if_neg aby, if_neg hu2, hx, hy]
  rfl)
 have oK := acD (refine_any 23 a b c im h0' bI gv.out false Y AP.out)
 rcases hx : dI ⟨23, a, b, c, im⟩ bI false with _ | rx
 ·rw [hx] at oK
  have HX := acD hx
  clear hx
  go_upto_region 7 with (first | (refine wpList_load_mid rfl _ _ rfl _ _ rfl (aa bI) _ gK.out Tryz.underlying56 rfl (hi3 gv.out.len) ?_) | (go_at_call 15; refine oK.out.mono ?_; rintro e w3 ⟨rfl, hb3⟩; unfold cM) | (refine wpList_store_row rfl 56 (.tmp 11) (.tmp 64) rfl w3.heap.size (aa aq).toArray rfl rfl 56 _ (heap_alloc_new _ _) (hi4 ak) (hi6 ak ak) (aj aq) ?_))
  obtain ⟨Y3, vU⟩ : ∃ Y3, (w3.alloc (.cells acM.toArray 56)).setRow w3.heap.size (aa aq).toArray = Y3 := ⟨_, rfl⟩
  rw [vU]
  have b3 : Below w3.heap.size w3 Y3 := vU ▸ below_setRow ((Below.refl _ _).alloc (Nat.le_refl _) _) (Nat.le_refl _) _
  have K3 := acD (show aH Y3 w3.heap.size 56 aq from vU ▸ aH.row (z := aq) (heap_alloc_new _ _))
  have iR : Below Y.heap.size Y Y3 := hb3.trans (b3.mono hb3.size)
  obtain ⟨q3, hq3⟩ : ∃ q3, w3.heap.size = q3 := ⟨_, rfl⟩
  rw [hq3] at K3
  rw [hq3]
  have Nx := acD (wB.out.keep iR)
  have IC := acD (nB.out.keep iR)
  have s9 := acD Nx.out.range
  have B3 := acD (BY.out.trans (iR.mono BY.out.size))
  have L3 := acD (show w.heap.size + 1 < q3 by have := hb3.size; omega)
  have s0 := (iR.cell (p := ⟨jn, 0, none⟩) lY).trans z0
  have s1 := (iR.cell (p := ⟨jn, 1, none⟩) lY).trans z1
  have s2 := (iR.cell (p := ⟨jn, 2, none⟩) lY).trans z2
  have s3 := (iR.cell (p := ⟨jn, 3, none⟩) lY).trans z3
  have s4 := (iR.cell (p := ⟨jn, 4, none⟩) lY).trans z4
  have Tk : jn < Y3.heap.size := by have := iR.size; omega
  have j7 := acD (refine_any 23 a b c im h0' bI gv.out true Y3 (AP.out.below iR))
  clear vU b3 iR hq3 hb3
  rcases hy : dI ⟨23, a, b, c, im⟩ bI true with _ | ry
  ·rw [hy] at j7
   have HY := acD (oI.out _ _ HX.out hy)
   clear hy
   go_upto_region 8 with (first | (refine wpList_load_mid rfl _ _ rfl _ _ rfl (aa bI) _ s9.out Tryz.underlying56 rfl (hi3 gv.out.len) ?_) | (go_at_call 15; refine j7.out.mono ?_; rintro e w4 ⟨rfl, hb4⟩; unfold cM) | (refine wpList_store_row rfl 56 (.tmp 13) (.tmp 70) rfl w4.heap.size (aa aq).toArray rfl rfl 56 _ (heap_alloc_new _ _) (hi4 ak) (hi6 ak ak) (aj aq) ?_))
   obtain ⟨Y4, jS⟩ : ∃ Y4, (w4.alloc (.cells acM.toArray 56)).setRow w4.heap.size (aa aq).toArray = Y4 := ⟨_, rfl⟩
   rw [jS]
   have b4 : Below w4.heap.size w4 Y4 := jS ▸ below_setRow ((Below.refl _ _).alloc (Nat.le_refl _) _) (Nat.le_refl _) _
   have K4 := acD (show aH Y4 w4.heap.size 56 aq from jS ▸ aH.row (z := aq) (heap_alloc_new _ _))
   have jX : Below Y3.heap.size Y3 Y4 := hb4.trans (b4.mono hb4.size)
   have AL := acD (K3.out.keep jX)
   have p8 := acD AL.out.range
   have yH := acD K4.out.range
   have sQ := acD (IC.out.keep jX)
   have B4 := acD (B3.out.trans (jX.mono B3.out.size))
   clear jS b4 jX hb4
   go_wp2_with (first | (refine wpList_load_mid rfl _ _ rfl _ _ rfl (aa aq) _ yH.out Tryz.underlying56 rfl (hi3 ak) ?_) | (refine wpList_store_row rfl 56 (.tmp 8) (.tmp 75) rfl (w.heap.size + 1) (aa aq).toArray rfl rfl 56 _ sQ.out (hi4 ak) (hi6 ak ak) (aj aq) ?_))
   refine bodyPost_ret (bg Tryz.results27 _ (w.heap.size + 1) ak rfl (aH.row sQ.out)) rfl ⟨?_, below_setRow B4.out abo _⟩
   rw [HY.out]; rfl
  ·rw [hy] at j7
   have HY := acD (oI.out _ _ HX.out hy)
   have RY := acD (dB gv.out hy)
   clear hy
   go_upto_region 8 with (first | (refine wpList_load_mid rfl _ _ rfl _ _ rfl (aa bI) _ s9.out Tryz.underlying56 rfl (hi3 gv.out.len) ?_) | (go_at_call 15; refine j7.out.mono ?_; rintro e w4 ⟨rfl, hb4⟩; unfold cM) | (refine wpList_store_row rfl 56 (.tmp 13) (.tmp 70) rfl w4.heap.size (aa ry).toArray rfl rfl 56 _ (heap_alloc_new _ _) (hi4 RY.out.len) (hi6 RY.out.len ak) (aj ry) ?_))
   obtain ⟨Y4, jS⟩ : ∃ Y4, (w4.alloc (.cells acM.toArray 56)).setRow w4.heap.size (aa ry).toArray = Y4 := ⟨_, rfl⟩
   rw [jS]
   have b4 : Below w4.heap.size w4 Y4 := jS ▸ below_setRow ((Below.refl _ _).alloc (Nat.le_refl _) _) (Nat.le_refl _) _
   have K4 := acD (show aH Y4 w4.heap.size 56 ry from jS ▸ aH.row (z := aq) (heap_alloc_new _ _))
   have jX : Below Y3.heap.size Y3 Y4 := hb4.trans (b4.mono hb4.size)
   have AL := acD (K3.out.keep jX)
   have p8 := acD AL.out.range
   have yH := acD K4.out.range
   have sQ := acD (IC.out.keep jX)
   have B4 := acD (B3.out.trans (jX.mono B3.out.size))
   clear jS b4 jX hb4
   go_wp2_with (first | (refine wpList_load_mid rfl _ _ rfl _ _ rfl (aa ry) _ yH.out Tryz.underlying56 rfl (hi3 RY.out.len) ?_) | (refine wpList_store_row rfl 56 (.tmp 8) (.tmp 75) rfl (w.heap.size + 1) (aa ry).toArray rfl rfl 56 _ sQ.out (hi4 RY.out.len) (hi6 RY.out.len ak) (aj ry) ?_))
   refine bodyPost_ret (bg Tryz.results27 _ (w.heap.size + 1) RY.out.len rfl (aH.row sQ.out)) rfl ⟨?_, below_setRow B4.out abo _⟩
   rw [HY.out]; rfl
 ·rw [hx] at oK
  have HX := acD hx
  have RX := acD (dB gv.out hx)
  clear hx
  go_upto_region 7 with (first | (refine wpList_load_mid rfl _ _ rfl _ _ rfl (aa bI) _ gK.out Tryz.underlying56 rfl (hi3 gv.out.len) ?_) | (go_at_call 15; refine oK.out.mono ?_; rintro e w3 ⟨rfl, hb3⟩; unfold cM) | (refine wpList_store_row rfl 56 (.tmp 11) (.tmp 64) rfl w3.heap.size (aa rx).toArray rfl rfl 56 _ (heap_alloc_new _ _) (hi4 RX.out.len) (hi6 RX.out.len ak) (aj rx) ?_))
  obtain ⟨Y3, vU⟩ : ∃ Y3, (w3.alloc (.cells acM.toArray 56)).setRow w3.heap.size (aa rx).toArray = Y3 := ⟨_, rfl⟩
  rw [vU]
  have b3 : Below w3.heap.size w3 Y3 := vU ▸ below_setRow ((Below.refl _ _).alloc (Nat.le_refl _) _) (Nat.le_refl _) _
  have K3 := acD (show aH Y3 w3.heap.size 56 rx from vU ▸ aH.row (z := aq) (heap_alloc_new _ _))
  have iR : Below Y.heap.size Y Y3 := hb3.trans (b3.mono hb3.size)
  obtain ⟨q3, hq3⟩ : ∃ q3, w3.heap.size = q3 := ⟨_, rfl⟩
  rw [hq3] at K3
  rw [hq3]
  have Nx := acD (wB.out.keep iR)
  have IC := acD (nB.out.keep iR)
  have s9 := acD Nx.out.range
  have B3 := acD (BY.out.trans (iR.mono BY.out.size))
  have L3 := acD (show w.heap.size + 1 < q3 by have := hb3.size; omega)
  have s0 := (iR.cell (p := ⟨jn, 0, none⟩) lY).trans z0
  have s1 := (iR.cell (p := ⟨jn, 1, none⟩) lY).trans z1
  have s2 := (iR.cell (p := ⟨jn, 2, none⟩) lY).trans z2
  have s3 := (iR.cell (p := ⟨jn, 3, none⟩) lY).trans z3
  have s4 := (iR.cell (p := ⟨jn, 4, none⟩) lY).trans z4
  have Tk : jn < Y3.heap.size := by have := iR.size; omega
  have j7 := acD (refine_any 23 a b c im h0' bI gv.out true Y3 (AP.out.below iR))
  clear vU b3 iR hq3 hb3
  rcases hy : dI ⟨23, a, b, c, im⟩ bI true with _ | ry
  ·rw [hy] at j7
   have HY := acD (oI.out _ _ HX.out hy)
   clear hy
   go_upto_region 8 with (first | (refine wpList_load_mid rfl _ _ rfl _ _ rfl (aa bI) _ s9.out Tryz.underlying56 rfl (hi3 gv.out.len) ?_) | (go_at_call 15; refine j7.out.mono ?_; rintro e w4 ⟨rfl, hb4⟩; unfold cM) | (refine wpList_store_row rfl 56 (.tmp 13) (.tmp 70) rfl w4.heap.size (aa aq).toArray rfl rfl 56 _ (heap_alloc_new _ _) (hi4 ak) (hi6 ak ak) (aj aq) ?_))
   obtain ⟨Y4, jS⟩ : ∃ Y4, (w4.alloc (.cells acM.toArray 56)).setRow w4.heap.size (aa aq).toArray = Y4 := ⟨_, rfl⟩
   rw [jS]
   have b4 : Below w4.heap.size w4 Y4 := jS ▸ below_setRow ((Below.refl _ _).alloc (Nat.le_refl _) _) (Nat.le_refl _) _
   have K4 := acD (show aH Y4 w4.heap.size 56 aq from jS ▸ aH.row (z := aq) (heap_alloc_new _ _))
   have jX : Below Y3.heap.size Y3 Y4 := hb4.trans (b4.mono hb4.size)
   have AL := acD (K3.out.keep jX)
   have p8 := acD AL.out.range
   have yH := acD K4.out.range
   have sQ := acD (IC.out.keep jX)
   have B4 := acD (B3.out.trans (jX.mono B3.out.size))
   clear jS b4 jX hb4
   go_wp2_with (first | (refine wpList_load_mid rfl _ _ rfl _ _ rfl (aa rx) _ p8.out Tryz.underlying56 rfl (hi3 RX.out.len) ?_) | (refine wpList_store_row rfl 56 (.tmp 8) (.tmp 80) rfl (w.heap.size + 1) (aa rx).toArray rfl rfl 56 _ sQ.out (hi4 RX.out.len) (hi6 RX.out.len ak) (aj rx) ?_))
   refine bodyPost_ret (bg Tryz.results27 _ (w.heap.size + 1) RX.out.len rfl (aH.row sQ.out)) rfl ⟨?_, below_setRow B4.out abo _⟩
   rw [HY.out]; rfl
  ·rw [hy] at j7
   have HY := acD (oI.out _ _ HX.out hy)
   have RY := acD (dB gv.out hy)
   clear hy
   go_upto_region 8 with (first | (refine wpList_load_mid rfl _ _ rfl _ _ rfl (aa bI) _ s9.out Tryz.underlying56 rfl (hi3 gv.out.len) ?_) | (go_at_call 15; refine j7.out.mono ?_; rintro e w4 ⟨rfl, hb4⟩; unfold cM) | (refine wpList_store_row rfl 56 (.tmp 13) (.tmp 70) rfl w4.heap.size (aa ry).toArray rfl rfl 56 _ (heap_alloc_new _ _) (hi4 RY.out.len) (hi6 RY.out.len ak) (aj ry) ?_))
   obtain ⟨Y4, jS⟩ : ∃ Y4, (w4.alloc (.cells acM.toArray 56)).setRow w4.heap.size (aa ry).toArray = Y4 := ⟨_, rfl⟩
   rw [jS]
   have b4 : Below w4.heap.size w4 Y4 := jS ▸ below_setRow ((Below.refl _ _).alloc (Nat.le_refl _) _) (Nat.le_refl _) _
   have K4 := acD (show aH Y4 w4.heap.size 56 ry from jS ▸ aH.row (z := aq) (heap_alloc_new _ _))
   have jX : Below Y3.heap.size Y3 Y4 := hb4.trans (b4.mono hb4.size)
   have AL := acD (K3.out.keep jX)
   have p8 := acD AL.out.range
   have yH := acD K4.out.range
   have sQ := acD (IC.out.keep jX)
   have B4 := acD (B3.out.trans (jX.mono B3.out.size))
   clear jS b4 jX hb4
   have Oz := acD (jc 64 bR (fun _ _ => by kernel_rfl) rS rx ry RX.out.len RY.out.len Y4)
   have RJ := acD (RX.out.join RY.out)
   go_wp2_with (first | (refine wpList_load_mid rfl _ _ rfl _ _ rfl (aa rx) _ p8.out Tryz.underlying56 rfl (hi3 RX.out.len) ?_) | (refine wpList_load_mid rfl _ _ rfl _ _ rfl (aa ry) _ yH.out Tryz.underlying56 rfl (hi3 RY.out.len) ?_) | (go_at_call 63; refine Oz.out.mono ?_; rintro e w5 ⟨rfl, hb5⟩) | (refine wpList_store_row rfl 56 (.tmp 8) (.tmp 84) rfl (w.heap.size + 1) (aa (bF rx ry)).toArray rfl rfl 56 _ (sQ.out.keep hb5) (hi4 RJ.out.len) (hi6 RJ.out.len ak) (aj (bF rx ry)) ?_))
   refine bodyPost_ret (bg Tryz.results27 _ (w.heap.size + 1) RJ.out.len rfl (aH.row (sQ.out.keep hb5))) rfl ⟨?_, below_setRow (B4.out.trans (hb5.mono B4.out.size)) abo _⟩
   rw [HY.out]; rfl
theorem x6 {V w : World} {ab cb rb ib pb : Nat} {bv pv : Value} {G : List dL} {B : List AB} {val : Nat → Value} {s : AS} (h : An V w ab cb rb ib pb bv pv G B val s) {k : Nat} {bl : AB} (hk : B[k]? = some bl) (hne : bl.code ≠ []) (gQ : bl.nx.length ≤ 1000) (h0 : 0 ≤ bl.last.op) (j : Nat) (bI : RG) (h16 : R16 bI) (T : iU w) :
  Calls Tryz.prog 27 #[.pointer (some ⟨ab, 0, none⟩), .int .i64 (k : Int), .int .i64 (j : Int), .agg (aa bI).toArray] w fun e w' => e = .returned (cM (dK bl.last bl.nx.length j bI)) ∧ Below w.heap.size w w' := by
 obtain ⟨op, a, b, c, im, hl⟩ : ∃ op a b c im, bl.last = ⟨op, a, b, c, im⟩ := ⟨_, _, _, _, _, rfl⟩
 by_cases h2 : op = 22 ∨ op = 23
 ·have hE : bl.nx.length = 2 → dK bl.last bl.nx.length j bI = dI ⟨op, a, b, c, im⟩ bI (decide (j = 1)) := fun hu => by
   unfold dK
   rw [hl, if_neg (fun hh => hh h2), if_pos hu]
  by_cases hu : bl.nx.length = 2
  ·rw [hE hu]
   rcases h2 with e | e
   ·exact Aj h hk hne gQ op a b c im ace hl e j hu bI h16 T
   ·exact Ai h hk hne gQ op a b c im ace hl e j hu bI h16 T
  ·rcases h2 with e | e
   ·exact Am h hk hne gQ op a b c im ace hl e j hu bI h16 T
   ·exact Al h hk hne gQ op a b c im ace hl e j hu bI h16 T
 ·have hE : dK bl.last bl.nx.length j bI = some bI := by unfold dK; rw [hl, if_pos h2]
  rw [hE]
  exact Ak h hk hne gQ op a b c im ace hl abo j bI h16 T
end
end Go.Proofs.YtebklpnkcicpjaaGreatDoor
