/-
  What is proved here: parts aEd.
-/
import Derived.Test.YtebklpnkcicpjaaGreatDoorYa
import Derived.Test.YtebklpnkcicpjaaGreatDoorYi
import Derived.Test.YtebklpnkcicpjaaGreatDoorYh
import Derived.BigRegion
namespace Go.Proofs.YtebklpnkcicpjaaGreatDoor
set_option linter.unusedVariables false
set_option linter.unusedSimpArgs false
set_option maxRecDepth 100000
set_option maxHeartbeats 8000000
section
open Go.RowKit
theorem kU (w : World) (cA cB : Array Value) (tA tB : TypeId) : ∃ V, (w.alloc (.cells cA tA)).alloc (.cells cB tB) = V ∧ V.heap[w.heap.size]? = some (.cells cA tA (0, 0)) ∧ V.heap[w.heap.size + 1]? = some (.cells cB tB (0, 0)) ∧ Below w.heap.size w V ∧ V.heap.size = w.heap.size + 1 + 1 := by
 refine ⟨_, rfl, ?_, bg _ _ T4, ((Below.refl _ _).alloc (Nat.le_refl _) _).alloc T4 _, by simp⟩
 rw [heap_alloc_old _ _ T4]; exact heap_alloc_new _ _
theorem An.last {V w : World} {ab cb rb ib pb : Nat} {bv pv : Value} {G : List ew} {B : List AB} {val : Nat → Value} {s : AS} (h : An V w ab cb rb ib pb bv pv G B val s) {k : Nat} {b : AB} (hk : B[k]? = some b) (hne : b.code ≠ []) {i : bB} (hi : b.last = i) :
  ∃ q cap, w.cell? ⟨cb, k, none⟩ = some (.slice (some ⟨q, 0, none⟩) b.code.length cap) ∧ b.code.length ≤ cap ∧ cap ≤ 2 ^ 63 - 1 ∧ q < w.heap.size ∧ w.cell? ⟨q, (b.code.length - 1) * 5, none⟩ = some (.int .u8 i.op) ∧ w.cell? ⟨q, (b.code.length - 1) * 5 + 1, none⟩ = some (.int .i64 i.a) ∧ w.cell? ⟨q, (b.code.length - 1) * 5 + 2, none⟩ = some (.int .i64 i.b) ∧ w.cell? ⟨q, (b.code.length - 1) * 5 + 3, none⟩ = some (.int .i64 i.c) ∧ w.cell? ⟨q, (b.code.length - 1) * 5 + 4, none⟩ = some (.int .i64 i.aR) := by
 obtain ⟨c, hc⟩ := h.code hk
 have hl : b.code.length - 1 < b.code.length := by have := List.length_pos_iff.2 hne; omega
 rcases hc with ⟨_, e⟩ | ⟨q, cap, e1, e2, e3, e4, e5⟩
 ·exact absurd e hne
 ·refine ⟨q, cap, by rw [c, e1], e2, eZ e3, e4, e5 _ i ?_⟩
  rw [← hi]
  unfold AB.last
  simp [List.getD, List.getElem?_eq_getElem hl]
theorem An.next {V w : World} {ab cb rb ib pb : Nat} {bv pv : Value} {G : List ew} {B : List AB} {val : Nat → Value} {s : AS} (h : An V w ab cb rb ib pb bv pv G B val s) {k : Nat} {b : AB} (hk : B[k]? = some b) :
  ∃ g off cap nA dY, bv = .slice (some ⟨g, off, none⟩) B.length cap ∧ B.length ≤ cap ∧ cap ≤ 2 ^ 63 - 1 ∧ g < w.heap.size ∧ w.cell? ⟨g, off + k * 3 + 2, none⟩ = some (.slice nA b.nx.length dY) ∧ b.nx.length ≤ dY ∧ dY ≤ 2 ^ 63 - 1 ∧ Ints w (.slice nA b.nx.length dY) b.nx := by
 have mV := (List.getElem?_eq_some_iff.1 hk).1
 have Nj := h.lG
 obtain ⟨A, cap, h1, h2, h3, h4⟩ := h.Io.below h.aB
 obtain ⟨g, off, rfl, hg, hc⟩ := h4 TX
 obtain ⟨x, hx⟩ : ∃ x, G[k]? = some x := ⟨_, List.getElem?_eq_getElem TX⟩
 obtain ⟨_, _, nv, c2, hn⟩ := hc k x hx
 have e := h.NU k x b hx hk
 rw [e] at hn
 obtain ⟨nA, dY, rfl, n2, n3⟩ := ints_at hn
 rw [Nj] at h1 h2
 exact ⟨g, off, cap, nA, dY, h1, h2, eZ h3, hg, c2, n2, eZ n3, hn⟩
theorem xo {V w : World} {ab cb rb ib pb : Nat} {bv pv : Value} {G : List ew} {B : List AB} {val : Nat → Value} {s : AS} (h : An V w ab cb rb ib pb bv pv G B val s) {k : Nat} {bl : AB} (hk : B[k]? = some bl) (hne : bl.code ≠ []) (gy : bl.nx.length ≤ 1000) (op a b c im : Int) (h0' : 0 ≤ op) (eY : bl.last = ⟨op, a, b, c, im⟩) (hop : op ≠ 22 ∧ op ≠ 23) (j : Nat) (bM : RG) (h16 : R16 bM) (T : fM w) :
  Calls Tryz.prog 27 #[.pointer (some ⟨ab, 0, none⟩), .int .i64 (k : Int), .int .i64 (j : Int), .agg (aa bM).toArray] w fun e w' => e = .returned (cE (some bM)) ∧ Below w.heap.size w w' := by
 have e1 : (op != 22) = true := by simp [bne_iff_ne]; omega
 have e2 : (op != 23) = true := by simp [bne_iff_ne]; omega
 clear hop
 have mV := (List.getElem?_eq_some_iff.1 hk).1
 have vu := h.lB
 obtain ⟨V0, gP, kx, kz, b0, s0⟩ := kU w (aa bM).toArray Va.toArray 56 56
 have h0 := h.below b0
 obtain ⟨l1, l2, l3, l4, l5⟩ := h0.lt
 obtain ⟨c0, c2, -, -, -⟩ := h0.cells
 have dk : (k : Int) < (B.length : Int) := by omega
 obtain ⟨q, cap, x2, fH, Dm, Ji, i0, i1, i2, i3, i4⟩ := h0.last hk hne eY
 obtain ⟨g, off, cN, nA, dY, nN, g1, g2, g3, nc, n1, n2, n3⟩ := h0.next hk
 have hm1 : 1 ≤ bl.code.length := List.length_pos_iff.2 hne
 have hnl : bl.nx.length ≤ 1000000 := by have := gy; omega
 obtain ⟨n, hn⟩ : ∃ n, B.length = n := ⟨_, rfl⟩
 obtain ⟨m, hm⟩ : ∃ m, bl.code.length = m := ⟨_, rfl⟩
 obtain ⟨u, hu⟩ : ∃ u, bl.nx.length = u := ⟨_, rfl⟩
 rw [nN] at c0
 rw [hn] at c0 c2 dk vu g1
 rw [hm] at x2 fH i0 i1 i2 i3 i4 hm1
 rw [hu] at nc n1 n3 hnl
 simp only at i0 i1 i2 i3 i4
 have dm : IntKind.i64.wrap ((m : Int) - 1) = ((m - 1 : Nat) : Int) := by
  rw [IntWalk.i64_in _ TX]; omega
 have dm2 : ((m - 1 : Nat) : Int) < (m : Int) := by omega
 have KX := UZ (show aC V0 w.heap.size 56 bM from kx)
 have KZ := UZ (show aC V0 (w.heap.size + 1) 56 ak from kz)
 have B0 := UZ b0
 have S0 := UZ s0
 have HU := UZ hu
 have HT := UZ (T.below b0)
 have fy := UZ h16
 clear h hk hne T h0 kx kz b0 s0 mV nN n3 hu hm hn h16 eY gy
 go_enter Tryz.func27, Tryz.ntmps27
 go_upto_region 1 with fail
 clear gP
 go_cut [10] from 15 to 32 (fun a10 wx => ∃ gO, a10 = .pointer (some ⟨gO, 0, none⟩) ∧ wx.heap[gO]? = some (.cells #[.int .u8 op, .int .i64 a, .int .i64 b, .int .i64 c, .int .i64 im] 64 (0, 0)) ∧ Below V0.heap.size V0 wx)
 case first =>
  go_region
  all_goals
   go_wp2_with fail
   go_meet
   case rel =>
    exact ⟨_, rfl, heap_alloc_new _ _, (Below.drew (Below.refl _ _)).alloc (Nat.le_refl _) _⟩
 obtain ⟨gO, rfl, ya, bY⟩ := hcut
 obtain ⟨Y, hY⟩ : ∃ Y : World, Y = wc := ⟨_, rfl⟩
 subst hY
 obtain ⟨z0, z1, z2, z3, z4, lY⟩ := aG ya
 have BY := UZ (B0.out.trans (bY.mono B0.out.size))
 have Jy := UZ bY
 have tq := UZ (KX.out.keep bY)
 have kT := UZ (KZ.out.keep bY)
 have xT := UZ (HT.out.below bY)
 have fR := UZ tq.out.range
 have w1 : ab < Y.heap.size := by have := bY.size; omega
 have w2 : g < Y.heap.size := by have := bY.size; omega
 have lw : w.heap.size < Y.heap.size := tq.out.lt
 have lw1 : w.heap.size + 1 < Y.heap.size := kT.out.lt
 have y0 : Y.cell? ⟨ab, 0, none⟩ = _ := (bY.cell (p := ⟨ab, 0, none⟩) l1).trans c0
 have y1 : Y.cell? ⟨g, off + k * 3 + 2, none⟩ = _ := (bY.cell (p := ⟨g, off + k * 3 + 2, none⟩) g3).trans nc
 clear bY ya c0 c2 nc x2 i0 i1 i2 i3 i4
 go_wp2_with (first | (refine wpList_load_mid rfl _ _ rfl _ _ rfl (aa bM) _ fR.out Tryz.underlying56 rfl (hi3 fy.out.len) ?_) | (refine wpList_store_row rfl 56 (.tmp 8) (.tmp 41) rfl (w.heap.size + 1) (aa bM).toArray rfl rfl 56 _ kT.out (hi4 fy.out.len) (hi6 fy.out.len ag) (aj bM) ?_))
 refine bodyPost_ret (aP Tryz.results27 _ (w.heap.size + 1) fy.out.len rfl (aC.row kT.out)) rfl ⟨?_, ?_⟩
 ·rfl
 ·exact below_setRow BY.out TX _
theorem xm {V w : World} {ab cb rb ib pb : Nat} {bv pv : Value} {G : List ew} {B : List AB} {val : Nat → Value} {s : AS} (h : An V w ab cb rb ib pb bv pv G B val s) {k : Nat} {bl : AB} (hk : B[k]? = some bl) (hne : bl.code ≠ []) (gy : bl.nx.length ≤ 1000) (op a b c im : Int) (h0' : 0 ≤ op) (eY : bl.last = ⟨op, a, b, c, im⟩) (hop : op = 22) (j : Nat) (hu2 : bl.nx.length = 2) (bM : RG) (h16 : R16 bM) (T : fM w) :
  Calls Tryz.prog 27 #[.pointer (some ⟨ab, 0, none⟩), .int .i64 (k : Int), .int .i64 (j : Int), .agg (aa bM).toArray] w fun e w' => e = .returned (cE (cU ⟨op, a, b, c, im⟩ bM (decide (j = 1)))) ∧ Below w.heap.size w w' := by
 subst hop
 have mV := (List.getElem?_eq_some_iff.1 hk).1
 have vu := h.lB
 obtain ⟨V0, gP, kx, kz, b0, s0⟩ := kU w (aa bM).toArray Va.toArray 56 56
 have h0 := h.below b0
 obtain ⟨l1, l2, l3, l4, l5⟩ := h0.lt
 obtain ⟨c0, c2, -, -, -⟩ := h0.cells
 have dk : (k : Int) < (B.length : Int) := by omega
 obtain ⟨q, cap, x2, fH, Dm, Ji, i0, i1, i2, i3, i4⟩ := h0.last hk hne eY
 obtain ⟨g, off, cN, nA, dY, nN, g1, g2, g3, nc, n1, n2, n3⟩ := h0.next hk
 have hm1 : 1 ≤ bl.code.length := List.length_pos_iff.2 hne
 have hnl : bl.nx.length ≤ 1000000 := by have := gy; omega
 obtain ⟨n, hn⟩ : ∃ n, B.length = n := ⟨_, rfl⟩
 obtain ⟨m, hm⟩ : ∃ m, bl.code.length = m := ⟨_, rfl⟩
 obtain ⟨u, hu⟩ : ∃ u, bl.nx.length = u := ⟨_, rfl⟩
 rw [nN] at c0
 rw [hn] at c0 c2 dk vu g1
 rw [hm] at x2 fH i0 i1 i2 i3 i4 hm1
 rw [hu] at nc n1 n3 hnl
 simp only at i0 i1 i2 i3 i4
 have dm : IntKind.i64.wrap ((m : Int) - 1) = ((m - 1 : Nat) : Int) := by
  rw [IntWalk.i64_in _ TX]; omega
 have dm2 : ((m - 1 : Nat) : Int) < (m : Int) := by omega
 have KX := UZ (show aC V0 w.heap.size 56 bM from kx)
 have KZ := UZ (show aC V0 (w.heap.size + 1) 56 ak from kz)
 have B0 := UZ b0
 have S0 := UZ s0
 have HU := UZ hu
 have HT := UZ (T.below b0)
 have fy := UZ h16
 clear h hk hne T h0 kx kz b0 s0 mV nN n3 hu hm hn h16 eY gy
 go_enter Tryz.func27, Tryz.ntmps27
 go_upto_region 1 with fail
 clear gP
 go_cut [10] from 15 to 32 (fun a10 wx => ∃ gO, a10 = .pointer (some ⟨gO, 0, none⟩) ∧ wx.heap[gO]? = some (.cells #[.int .u8 22, .int .i64 a, .int .i64 b, .int .i64 c, .int .i64 im] 64 (0, 0)) ∧ Below V0.heap.size V0 wx)
 case first =>
  go_region
  all_goals
   go_wp2_with fail
   go_meet
   case rel =>
    exact ⟨_, rfl, heap_alloc_new _ _, (Below.drew (Below.refl _ _)).alloc (Nat.le_refl _) _⟩
 obtain ⟨gO, rfl, ya, bY⟩ := hcut
 obtain ⟨Y, hY⟩ : ∃ Y : World, Y = wc := ⟨_, rfl⟩
 subst hY
 obtain ⟨z0, z1, z2, z3, z4, lY⟩ := aG ya
 have BY := UZ (B0.out.trans (bY.mono B0.out.size))
 have Jy := UZ bY
 have tq := UZ (KX.out.keep bY)
 have kT := UZ (KZ.out.keep bY)
 have xT := UZ (HT.out.below bY)
 have fR := UZ tq.out.range
 have w1 : ab < Y.heap.size := by have := bY.size; omega
 have w2 : g < Y.heap.size := by have := bY.size; omega
 have lw : w.heap.size < Y.heap.size := tq.out.lt
 have lw1 : w.heap.size + 1 < Y.heap.size := kT.out.lt
 have y0 : Y.cell? ⟨ab, 0, none⟩ = _ := (bY.cell (p := ⟨ab, 0, none⟩) l1).trans c0
 have y1 : Y.cell? ⟨g, off + k * 3 + 2, none⟩ = _ := (bY.cell (p := ⟨g, off + k * 3 + 2, none⟩) g3).trans nc
 clear bY ya c0 c2 nc x2 i0 i1 i2 i3 i4
 have du : ((u : Int) == 2) = true := by have := HU.out; rw [hu2] at this; rw [← this]; rfl
 obtain ⟨tk, A7⟩ : ∃ tk, ((j : Int) == 1) = tk := ⟨_, rfl⟩
 have qg := UZ (refine_any 22 a b c im h0' bM fy.out tk Y xT.out)
 have HJ := UZ (show decide (j = 1) = tk by rw [← A7, Bool.eq_iff_iff, decide_eq_true_eq, beq_iff_eq]; omega)
 rcases ho : cU ⟨22, a, b, c, im⟩ bM tk with _ | r2
 ·rw [ho] at qg
  have HN := UZ ho
  clear ho
  go_wp2_with (first | (refine wpList_load_mid rfl _ _ rfl _ _ rfl (aa bM) _ fR.out Tryz.underlying56 rfl (hi3 fy.out.len) ?_) | (go_at_call 15; refine qg.out.mono ?_; rintro e w3 ⟨rfl, hb3⟩; unfold cE) | (refine wpList_store_row rfl 56 (.tmp 8) (.tmp 58) rfl (w.heap.size + 1) (aa ak).toArray rfl rfl 56 _ (kT.out.keep hb3) (hi4 ag) (hi6 ag ag) (aj ak) ?_))
  refine bodyPost_ret (aP Tryz.results27 _ (w.heap.size + 1) ag rfl (aC.row (kT.out.keep hb3))) rfl ⟨?_, ?_⟩
  ·rw [HJ.out, HN.out]; rfl
  ·exact below_setRow (BY.out.trans (hb3.mono BY.out.size)) TX _
 ·rw [ho] at qg
  have HN := UZ ho
  have R2 := UZ (dF fy.out ho)
  clear ho
  go_wp2_with (first | (refine wpList_load_mid rfl _ _ rfl _ _ rfl (aa bM) _ fR.out Tryz.underlying56 rfl (hi3 fy.out.len) ?_) | (go_at_call 15; refine qg.out.mono ?_; rintro e w3 ⟨rfl, hb3⟩; unfold cE) | (refine wpList_store_row rfl 56 (.tmp 8) (.tmp 58) rfl (w.heap.size + 1) (aa r2).toArray rfl rfl 56 _ (kT.out.keep hb3) (hi4 R2.out.len) (hi6 R2.out.len ag) (aj r2) ?_))
  refine bodyPost_ret (aP Tryz.results27 _ (w.heap.size + 1) R2.out.len rfl (aC.row (kT.out.keep hb3))) rfl ⟨?_, ?_⟩
  ·rw [HJ.out, HN.out]; rfl
  ·exact below_setRow (BY.out.trans (hb3.mono BY.out.size)) TX _
theorem xk {V w : World} {ab cb rb ib pb : Nat} {bv pv : Value} {G : List ew} {B : List AB} {val : Nat → Value} {s : AS} (h : An V w ab cb rb ib pb bv pv G B val s) {k : Nat} {bl : AB} (hk : B[k]? = some bl) (hne : bl.code ≠ []) (gy : bl.nx.length ≤ 1000) (op a b c im : Int) (h0' : 0 ≤ op) (eY : bl.last = ⟨op, a, b, c, im⟩) (hop : op = 23) (j : Nat) (hu2 : bl.nx.length = 2) (bM : RG) (h16 : R16 bM) (T : fM w) :
  Calls Tryz.prog 27 #[.pointer (some ⟨ab, 0, none⟩), .int .i64 (k : Int), .int .i64 (j : Int), .agg (aa bM).toArray] w fun e w' => e = .returned (cE (cU ⟨op, a, b, c, im⟩ bM (decide (j = 1)))) ∧ Below w.heap.size w w' := by
 subst hop
 have mV := (List.getElem?_eq_some_iff.1 hk).1
 have vu := h.lB
 obtain ⟨V0, gP, kx, kz, b0, s0⟩ := kU w (aa bM).toArray Va.toArray 56 56
 have h0 := h.below b0
 obtain ⟨l1, l2, l3, l4, l5⟩ := h0.lt
 obtain ⟨c0, c2, -, -, -⟩ := h0.cells
 have dk : (k : Int) < (B.length : Int) := by omega
 obtain ⟨q, cap, x2, fH, Dm, Ji, i0, i1, i2, i3, i4⟩ := h0.last hk hne eY
 obtain ⟨g, off, cN, nA, dY, nN, g1, g2, g3, nc, n1, n2, n3⟩ := h0.next hk
 have hm1 : 1 ≤ bl.code.length := List.length_pos_iff.2 hne
 have hnl : bl.nx.length ≤ 1000000 := by have := gy; omega
 obtain ⟨n, hn⟩ : ∃ n, B.length = n := ⟨_, rfl⟩
 obtain ⟨m, hm⟩ : ∃ m, bl.code.length = m := ⟨_, rfl⟩
 obtain ⟨u, hu⟩ : ∃ u, bl.nx.length = u := ⟨_, rfl⟩
 rw [nN] at c0
 rw [hn] at c0 c2 dk vu g1
 rw [hm] at x2 fH i0 i1 i2 i3 i4 hm1
 rw [hu] at nc n1 n3 hnl
 simp only at i0 i1 i2 i3 i4
 have dm : IntKind.i64.wrap ((m : Int) - 1) = ((m - 1 : Nat) : Int) := by
  rw [IntWalk.i64_in _ TX]; omega
 have dm2 : ((m - 1 : Nat) : Int) < (m : Int) := by omega
 have KX := UZ (show aC V0 w.heap.size 56 bM from kx)
 have KZ := UZ (show aC V0 (w.heap.size + 1) 56 ak from kz)
 have B0 := UZ b0
 have S0 := UZ s0
 have HU := UZ hu
 have HT := UZ (T.below b0)
 have fy := UZ h16
 clear h hk hne T h0 kx kz b0 s0 mV nN n3 hu hm hn h16 eY gy
 go_enter Tryz.func27, Tryz.ntmps27
 go_upto_region 1 with fail
 clear gP
 go_cut [10] from 15 to 32 (fun a10 wx => ∃ gO, a10 = .pointer (some ⟨gO, 0, none⟩) ∧ wx.heap[gO]? = some (.cells #[.int .u8 23, .int .i64 a, .int .i64 b, .int .i64 c, .int .i64 im] 64 (0, 0)) ∧ Below V0.heap.size V0 wx)
 case first =>
  go_region
  all_goals
   go_wp2_with fail
   go_meet
   case rel =>
    exact ⟨_, rfl, heap_alloc_new _ _, (Below.drew (Below.refl _ _)).alloc (Nat.le_refl _) _⟩
 obtain ⟨gO, rfl, ya, bY⟩ := hcut
 obtain ⟨Y, hY⟩ : ∃ Y : World, Y = wc := ⟨_, rfl⟩
 subst hY
 obtain ⟨z0, z1, z2, z3, z4, lY⟩ := aG ya
 have BY := UZ (B0.out.trans (bY.mono B0.out.size))
 have Jy := UZ bY
 have tq := UZ (KX.out.keep bY)
 have kT := UZ (KZ.out.keep bY)
 have xT := UZ (HT.out.below bY)
 have fR := UZ tq.out.range
 have w1 : ab < Y.heap.size := by have := bY.size; omega
 have w2 : g < Y.heap.size := by have := bY.size; omega
 have lw : w.heap.size < Y.heap.size := tq.out.lt
 have lw1 : w.heap.size + 1 < Y.heap.size := kT.out.lt
 have y0 : Y.cell? ⟨ab, 0, none⟩ = _ := (bY.cell (p := ⟨ab, 0, none⟩) l1).trans c0
 have y1 : Y.cell? ⟨g, off + k * 3 + 2, none⟩ = _ := (bY.cell (p := ⟨g, off + k * 3 + 2, none⟩) g3).trans nc
 clear bY ya c0 c2 nc x2 i0 i1 i2 i3 i4
 have du : ((u : Int) == 2) = true := by have := HU.out; rw [hu2] at this; rw [← this]; rfl
 obtain ⟨tk, A7⟩ : ∃ tk, ((j : Int) == 1) = tk := ⟨_, rfl⟩
 have qg := UZ (refine_any 23 a b c im h0' bM fy.out tk Y xT.out)
 have HJ := UZ (show decide (j = 1) = tk by rw [← A7, Bool.eq_iff_iff, decide_eq_true_eq, beq_iff_eq]; omega)
 rcases ho : cU ⟨23, a, b, c, im⟩ bM tk with _ | r2
 ·rw [ho] at qg
  have HN := UZ ho
  clear ho
  go_wp2_with (first | (refine wpList_load_mid rfl _ _ rfl _ _ rfl (aa bM) _ fR.out Tryz.underlying56 rfl (hi3 fy.out.len) ?_) | (go_at_call 15; refine qg.out.mono ?_; rintro e w3 ⟨rfl, hb3⟩; unfold cE) | (refine wpList_store_row rfl 56 (.tmp 8) (.tmp 58) rfl (w.heap.size + 1) (aa ak).toArray rfl rfl 56 _ (kT.out.keep hb3) (hi4 ag) (hi6 ag ag) (aj ak) ?_))
  refine bodyPost_ret (aP Tryz.results27 _ (w.heap.size + 1) ag rfl (aC.row (kT.out.keep hb3))) rfl ⟨?_, ?_⟩
  ·rw [HJ.out, HN.out]; rfl
  ·exact below_setRow (BY.out.trans (hb3.mono BY.out.size)) TX _
 ·rw [ho] at qg
  have HN := UZ ho
  have R2 := UZ (dF fy.out ho)
  clear ho
  go_wp2_with (first | (refine wpList_load_mid rfl _ _ rfl _ _ rfl (aa bM) _ fR.out Tryz.underlying56 rfl (hi3 fy.out.len) ?_) | (go_at_call 15; refine qg.out.mono ?_; rintro e w3 ⟨rfl, hb3⟩; unfold cE) | (refine wpList_store_row rfl 56 (.tmp 8) (.tmp 58) rfl (w.heap.size + 1) (aa r2).toArray rfl rfl 56 _ (kT.out.keep hb3) (hi4 R2.out.len) (hi6 R2.out.len ag) (aj r2) ?_))
  refine bodyPost_ret (aP Tryz.results27 _ (w.heap.size + 1) R2.out.len rfl (aC.row (kT.out.keep hb3))) rfl ⟨?_, ?_⟩
  ·rw [HJ.out, HN.out]; rfl
  ·exact below_setRow (BY.out.trans (hb3.mono BY.out.size)) TX _
theorem xq {V w : World} {ab cb rb ib pb : Nat} {bv pv : Value} {G : List ew} {B : List AB} {val : Nat → Value} {s : AS} (h : An V w ab cb rb ib pb bv pv G B val s) {k : Nat} {bl : AB} (hk : B[k]? = some bl) (hne : bl.code ≠ []) (gy : bl.nx.length ≤ 1000) (op a b c im : Int) (h0' : 0 ≤ op) (eY : bl.last = ⟨op, a, b, c, im⟩) (hop : op = 22) (j : Nat) (hu2 : bl.nx.length ≠ 2) (bM : RG) (h16 : R16 bM) (T : fM w) :
  Calls Tryz.prog 27 #[.pointer (some ⟨ab, 0, none⟩), .int .i64 (k : Int), .int .i64 (j : Int), .agg (aa bM).toArray] w fun e w' => e = .returned (cE (dL bl.last bl.nx.length j bM)) ∧ Below w.heap.size w w' := by
 subst hop
 have wR := eY
 have mV := (List.getElem?_eq_some_iff.1 hk).1
 have vu := h.lB
 obtain ⟨V0, gP, kx, kz, b0, s0⟩ := kU w (aa bM).toArray Va.toArray 56 56
 have h0 := h.below b0
 obtain ⟨l1, l2, l3, l4, l5⟩ := h0.lt
 obtain ⟨c0, c2, -, -, -⟩ := h0.cells
 have dk : (k : Int) < (B.length : Int) := by omega
 obtain ⟨q, cap, x2, fH, Dm, Ji, i0, i1, i2, i3, i4⟩ := h0.last hk hne eY
 obtain ⟨g, off, cN, nA, dY, nN, g1, g2, g3, nc, n1, n2, n3⟩ := h0.next hk
 have hm1 : 1 ≤ bl.code.length := List.length_pos_iff.2 hne
 have hnl : bl.nx.length ≤ 1000000 := by have := gy; omega
 obtain ⟨n, hn⟩ : ∃ n, B.length = n := ⟨_, rfl⟩
 obtain ⟨m, hm⟩ : ∃ m, bl.code.length = m := ⟨_, rfl⟩
 obtain ⟨u, hu⟩ : ∃ u, bl.nx.length = u := ⟨_, rfl⟩
 rw [nN] at c0
 rw [hn] at c0 c2 dk vu g1
 rw [hm] at x2 fH i0 i1 i2 i3 i4 hm1
 rw [hu] at nc n1 n3 hnl
 simp only at i0 i1 i2 i3 i4
 have dm : IntKind.i64.wrap ((m : Int) - 1) = ((m - 1 : Nat) : Int) := by
  rw [IntWalk.i64_in _ TX]; omega
 have dm2 : ((m - 1 : Nat) : Int) < (m : Int) := by omega
 have KX := UZ (show aC V0 w.heap.size 56 bM from kx)
 have KZ := UZ (show aC V0 (w.heap.size + 1) 56 ak from kz)
 have B0 := UZ b0
 have S0 := UZ s0
 have HU := UZ hu
 have HT := UZ (T.below b0)
 have fy := UZ h16
 clear h hk hne T h0 kx kz b0 s0 mV nN n3 hu hm hn h16 eY gy
 go_enter Tryz.func27, Tryz.ntmps27
 go_upto_region 1 with fail
 clear gP
 go_cut [10] from 15 to 32 (fun a10 wx => ∃ gO, a10 = .pointer (some ⟨gO, 0, none⟩) ∧ wx.heap[gO]? = some (.cells #[.int .u8 22, .int .i64 a, .int .i64 b, .int .i64 c, .int .i64 im] 64 (0, 0)) ∧ Below V0.heap.size V0 wx)
 case first =>
  go_region
  all_goals
   go_wp2_with fail
   go_meet
   case rel =>
    exact ⟨_, rfl, heap_alloc_new _ _, (Below.drew (Below.refl _ _)).alloc (Nat.le_refl _) _⟩
 obtain ⟨gO, rfl, ya, bY⟩ := hcut
 obtain ⟨Y, hY⟩ : ∃ Y : World, Y = wc := ⟨_, rfl⟩
 subst hY
 obtain ⟨z0, z1, z2, z3, z4, lY⟩ := aG ya
 have BY := UZ (B0.out.trans (bY.mono B0.out.size))
 have Jy := UZ bY
 have tq := UZ (KX.out.keep bY)
 have kT := UZ (KZ.out.keep bY)
 have xT := UZ (HT.out.below bY)
 have fR := UZ tq.out.range
 have w1 : ab < Y.heap.size := by have := bY.size; omega
 have w2 : g < Y.heap.size := by have := bY.size; omega
 have lw : w.heap.size < Y.heap.size := tq.out.lt
 have lw1 : w.heap.size + 1 < Y.heap.size := kT.out.lt
 have y0 : Y.cell? ⟨ab, 0, none⟩ = _ := (bY.cell (p := ⟨ab, 0, none⟩) l1).trans c0
 have y1 : Y.cell? ⟨g, off + k * 3 + 2, none⟩ = _ := (bY.cell (p := ⟨g, off + k * 3 + 2, none⟩) g3).trans nc
 clear bY ya c0 c2 nc x2 i0 i1 i2 i3 i4
 have du : ((u : Int) == 2) = false := by have := HU.out; rw [beq_eq_false_iff_ne]; omega
 have s9 := UZ (show ∀ x y, cU ⟨22, a, b, c, im⟩ bM false = x → cU ⟨22, a, b, c, im⟩ bM true = y → dL bl.last bl.nx.length j bM = match x, y with | none, y => y | some x, none => some x | some x, some y => some (b7 x y) from fun x y hx hy => by
  unfold dL
  rw [wR, if_neg T4, if_neg hu2, hx, hy]
  rfl)
 have qg := UZ (refine_any 22 a b c im h0' bM fy.out false Y xT.out)
 rcases hx : cU ⟨22, a, b, c, im⟩ bM false with _ | rx
 ·rw [hx] at qg
  have HX := UZ hx
  clear hx
  go_upto_region 7 with (first | (refine wpList_load_mid rfl _ _ rfl _ _ rfl (aa bM) _ fR.out Tryz.underlying56 rfl (hi3 fy.out.len) ?_) | (go_at_call 15; refine qg.out.mono ?_; rintro e w3 ⟨rfl, hb3⟩; unfold cE) | (refine wpList_store_row rfl 56 (.tmp 11) (.tmp 64) rfl w3.heap.size (aa ak).toArray rfl rfl 56 _ (heap_alloc_new _ _) (hi4 ag) (hi6 ag ag) (aj ak) ?_))
  obtain ⟨Y3, sL⟩ : ∃ Y3, (w3.alloc (.cells Va.toArray 56)).setRow w3.heap.size (aa ak).toArray = Y3 := ⟨_, rfl⟩
  rw [sL]
  have b3 : Below w3.heap.size w3 Y3 := sL ▸ below_setRow ((Below.refl _ _).alloc (Nat.le_refl _) _) (Nat.le_refl _) _
  have K3 := UZ (show aC Y3 w3.heap.size 56 ak from sL ▸ aC.row (z := ak) (heap_alloc_new _ _))
  have gm : Below Y.heap.size Y Y3 := hb3.trans (b3.mono hb3.size)
  obtain ⟨q3, hq3⟩ : ∃ q3, w3.heap.size = q3 := ⟨_, rfl⟩
  rw [hq3] at K3
  rw [hq3]
  have II := UZ (tq.out.keep gm)
  have DG := UZ (kT.out.keep gm)
  have qa := UZ II.out.range
  have B3 := UZ (BY.out.trans (gm.mono BY.out.size))
  have L3 := UZ (show w.heap.size + 1 < q3 by have := hb3.size; omega)
  have s0 := (gm.cell (p := ⟨gO, 0, none⟩) lY).trans z0
  have s1 := (gm.cell (p := ⟨gO, 1, none⟩) lY).trans z1
  have s2 := (gm.cell (p := ⟨gO, 2, none⟩) lY).trans z2
  have s3 := (gm.cell (p := ⟨gO, 3, none⟩) lY).trans z3
  have s4 := (gm.cell (p := ⟨gO, 4, none⟩) lY).trans z4
  have MR : gO < Y3.heap.size := by have := gm.size; omega
  have je := UZ (refine_any 22 a b c im h0' bM fy.out true Y3 (xT.out.below gm))
  clear sL b3 gm hq3 hb3
  rcases hy : cU ⟨22, a, b, c, im⟩ bM true with _ | ry
  ·rw [hy] at je
   have HY := UZ (s9.out _ _ HX.out hy)
   clear hy
   go_upto_region 8 with (first | (refine wpList_load_mid rfl _ _ rfl _ _ rfl (aa bM) _ qa.out Tryz.underlying56 rfl (hi3 fy.out.len) ?_) | (go_at_call 15; refine je.out.mono ?_; rintro e w4 ⟨rfl, hb4⟩; unfold cE) | (refine wpList_store_row rfl 56 (.tmp 13) (.tmp 70) rfl w4.heap.size (aa ak).toArray rfl rfl 56 _ (heap_alloc_new _ _) (hi4 ag) (hi6 ag ag) (aj ak) ?_))
   obtain ⟨Y4, iU⟩ : ∃ Y4, (w4.alloc (.cells Va.toArray 56)).setRow w4.heap.size (aa ak).toArray = Y4 := ⟨_, rfl⟩
   rw [iU]
   have b4 : Below w4.heap.size w4 Y4 := iU ▸ below_setRow ((Below.refl _ _).alloc (Nat.le_refl _) _) (Nat.le_refl _) _
   have K4 := UZ (show aC Y4 w4.heap.size 56 ak from iU ▸ aC.row (z := ak) (heap_alloc_new _ _))
   have jb : Below Y3.heap.size Y3 Y4 := hb4.trans (b4.mono hb4.size)
   have xS := UZ (K3.out.keep jb)
   have sY := UZ xS.out.range
   have vB := UZ K4.out.range
   have p8 := UZ (DG.out.keep jb)
   have B4 := UZ (B3.out.trans (jb.mono B3.out.size))
   clear iU b4 jb hb4
   go_wp2_with (first | (refine wpList_load_mid rfl _ _ rfl _ _ rfl (aa ak) _ vB.out Tryz.underlying56 rfl (hi3 ag) ?_) | (refine wpList_store_row rfl 56 (.tmp 8) (.tmp 75) rfl (w.heap.size + 1) (aa ak).toArray rfl rfl 56 _ p8.out (hi4 ag) (hi6 ag ag) (aj ak) ?_))
   refine bodyPost_ret (aP Tryz.results27 _ (w.heap.size + 1) ag rfl (aC.row p8.out)) rfl ⟨?_, below_setRow B4.out TX _⟩
   rw [HY.out]; rfl
  ·rw [hy] at je
   have HY := UZ (s9.out _ _ HX.out hy)
   have RY := UZ (dF fy.out hy)
   clear hy
   go_upto_region 8 with (first | (refine wpList_load_mid rfl _ _ rfl _ _ rfl (aa bM) _ qa.out Tryz.underlying56 rfl (hi3 fy.out.len) ?_) | (go_at_call 15; refine je.out.mono ?_; rintro e w4 ⟨rfl, hb4⟩; unfold cE) | (refine wpList_store_row rfl 56 (.tmp 13) (.tmp 70) rfl w4.heap.size (aa ry).toArray rfl rfl 56 _ (heap_alloc_new _ _) (hi4 RY.out.len) (hi6 RY.out.len ag) (aj ry) ?_))
   obtain ⟨Y4, iU⟩ : ∃ Y4, (w4.alloc (.cells Va.toArray 56)).setRow w4.heap.size (aa ry).toArray = Y4 := ⟨_, rfl⟩
   rw [iU]
   have b4 : Below w4.heap.size w4 Y4 := iU ▸ below_setRow ((Below.refl _ _).alloc (Nat.le_refl _) _) (Nat.le_refl _) _
   have K4 := UZ (show aC Y4 w4.heap.size 56 ry from iU ▸ aC.row (z := ak) (heap_alloc_new _ _))
   have jb : Below Y3.heap.size Y3 Y4 := hb4.trans (b4.mono hb4.size)
   have xS := UZ (K3.out.keep jb)
   have sY := UZ xS.out.range
   have vB := UZ K4.out.range
   have p8 := UZ (DG.out.keep jb)
   have B4 := UZ (B3.out.trans (jb.mono B3.out.size))
   clear iU b4 jb hb4
   go_wp2_with (first | (refine wpList_load_mid rfl _ _ rfl _ _ rfl (aa ry) _ vB.out Tryz.underlying56 rfl (hi3 RY.out.len) ?_) | (refine wpList_store_row rfl 56 (.tmp 8) (.tmp 75) rfl (w.heap.size + 1) (aa ry).toArray rfl rfl 56 _ p8.out (hi4 RY.out.len) (hi6 RY.out.len ag) (aj ry) ?_))
   refine bodyPost_ret (aP Tryz.results27 _ (w.heap.size + 1) RY.out.len rfl (aC.row p8.out)) rfl ⟨?_, below_setRow B4.out TX _⟩
   rw [HY.out]; rfl
 ·rw [hx] at qg
  have HX := UZ hx
  have RX := UZ (dF fy.out hx)
  clear hx
  go_upto_region 7 with (first | (refine wpList_load_mid rfl _ _ rfl _ _ rfl (aa bM) _ fR.out Tryz.underlying56 rfl (hi3 fy.out.len) ?_) | (go_at_call 15; refine qg.out.mono ?_; rintro e w3 ⟨rfl, hb3⟩; unfold cE) | (refine wpList_store_row rfl 56 (.tmp 11) (.tmp 64) rfl w3.heap.size (aa rx).toArray rfl rfl 56 _ (heap_alloc_new _ _) (hi4 RX.out.len) (hi6 RX.out.len ag) (aj rx) ?_))
  obtain ⟨Y3, sL⟩ : ∃ Y3, (w3.alloc (.cells Va.toArray 56)).setRow w3.heap.size (aa rx).toArray = Y3 := ⟨_, rfl⟩
  rw [sL]
  have b3 : Below w3.heap.size w3 Y3 := sL ▸ below_setRow ((Below.refl _ _).alloc (Nat.le_refl _) _) (Nat.le_refl _) _
  have K3 := UZ (show aC Y3 w3.heap.size 56 rx from sL ▸ aC.row (z := ak) (heap_alloc_new _ _))
  have gm : Below Y.heap.size Y Y3 := hb3.trans (b3.mono hb3.size)
  obtain ⟨q3, hq3⟩ : ∃ q3, w3.heap.size = q3 := ⟨_, rfl⟩
  rw [hq3] at K3
  rw [hq3]
  have II := UZ (tq.out.keep gm)
  have DG := UZ (kT.out.keep gm)
  have qa := UZ II.out.range
  have B3 := UZ (BY.out.trans (gm.mono BY.out.size))
  have L3 := UZ (show w.heap.size + 1 < q3 by have := hb3.size; omega)
  have s0 := (gm.cell (p := ⟨gO, 0, none⟩) lY).trans z0
  have s1 := (gm.cell (p := ⟨gO, 1, none⟩) lY).trans z1
  have s2 := (gm.cell (p := ⟨gO, 2, none⟩) lY).trans z2
  have s3 := (gm.cell (p := ⟨gO, 3, none⟩) lY).trans z3
  have s4 := (gm.cell (p := ⟨gO, 4, none⟩) lY).trans z4
  have MR : gO < Y3.heap.size := by have := gm.size; omega
  have je := UZ (refine_any 22 a b c im h0' bM fy.out true Y3 (xT.out.below gm))
  clear sL b3 gm hq3 hb3
  rcases hy : cU ⟨22, a, b, c, im⟩ bM true with _ | ry
  ·rw [hy] at je
   have HY := UZ (s9.out _ _ HX.out hy)
   clear hy
   go_upto_region 8 with (first | (refine wpList_load_mid rfl _ _ rfl _ _ rfl (aa bM) _ qa.out Tryz.underlying56 rfl (hi3 fy.out.len) ?_) | (go_at_call 15; refine je.out.mono ?_; rintro e w4 ⟨rfl, hb4⟩; unfold cE) | (refine wpList_store_row rfl 56 (.tmp 13) (.tmp 70) rfl w4.heap.size (aa ak).toArray rfl rfl 56 _ (heap_alloc_new _ _) (hi4 ag) (hi6 ag ag) (aj ak) ?_))
   obtain ⟨Y4, iU⟩ : ∃ Y4, (w4.alloc (.cells Va.toArray 56)).setRow w4.heap.size (aa ak).toArray = Y4 := ⟨_, rfl⟩
   rw [iU]
   have b4 : Below w4.heap.size w4 Y4 := iU ▸ below_setRow ((Below.refl _ _).alloc (Nat.le_refl _) _) (Nat.le_refl _) _
   have K4 := UZ (show aC Y4 w4.heap.size 56 ak from iU ▸ aC.row (z := ak) (heap_alloc_new _ _))
   have jb : Below Y3.heap.size Y3 Y4 := hb4.trans (b4.mono hb4.size)
   have xS := UZ (K3.out.keep jb)
   have sY := UZ xS.out.range
   have vB := UZ K4.out.range
   have p8 := UZ (DG.out.keep jb)
   have B4 := UZ (B3.out.trans (jb.mono B3.out.size))
   clear iU b4 jb hb4
   go_wp2_with (first | (refine wpList_load_mid rfl _ _ rfl _ _ rfl (aa rx) _ sY.out Tryz.underlying56 rfl (hi3 RX.out.len) ?_) | (refine wpList_store_row rfl 56 (.tmp 8) (.tmp 80) rfl (w.heap.size + 1) (aa rx).toArray rfl rfl 56 _ p8.out (hi4 RX.out.len) (hi6 RX.out.len ag) (aj rx) ?_))
   refine bodyPost_ret (aP Tryz.results27 _ (w.heap.size + 1) RX.out.len rfl (aC.row p8.out)) rfl ⟨?_, below_setRow B4.out TX _⟩
   rw [HY.out]; rfl
  ·rw [hy] at je
   have HY := UZ (s9.out _ _ HX.out hy)
   have RY := UZ (dF fy.out hy)
   clear hy
   go_upto_region 8 with (first | (refine wpList_load_mid rfl _ _ rfl _ _ rfl (aa bM) _ qa.out Tryz.underlying56 rfl (hi3 fy.out.len) ?_) | (go_at_call 15; refine je.out.mono ?_; rintro e w4 ⟨rfl, hb4⟩; unfold cE) | (refine wpList_store_row rfl 56 (.tmp 13) (.tmp 70) rfl w4.heap.size (aa ry).toArray rfl rfl 56 _ (heap_alloc_new _ _) (hi4 RY.out.len) (hi6 RY.out.len ag) (aj ry) ?_))
   obtain ⟨Y4, iU⟩ : ∃ Y4, (w4.alloc (.cells Va.toArray 56)).setRow w4.heap.size (aa ry).toArray = Y4 := ⟨_, rfl⟩
   rw [iU]
   have b4 : Below w4.heap.size w4 Y4 := iU ▸ below_setRow ((Below.refl _ _).alloc (Nat.le_refl _) _) (Nat.le_refl _) _
   have K4 := UZ (show aC Y4 w4.heap.size 56 ry from iU ▸ aC.row (z := ak) (heap_alloc_new _ _))
   have jb : Below Y3.heap.size Y3 Y4 := hb4.trans (b4.mono hb4.size)
   have xS := UZ (K3.out.keep jb)
   have sY := UZ xS.out.range
   have vB := UZ K4.out.range
   have p8 := UZ (DG.out.keep jb)
   have B4 := UZ (B3.out.trans (jb.mono B3.out.size))
   clear iU b4 jb hb4
   have Ju := UZ (gG 64 bR (fun _ _ => by kernel_rfl) pz rx ry RX.out.len RY.out.len Y4)
   have RJ := UZ (RX.out.join RY.out)
   go_wp2_with (first | (refine wpList_load_mid rfl _ _ rfl _ _ rfl (aa rx) _ sY.out Tryz.underlying56 rfl (hi3 RX.out.len) ?_) | (refine wpList_load_mid rfl _ _ rfl _ _ rfl (aa ry) _ vB.out Tryz.underlying56 rfl (hi3 RY.out.len) ?_) | (go_at_call 63; refine Ju.out.mono ?_; rintro e w5 ⟨rfl, hb5⟩) | (refine wpList_store_row rfl 56 (.tmp 8) (.tmp 84) rfl (w.heap.size + 1) (aa (b7 rx ry)).toArray rfl rfl 56 _ (p8.out.keep hb5) (hi4 RJ.out.len) (hi6 RJ.out.len ag) (aj (b7 rx ry)) ?_))
   refine bodyPost_ret (aP Tryz.results27 _ (w.heap.size + 1) RJ.out.len rfl (aC.row (p8.out.keep hb5))) rfl ⟨?_, below_setRow (B4.out.trans (hb5.mono B4.out.size)) TX _⟩
   rw [HY.out]; rfl
theorem xp {V w : World} {ab cb rb ib pb : Nat} {bv pv : Value} {G : List ew} {B : List AB} {val : Nat → Value} {s : AS} (h : An V w ab cb rb ib pb bv pv G B val s) {k : Nat} {bl : AB} (hk : B[k]? = some bl) (hne : bl.code ≠ []) (gy : bl.nx.length ≤ 1000) (op a b c im : Int) (h0' : 0 ≤ op) (eY : bl.last = ⟨op, a, b, c, im⟩) (hop : op = 23) (j : Nat) (hu2 : bl.nx.length ≠ 2) (bM : RG) (h16 : R16 bM) (T : fM w) :
  Calls Tryz.prog 27 #[.pointer (some ⟨ab, 0, none⟩), .int .i64 (k : Int), .int .i64 (j : Int), .agg (aa bM).toArray] w fun e w' => e = .returned (cE (dL bl.last bl.nx.length j bM)) ∧ Below w.heap.size w w' := by
 subst hop
 have wR := eY
 have mV := (List.getElem?_eq_some_iff.1 hk).1
 have vu := h.lB
 obtain ⟨V0, gP, kx, kz, b0, s0⟩ := kU w (aa bM).toArray Va.toArray 56 56
 have h0 := h.below b0
 obtain ⟨l1, l2, l3, l4, l5⟩ := h0.lt
 obtain ⟨c0, c2, -, -, -⟩ := h0.cells
 have dk : (k : Int) < (B.length : Int) := by omega
 obtain ⟨q, cap, x2, fH, Dm, Ji, i0, i1, i2, i3, i4⟩ := h0.last hk hne eY
 obtain ⟨g, off, cN, nA, dY, nN, g1, g2, g3, nc, n1, n2, n3⟩ := h0.next hk
 have hm1 : 1 ≤ bl.code.length := List.length_pos_iff.2 hne
 have hnl : bl.nx.length ≤ 1000000 := by have := gy; omega
 obtain ⟨n, hn⟩ : ∃ n, B.length = n := ⟨_, rfl⟩
 obtain ⟨m, hm⟩ : ∃ m, bl.code.length = m := ⟨_, rfl⟩
 obtain ⟨u, hu⟩ : ∃ u, bl.nx.length = u := ⟨_, rfl⟩
 rw [nN] at c0
 rw [hn] at c0 c2 dk vu g1
 rw [hm] at x2 fH i0 i1 i2 i3 i4 hm1
 rw [hu] at nc n1 n3 hnl
 simp only at i0 i1 i2 i3 i4
 have dm : IntKind.i64.wrap ((m : Int) - 1) = ((m - 1 : Nat) : Int) := by
  rw [IntWalk.i64_in _ TX]; omega
 have dm2 : ((m - 1 : Nat) : Int) < (m : Int) := by omega
 have KX := UZ (show aC V0 w.heap.size 56 bM from kx)
 have KZ := UZ (show aC V0 (w.heap.size + 1) 56 ak from kz)
 have B0 := UZ b0
 have S0 := UZ s0
 have HU := UZ hu
 have HT := UZ (T.below b0)
 have fy := UZ h16
 clear h hk hne T h0 kx kz b0 s0 mV nN n3 hu hm hn h16 eY gy
 go_enter Tryz.func27, Tryz.ntmps27
 go_upto_region 1 with fail
 clear gP
 go_cut [10] from 15 to 32 (fun a10 wx => ∃ gO, a10 = .pointer (some ⟨gO, 0, none⟩) ∧ wx.heap[gO]? = some (.cells #[.int .u8 23, .int .i64 a, .int .i64 b, .int .i64 c, .int .i64 im] 64 (0, 0)) ∧ Below V0.heap.size V0 wx)
 case first =>
  go_region
  all_goals
   go_wp2_with fail
   go_meet
   case rel =>
    exact ⟨_, rfl, heap_alloc_new _ _, (Below.drew (Below.refl _ _)).alloc (Nat.le_refl _) _⟩
 obtain ⟨gO, rfl, ya, bY⟩ := hcut
 obtain ⟨Y, hY⟩ : ∃ Y : World, Y = wc := ⟨_, rfl⟩
 subst hY
 obtain ⟨z0, z1, z2, z3, z4, lY⟩ := aG ya
 have BY := UZ (B0.out.trans (bY.mono B0.out.size))
 have Jy := UZ bY
 have tq := UZ (KX.out.keep bY)
 have kT := UZ (KZ.out.keep bY)
 have xT := UZ (HT.out.below bY)
 have fR := UZ tq.out.range
 have w1 : ab < Y.heap.size := by have := bY.size; omega
 have w2 : g < Y.heap.size := by have := bY.size; omega
 have lw : w.heap.size < Y.heap.size := tq.out.lt
 have lw1 : w.heap.size + 1 < Y.heap.size := kT.out.lt
 have y0 : Y.cell? ⟨ab, 0, none⟩ = _ := (bY.cell (p := ⟨ab, 0, none⟩) l1).trans c0
 have y1 : Y.cell? ⟨g, off + k * 3 + 2, none⟩ = _ := (bY.cell (p := ⟨g, off + k * 3 + 2, none⟩) g3).trans nc
 clear bY ya c0 c2 nc x2 i0 i1 i2 i3 i4
 have du : ((u : Int) == 2) = false := by have := HU.out; rw [beq_eq_false_iff_ne]; omega
 have s9 := UZ (show ∀ x y, cU ⟨23, a, b, c, im⟩ bM false = x → cU ⟨23, a, b, c, im⟩ bM true = y → dL bl.last bl.nx.length j bM = match x, y with | none, y => y | some x, none => some x | some x, some y => some (b7 x y) from fun x y hx hy => by
  unfold dL
  rw [wR, if_neg T4, if_neg hu2, hx, hy]
  rfl)
 have qg := UZ (refine_any 23 a b c im h0' bM fy.out false Y xT.out)
 rcases hx : cU ⟨23, a, b, c, im⟩ bM false with _ | rx
 ·rw [hx] at qg
  have HX := UZ hx
  clear hx
  go_upto_region 7 with (first | (refine wpList_load_mid rfl _ _ rfl _ _ rfl (aa bM) _ fR.out Tryz.underlying56 rfl (hi3 fy.out.len) ?_) | (go_at_call 15; refine qg.out.mono ?_; rintro e w3 ⟨rfl, hb3⟩; unfold cE) | (refine wpList_store_row rfl 56 (.tmp 11) (.tmp 64) rfl w3.heap.size (aa ak).toArray rfl rfl 56 _ (heap_alloc_new _ _) (hi4 ag) (hi6 ag ag) (aj ak) ?_))
  obtain ⟨Y3, sL⟩ : ∃ Y3, (w3.alloc (.cells Va.toArray 56)).setRow w3.heap.size (aa ak).toArray = Y3 := ⟨_, rfl⟩
  rw [sL]
  have b3 : Below w3.heap.size w3 Y3 := sL ▸ below_setRow ((Below.refl _ _).alloc (Nat.le_refl _) _) (Nat.le_refl _) _
  have K3 := UZ (show aC Y3 w3.heap.size 56 ak from sL ▸ aC.row (z := ak) (heap_alloc_new _ _))
  have gm : Below Y.heap.size Y Y3 := hb3.trans (b3.mono hb3.size)
  obtain ⟨q3, hq3⟩ : ∃ q3, w3.heap.size = q3 := ⟨_, rfl⟩
  rw [hq3] at K3
  rw [hq3]
  have II := UZ (tq.out.keep gm)
  have DG := UZ (kT.out.keep gm)
  have qa := UZ II.out.range
  have B3 := UZ (BY.out.trans (gm.mono BY.out.size))
  have L3 := UZ (show w.heap.size + 1 < q3 by have := hb3.size; omega)
  have s0 := (gm.cell (p := ⟨gO, 0, none⟩) lY).trans z0
  have s1 := (gm.cell (p := ⟨gO, 1, none⟩) lY).trans z1
  have s2 := (gm.cell (p := ⟨gO, 2, none⟩) lY).trans z2
  have s3 := (gm.cell (p := ⟨gO, 3, none⟩) lY).trans z3
  have s4 := (gm.cell (p := ⟨gO, 4, none⟩) lY).trans z4
  have MR : gO < Y3.heap.size := by have := gm.size; omega
  have je := UZ (refine_any 23 a b c im h0' bM fy.out true Y3 (xT.out.below gm))
  clear sL b3 gm hq3 hb3
  rcases hy : cU ⟨23, a, b, c, im⟩ bM true with _ | ry
  ·rw [hy] at je
   have HY := UZ (s9.out _ _ HX.out hy)
   clear hy
   go_upto_region 8 with (first | (refine wpList_load_mid rfl _ _ rfl _ _ rfl (aa bM) _ qa.out Tryz.underlying56 rfl (hi3 fy.out.len) ?_) | (go_at_call 15; refine je.out.mono ?_; rintro e w4 ⟨rfl, hb4⟩; unfold cE) | (refine wpList_store_row rfl 56 (.tmp 13) (.tmp 70) rfl w4.heap.size (aa ak).toArray rfl rfl 56 _ (heap_alloc_new _ _) (hi4 ag) (hi6 ag ag) (aj ak) ?_))
   obtain ⟨Y4, iU⟩ : ∃ Y4, (w4.alloc (.cells Va.toArray 56)).setRow w4.heap.size (aa ak).toArray = Y4 := ⟨_, rfl⟩
   rw [iU]
   have b4 : Below w4.heap.size w4 Y4 := iU ▸ below_setRow ((Below.refl _ _).alloc (Nat.le_refl _) _) (Nat.le_refl _) _
   have K4 := UZ (show aC Y4 w4.heap.size 56 ak from iU ▸ aC.row (z := ak) (heap_alloc_new _ _))
   have jb : Below Y3.heap.size Y3 Y4 := hb4.trans (b4.mono hb4.size)
   have xS := UZ (K3.out.keep jb)
   have sY := UZ xS.out.range
   have vB := UZ K4.out.range
   have p8 := UZ (DG.out.keep jb)
   have B4 := UZ (B3.out.trans (jb.mono B3.out.size))
   clear iU b4 jb hb4
   go_wp2_with (first | (refine wpList_load_mid rfl _ _ rfl _ _ rfl (aa ak) _ vB.out Tryz.underlying56 rfl (hi3 ag) ?_) | (refine wpList_store_row rfl 56 (.tmp 8) (.tmp 75) rfl (w.heap.size + 1) (aa ak).toArray rfl rfl 56 _ p8.out (hi4 ag) (hi6 ag ag) (aj ak) ?_))
   refine bodyPost_ret (aP Tryz.results27 _ (w.heap.size + 1) ag rfl (aC.row p8.out)) rfl ⟨?_, below_setRow B4.out TX _⟩
   rw [HY.out]; rfl
  ·rw [hy] at je
   have HY := UZ (s9.out _ _ HX.out hy)
   have RY := UZ (dF fy.out hy)
   clear hy
   go_upto_region 8 with (first | (refine wpList_load_mid rfl _ _ rfl _ _ rfl (aa bM) _ qa.out Tryz.underlying56 rfl (hi3 fy.out.len) ?_) | (go_at_call 15; refine je.out.mono ?_; rintro e w4 ⟨rfl, hb4⟩; unfold cE) | (refine wpList_store_row rfl 56 (.tmp 13) (.tmp 70) rfl w4.heap.size (aa ry).toArray rfl rfl 56 _ (heap_alloc_new _ _) (hi4 RY.out.len) (hi6 RY.out.len ag) (aj ry) ?_))
   obtain ⟨Y4, iU⟩ : ∃ Y4, (w4.alloc (.cells Va.toArray 56)).setRow w4.heap.size (aa ry).toArray = Y4 := ⟨_, rfl⟩
   rw [iU]
   have b4 : Below w4.heap.size w4 Y4 := iU ▸ below_setRow ((Below.refl _ _).alloc (Nat.le_refl _) _) (Nat.le_refl _) _
   have K4 := UZ (show aC Y4 w4.heap.size 56 ry from iU ▸ aC.row (z := ak) (heap_alloc_new _ _))
   have jb : Below Y3.heap.size Y3 Y4 := hb4.trans (b4.mono hb4.size)
   have xS := UZ (K3.out.keep jb)
   have sY := UZ xS.out.range
   have vB := UZ K4.out.range
   have p8 := UZ (DG.out.keep jb)
   have B4 := UZ (B3.out.trans (jb.mono B3.out.size))
   clear iU b4 jb hb4
   go_wp2_with (first | (refine wpList_load_mid rfl _ _ rfl _ _ rfl (aa ry) _ vB.out Tryz.underlying56 rfl (hi3 RY.out.len) ?_) | (refine wpList_store_row rfl 56 (.tmp 8) (.tmp 75) rfl (w.heap.size + 1) (aa ry).toArray rfl rfl 56 _ p8.out (hi4 RY.out.len) (hi6 RY.out.len ag) (aj ry) ?_))
   refine bodyPost_ret (aP Tryz.results27 _ (w.heap.size + 1) RY.out.len rfl (aC.row p8.out)) rfl ⟨?_, below_setRow B4.out TX _⟩
   rw [HY.out]; rfl
 ·rw [hx] at qg
  have HX := UZ hx
  have RX := UZ (dF fy.out hx)
  clear hx
  go_upto_region 7 with (first | (refine wpList_load_mid rfl _ _ rfl _ _ rfl (aa bM) _ fR.out Tryz.underlying56 rfl (hi3 fy.out.len) ?_) | (go_at_call 15; refine qg.out.mono ?_; rintro e w3 ⟨rfl, hb3⟩; unfold cE) | (refine wpList_store_row rfl 56 (.tmp 11) (.tmp 64) rfl w3.heap.size (aa rx).toArray rfl rfl 56 _ (heap_alloc_new _ _) (hi4 RX.out.len) (hi6 RX.out.len ag) (aj rx) ?_))
  obtain ⟨Y3, sL⟩ : ∃ Y3, (w3.alloc (.cells Va.toArray 56)).setRow w3.heap.size (aa rx).toArray = Y3 := ⟨_, rfl⟩
  rw [sL]
  have b3 : Below w3.heap.size w3 Y3 := sL ▸ below_setRow ((Below.refl _ _).alloc (Nat.le_refl _) _) (Nat.le_refl _) _
  have K3 := UZ (show aC Y3 w3.heap.size 56 rx from sL ▸ aC.row (z := ak) (heap_alloc_new _ _))
  have gm : Below Y.heap.size Y Y3 := hb3.trans (b3.mono hb3.size)
  obtain ⟨q3, hq3⟩ : ∃ q3, w3.heap.size = q3 := ⟨_, rfl⟩
  rw [hq3] at K3
  rw [hq3]
  have II := UZ (tq.out.keep gm)
  have DG := UZ (kT.out.keep gm)
  have qa := UZ II.out.range
  have B3 := UZ (BY.out.trans (gm.mono BY.out.size))
  have L3 := UZ (show w.heap.size + 1 < q3 by have := hb3.size; omega)
  have s0 := (gm.cell (p := ⟨gO, 0, none⟩) lY).trans z0
  have s1 := (gm.cell (p := ⟨gO, 1, none⟩) lY).trans z1
  have s2 := (gm.cell (p := ⟨gO, 2, none⟩) lY).trans z2
  have s3 := (gm.cell (p := ⟨gO, 3, none⟩) lY).trans z3
  have s4 := (gm.cell (p := ⟨gO, 4, none⟩) lY).trans z4
  have MR : gO < Y3.heap.size := by have := gm.size; omega
  have je := UZ (refine_any 23 a b c im h0' bM fy.out true Y3 (xT.out.below gm))
  clear sL b3 gm hq3 hb3
  rcases hy : cU ⟨23, a, b, c, im⟩ bM true with _ | ry
  ·rw [hy] at je
   have HY := UZ (s9.out _ _ HX.out hy)
   clear hy
   go_upto_region 8 with (first | (refine wpList_load_mid rfl _ _ rfl _ _ rfl (aa bM) _ qa.out Tryz.underlying56 rfl (hi3 fy.out.len) ?_) | (go_at_call 15; refine je.out.mono ?_; rintro e w4 ⟨rfl, hb4⟩; unfold cE) | (refine wpList_store_row rfl 56 (.tmp 13) (.tmp 70) rfl w4.heap.size (aa ak).toArray rfl rfl 56 _ (heap_alloc_new _ _) (hi4 ag) (hi6 ag ag) (aj ak) ?_))
   obtain ⟨Y4, iU⟩ : ∃ Y4, (w4.alloc (.cells Va.toArray 56)).setRow w4.heap.size (aa ak).toArray = Y4 := ⟨_, rfl⟩
   rw [iU]
   have b4 : Below w4.heap.size w4 Y4 := iU ▸ below_setRow ((Below.refl _ _).alloc (Nat.le_refl _) _) (Nat.le_refl _) _
   have K4 := UZ (show aC Y4 w4.heap.size 56 ak from iU ▸ aC.row (z := ak) (heap_alloc_new _ _))
   have jb : Below Y3.heap.size Y3 Y4 := hb4.trans (b4.mono hb4.size)
   have xS := UZ (K3.out.keep jb)
   have sY := UZ xS.out.range
   have vB := UZ K4.out.range
   have p8 := UZ (DG.out.keep jb)
   have B4 := UZ (B3.out.trans (jb.mono B3.out.size))
   clear iU b4 jb hb4
   go_wp2_with (first | (refine wpList_load_mid rfl _ _ rfl _ _ rfl (aa rx) _ sY.out Tryz.underlying56 rfl (hi3 RX.out.len) ?_) | (refine wpList_store_row rfl 56 (.tmp 8) (.tmp 80) rfl (w.heap.size + 1) (aa rx).toArray rfl rfl 56 _ p8.out (hi4 RX.out.len) (hi6 RX.out.len ag) (aj rx) ?_))
   refine bodyPost_ret (aP Tryz.results27 _ (w.heap.size + 1) RX.out.len rfl (aC.row p8.out)) rfl ⟨?_, below_setRow B4.out TX _⟩
   rw [HY.out]; rfl
  ·rw [hy] at je
   have HY := UZ (s9.out _ _ HX.out hy)
   have RY := UZ (dF fy.out hy)
   clear hy
   go_upto_region 8 with (first | (refine wpList_load_mid rfl _ _ rfl _ _ rfl (aa bM) _ qa.out Tryz.underlying56 rfl (hi3 fy.out.len) ?_) | (go_at_call 15; refine je.out.mono ?_; rintro e w4 ⟨rfl, hb4⟩; unfold cE) | (refine wpList_store_row rfl 56 (.tmp 13) (.tmp 70) rfl w4.heap.size (aa ry).toArray rfl rfl 56 _ (heap_alloc_new _ _) (hi4 RY.out.len) (hi6 RY.out.len ag) (aj ry) ?_))
   obtain ⟨Y4, iU⟩ : ∃ Y4, (w4.alloc (.cells Va.toArray 56)).setRow w4.heap.size (aa ry).toArray = Y4 := ⟨_, rfl⟩
   rw [iU]
   have b4 : Below w4.heap.size w4 Y4 := iU ▸ below_setRow ((Below.refl _ _).alloc (Nat.le_refl _) _) (Nat.le_refl _) _
   have K4 := UZ (show aC Y4 w4.heap.size 56 ry from iU ▸ aC.row (z := ak) (heap_alloc_new _ _))
   have jb : Below Y3.heap.size Y3 Y4 := hb4.trans (b4.mono hb4.size)
   have xS := UZ (K3.out.keep jb)
   have sY := UZ xS.out.range
   have vB := UZ K4.out.range
   have p8 := UZ (DG.out.keep jb)
   have B4 := UZ (B3.out.trans (jb.mono B3.out.size))
   clear iU b4 jb hb4
   have Ju := UZ (gG 64 bR (fun _ _ => by kernel_rfl) pz rx ry RX.out.len RY.out.len Y4)
   have RJ := UZ (RX.out.join RY.out)
   go_wp2_with (first | (refine wpList_load_mid rfl _ _ rfl _ _ rfl (aa rx) _ sY.out Tryz.underlying56 rfl (hi3 RX.out.len) ?_) | (refine wpList_load_mid rfl _ _ rfl _ _ rfl (aa ry) _ vB.out Tryz.underlying56 rfl (hi3 RY.out.len) ?_) | (go_at_call 63; refine Ju.out.mono ?_; rintro e w5 ⟨rfl, hb5⟩) | (refine wpList_store_row rfl 56 (.tmp 8) (.tmp 84) rfl (w.heap.size + 1) (aa (b7 rx ry)).toArray rfl rfl 56 _ (p8.out.keep hb5) (hi4 RJ.out.len) (hi6 RJ.out.len ag) (aj (b7 rx ry)) ?_))
   refine bodyPost_ret (aP Tryz.results27 _ (w.heap.size + 1) RJ.out.len rfl (aC.row (p8.out.keep hb5))) rfl ⟨?_, below_setRow (B4.out.trans (hb5.mono B4.out.size)) TX _⟩
   rw [HY.out]; rfl
theorem uS {V w : World} {ab cb rb ib pb : Nat} {bv pv : Value} {G : List ew} {B : List AB} {val : Nat → Value} {s : AS} (h : An V w ab cb rb ib pb bv pv G B val s) {k : Nat} {bl : AB} (hk : B[k]? = some bl) (hne : bl.code ≠ []) (gy : bl.nx.length ≤ 1000) (h0 : 0 ≤ bl.last.op) (j : Nat) (bM : RG) (h16 : R16 bM) (T : fM w) :
  Calls Tryz.prog 27 #[.pointer (some ⟨ab, 0, none⟩), .int .i64 (k : Int), .int .i64 (j : Int), .agg (aa bM).toArray] w fun e w' => e = .returned (cE (dL bl.last bl.nx.length j bM)) ∧ Below w.heap.size w w' := by
 obtain ⟨op, a, b, c, im, hl⟩ : ∃ op a b c im, bl.last = ⟨op, a, b, c, im⟩ := ⟨_, _, _, _, _, rfl⟩
 by_cases h2 : op = 22 ∨ op = 23
 ·have hE : bl.nx.length = 2 → dL bl.last bl.nx.length j bM = cU ⟨op, a, b, c, im⟩ bM (decide (j = 1)) := fun hu => by
   unfold dL
   rw [hl, if_neg (fun hh => hh h2), if_pos hu]
  by_cases hu : bl.nx.length = 2
  ·rw [hE hu]
   rcases h2 with e | e
   ·exact xm h hk hne gy op a b c im UH hl e j hu bM h16 T
   ·exact xk h hk hne gy op a b c im UH hl e j hu bM h16 T
  ·rcases h2 with e | e
   ·exact xq h hk hne gy op a b c im UH hl e j hu bM h16 T
   ·exact xp h hk hne gy op a b c im UH hl e j hu bM h16 T
 ·have hE : dL bl.last bl.nx.length j bM = some bM := by unfold dL; rw [hl, if_pos h2]
  rw [hE]
  exact xo h hk hne gy op a b c im UH hl TX j bM h16 T
end
end Go.Proofs.YtebklpnkcicpjaaGreatDoor
