/-
 What is proved here: what edge returns.
-/
import Derived.Test.YtebklpnkcicpjaaDoorFaAf
import Derived.Test.YtebklpnkcicpjaaDoorFaRf
import Derived.BigRegion
namespace Go.Proofs.YtebklpnkcicpjaaDoor
open Go.RowKit
set_option linter.unusedVariables false
set_option linter.unusedSimpArgs false

theorem two_new (w : World) (cA cB : Array Value) (tA tB : TypeId) : ∃ V, (w.alloc (.cells cA tA)).alloc (.cells cB tB) = V ∧ V.heap[w.heap.size]? = some (.cells cA tA (0, 0)) ∧ V.heap[w.heap.size + 1]? = some (.cells cB tB (0, 0)) ∧ Below w.heap.size w V ∧ V.heap.size = w.heap.size + 1 + 1 := by
 refine ⟨_, rfl, ?_, heap_alloc_at _ _ (by simp), ((Below.refl _ _).alloc (Nat.le_refl _) _).alloc (by simp) _, by simp⟩
 rw [heap_alloc_old _ _ (by simp)]; exact heap_alloc_new _ _
theorem An.last {V w : World} {ab cb rb ib pb : Nat} {bv pv : Value} {G : List Blk} {B : List AB} {val : Nat → Value} {s : AS} (h : An V w ab cb rb ib pb bv pv G B val s) {k : Nat} {b : AB} (hk : B[k]? = some b) (hne : b.code ≠ []) {i : Ins} (hi : b.last = i) :
  ∃ q cap, w.cell? ⟨cb, k, none⟩ = some (.slice (some ⟨q, 0, none⟩) b.code.length cap) ∧ b.code.length ≤ cap ∧ cap ≤ 2 ^ 63 - 1 ∧ q < w.heap.size ∧ w.cell? ⟨q, (b.code.length - 1) * 5, none⟩ = some (.int .u8 i.op) ∧ w.cell? ⟨q, (b.code.length - 1) * 5 + 1, none⟩ = some (.int .i64 i.a) ∧ w.cell? ⟨q, (b.code.length - 1) * 5 + 2, none⟩ = some (.int .i64 i.b) ∧ w.cell? ⟨q, (b.code.length - 1) * 5 + 3, none⟩ = some (.int .i64 i.c) ∧ w.cell? ⟨q, (b.code.length - 1) * 5 + 4, none⟩ = some (.int .i64 i.imm) := by
 obtain ⟨c, hc⟩ := h.code hk
 have hl : b.code.length - 1 < b.code.length := by have := List.length_pos_iff.2 hne; omega
 rcases hc with ⟨_, e⟩ | ⟨q, cap, e1, e2, e3, e4, e5⟩
 ·exact absurd e hne
 ·refine ⟨q, cap, by rw [c, e1], e2, max_63 e3, e4, e5 _ i ?_⟩
  rw [← hi]
  unfold AB.last
  simp [List.getD, List.getElem?_eq_getElem hl]
theorem An.next {V w : World} {ab cb rb ib pb : Nat} {bv pv : Value} {G : List Blk} {B : List AB} {val : Nat → Value} {s : AS} (h : An V w ab cb rb ib pb bv pv G B val s) {k : Nat} {b : AB} (hk : B[k]? = some b) :
  ∃ g off cap nA ncap, bv = .slice (some ⟨g, off, none⟩) B.length cap ∧ B.length ≤ cap ∧ cap ≤ 2 ^ 63 - 1 ∧ g < w.heap.size ∧ w.cell? ⟨g, off + k * 3 + 2, none⟩ = some (.slice nA b.nx.length ncap) ∧ b.nx.length ≤ ncap ∧ ncap ≤ 2 ^ 63 - 1 ∧ Ints w (.slice nA b.nx.length ncap) b.nx := by
 have hkl := (List.getElem?_eq_some_iff.1 hk).1
 have hlG := h.lG
 obtain ⟨A, cap, h1, h2, h3, h4⟩ := h.blks.below h.bel
 obtain ⟨g, off, rfl, hg, hc⟩ := h4 (by omega)
 obtain ⟨x, hx⟩ : ∃ x, G[k]? = some x := ⟨_, List.getElem?_eq_getElem (by omega)⟩
 obtain ⟨_, _, nv, c2, hn⟩ := hc k x hx
 have e := h.gnx k x b hx hk
 rw [e] at hn
 obtain ⟨nA, ncap, rfl, n2, n3⟩ := ints_at hn
 rw [hlG] at h1 h2
 exact ⟨g, off, cap, nA, ncap, h1, h2, max_63 h3, hg, c2, n2, max_63 n3, hn⟩

set_option maxRecDepth 100000 in
set_option maxHeartbeats 4000000 in
theorem edge_plain {V w : World} {ab cb rb ib pb : Nat} {bv pv : Value} {G : List Blk} {B : List AB} {val : Nat → Value} {s : AS} (h : An V w ab cb rb ib pb bv pv G B val s) {k : Nat} {bl : AB} (hk : B[k]? = some bl) (hne : bl.code ≠ []) (hnx : bl.nx.length ≤ 1000) (op a b c im : Int) (h0' : 0 ≤ op) (hlast : bl.last = ⟨op, a, b, c, im⟩) (hop : op ≠ 22 ∧ op ≠ 23) (j : Nat) (aft : RG) (h16 : R16 aft) (T : Tab w) :
  Calls Tryd.prog 45 #[.pointer (some ⟨ab, 0, none⟩), .int .i64 (k : Int), .int .i64 (j : Int), .agg (cellsR aft).toArray] w fun e w' => e = .returned (outR (some aft)) ∧ Below w.heap.size w w' := by
 have e1 : (op != 22) = true := by simp [bne_iff_ne]; omega
 have e2 : (op != 23) = true := by simp [bne_iff_ne]; omega
 clear hop
 have hkl := (List.getElem?_eq_some_iff.1 hk).1
 have hBB := h.lB
 obtain ⟨V0, hV0, kx, kz, b0, s0⟩ := two_new w (cellsR aft).toArray #[.int .i32 0, .int .i32 0, .int .i32 0, .int .i32 0, .int .i32 0, .int .i32 0, .int .i32 0, .int .i32 0, .int .i32 0, .int .i32 0, .int .i32 0, .int .i32 0, .int .i32 0, .int .i32 0, .int .i32 0, .int .i32 0, .int .i32 0, .int .i32 0, .int .i32 0, .int .i32 0, .int .i32 0, .int .i32 0, .int .i32 0, .int .i32 0, .int .i32 0, .int .i32 0, .int .i32 0, .int .i32 0, .int .i32 0, .int .i32 0, .int .i32 0, .int .i32 0] 27 27
 have h0 := h.below b0
 obtain ⟨l1, l2, l3, l4, l5⟩ := h0.lt
 obtain ⟨c0, c2, -, -, -⟩ := h0.cells
 have dk : (k : Int) < (B.length : Int) := by omega
 obtain ⟨q, cap, x2, ccap, cmax, clt, i0, i1, i2, i3, i4⟩ := h0.last hk hne hlast
 obtain ⟨g, off, gcap, nA, ncap, hbv, g1, g2, g3, nc, n1, n2, n3⟩ := h0.next hk
 have hm1 : 1 ≤ bl.code.length := List.length_pos_iff.2 hne
 have hnl : bl.nx.length ≤ 1000000 := by have := hnx; omega
 obtain ⟨n, hn⟩ : ∃ n, B.length = n := ⟨_, rfl⟩
 obtain ⟨m, hm⟩ : ∃ m, bl.code.length = m := ⟨_, rfl⟩
 obtain ⟨u, hu⟩ : ∃ u, bl.nx.length = u := ⟨_, rfl⟩
 rw [hbv] at c0
 rw [hn] at c0 c2 dk hBB g1
 rw [hm] at x2 ccap i0 i1 i2 i3 i4 hm1
 rw [hu] at nc n1 n3 hnl
 simp only at i0 i1 i2 i3 i4
 have dm : IntKind.i64.wrap ((m : Int) - 1) = ((m - 1 : Nat) : Int) := by
  rw [IntWalk.i64_in _ (by omega)]; omega
 have dm2 : ((m - 1 : Nat) : Int) < (m : Int) := by omega
 have KX := Lib.hid (show RBox V0 w.heap.size 27 aft from kx)
 have KZ := Lib.hid (show RBox V0 (w.heap.size + 1) 27 zeroR from kz)
 have B0 := Lib.hid b0
 have S0 := Lib.hid s0
 have HU := Lib.hid hu
 have HT := Lib.hid (T.below b0)
 have A16 := Lib.hid h16
 clear h hk hne T h0 kx kz b0 s0 hkl hbv n3 hu hm hn h16 hlast hnx
 go_enter Tryd.func45, Tryd.ntmps45
 go_upto_region 1 with fail
 clear hV0
 go_cut [10] from 15 to 32 (fun a10 wx => ∃ ibx, a10 = .pointer (some ⟨ibx, 0, none⟩) ∧ wx.heap[ibx]? = some (.cells #[.int .u8 op, .int .i64 a, .int .i64 b, .int .i64 c, .int .i64 im] 23 (0, 0)) ∧ Below V0.heap.size V0 wx)
 case first =>
  go_region
  all_goals
   go_wp2_with fail
   go_meet
   case rel =>
    exact ⟨_, rfl, heap_alloc_new _ _, (Below.drew (Below.refl _ _)).alloc (Nat.le_refl _) _⟩
 obtain ⟨ibx, rfl, kib, bY⟩ := hcut
 obtain ⟨Y, hY⟩ : ∃ Y : World, Y = wc := ⟨_, rfl⟩
 subst hY
 obtain ⟨z0, z1, z2, z3, z4, lY⟩ := ins_block kib
 have BY := Lib.hid (B0.out.trans (bY.mono B0.out.size))
 have BVY := Lib.hid bY
 have KXY := Lib.hid (KX.out.keep bY)
 have KZY := Lib.hid (KZ.out.keep bY)
 have HTY := Lib.hid (HT.out.below bY)
 have HRG := Lib.hid KXY.out.range
 have w1 : ab < Y.heap.size := by have := bY.size; omega
 have w2 : g < Y.heap.size := by have := bY.size; omega
 have lw : w.heap.size < Y.heap.size := KXY.out.lt
 have lw1 : w.heap.size + 1 < Y.heap.size := KZY.out.lt
 have y0 : Y.cell? ⟨ab, 0, none⟩ = _ := (bY.cell (p := ⟨ab, 0, none⟩) l1).trans c0
 have y1 : Y.cell? ⟨g, off + k * 3 + 2, none⟩ = _ := (bY.cell (p := ⟨g, off + k * 3 + 2, none⟩) g3).trans nc
 clear bY kib c0 c2 nc x2 i0 i1 i2 i3 i4
 go_wp2_with (first | (refine wpList_load_mid rfl _ _ rfl _ _ rfl (cellsR aft) _ HRG.out Tryd.underlying27 rfl (hi3 A16.out.len) ?_) | (refine wpList_store_row rfl 27 (.tmp 8) (.tmp 41) rfl (w.heap.size + 1) (cellsR aft).toArray rfl rfl 27 _ KZY.out (hi4 A16.out.len) (hi6 A16.out.len zero16) (cellsR_one aft) ?_))
 refine bodyPost_ret (results_out Tryd.results45 _ (w.heap.size + 1) A16.out.len rfl (RBox.row KZY.out)) rfl ⟨?_, ?_⟩
 ·rfl
 ·exact below_setRow BY.out (by omega) _

set_option maxRecDepth 100000 in
set_option maxHeartbeats 4000000 in
theorem edge_two22 {V w : World} {ab cb rb ib pb : Nat} {bv pv : Value} {G : List Blk} {B : List AB} {val : Nat → Value} {s : AS} (h : An V w ab cb rb ib pb bv pv G B val s) {k : Nat} {bl : AB} (hk : B[k]? = some bl) (hne : bl.code ≠ []) (hnx : bl.nx.length ≤ 1000) (op a b c im : Int) (h0' : 0 ≤ op) (hlast : bl.last = ⟨op, a, b, c, im⟩) (hop : op = 22) (j : Nat) (hu2 : bl.nx.length = 2) (aft : RG) (h16 : R16 aft) (T : Tab w) :
  Calls Tryd.prog 45 #[.pointer (some ⟨ab, 0, none⟩), .int .i64 (k : Int), .int .i64 (j : Int), .agg (cellsR aft).toArray] w fun e w' => e = .returned (outR (refR ⟨op, a, b, c, im⟩ aft (decide (j = 1)))) ∧ Below w.heap.size w w' := by
 subst hop
 have hkl := (List.getElem?_eq_some_iff.1 hk).1
 have hBB := h.lB
 obtain ⟨V0, hV0, kx, kz, b0, s0⟩ := two_new w (cellsR aft).toArray #[.int .i32 0, .int .i32 0, .int .i32 0, .int .i32 0, .int .i32 0, .int .i32 0, .int .i32 0, .int .i32 0, .int .i32 0, .int .i32 0, .int .i32 0, .int .i32 0, .int .i32 0, .int .i32 0, .int .i32 0, .int .i32 0, .int .i32 0, .int .i32 0, .int .i32 0, .int .i32 0, .int .i32 0, .int .i32 0, .int .i32 0, .int .i32 0, .int .i32 0, .int .i32 0, .int .i32 0, .int .i32 0, .int .i32 0, .int .i32 0, .int .i32 0, .int .i32 0] 27 27
 have h0 := h.below b0
 obtain ⟨l1, l2, l3, l4, l5⟩ := h0.lt
 obtain ⟨c0, c2, -, -, -⟩ := h0.cells
 have dk : (k : Int) < (B.length : Int) := by omega
 obtain ⟨q, cap, x2, ccap, cmax, clt, i0, i1, i2, i3, i4⟩ := h0.last hk hne hlast
 obtain ⟨g, off, gcap, nA, ncap, hbv, g1, g2, g3, nc, n1, n2, n3⟩ := h0.next hk
 have hm1 : 1 ≤ bl.code.length := List.length_pos_iff.2 hne
 have hnl : bl.nx.length ≤ 1000000 := by have := hnx; omega
 obtain ⟨n, hn⟩ : ∃ n, B.length = n := ⟨_, rfl⟩
 obtain ⟨m, hm⟩ : ∃ m, bl.code.length = m := ⟨_, rfl⟩
 obtain ⟨u, hu⟩ : ∃ u, bl.nx.length = u := ⟨_, rfl⟩
 rw [hbv] at c0
 rw [hn] at c0 c2 dk hBB g1
 rw [hm] at x2 ccap i0 i1 i2 i3 i4 hm1
 rw [hu] at nc n1 n3 hnl
 simp only at i0 i1 i2 i3 i4
 have dm : IntKind.i64.wrap ((m : Int) - 1) = ((m - 1 : Nat) : Int) := by
  rw [IntWalk.i64_in _ (by omega)]; omega
 have dm2 : ((m - 1 : Nat) : Int) < (m : Int) := by omega
 have KX := Lib.hid (show RBox V0 w.heap.size 27 aft from kx)
 have KZ := Lib.hid (show RBox V0 (w.heap.size + 1) 27 zeroR from kz)
 have B0 := Lib.hid b0
 have S0 := Lib.hid s0
 have HU := Lib.hid hu
 have HT := Lib.hid (T.below b0)
 have A16 := Lib.hid h16
 clear h hk hne T h0 kx kz b0 s0 hkl hbv n3 hu hm hn h16 hlast hnx
 go_enter Tryd.func45, Tryd.ntmps45
 go_upto_region 1 with fail
 clear hV0
 go_cut [10] from 15 to 32 (fun a10 wx => ∃ ibx, a10 = .pointer (some ⟨ibx, 0, none⟩) ∧ wx.heap[ibx]? = some (.cells #[.int .u8 22, .int .i64 a, .int .i64 b, .int .i64 c, .int .i64 im] 23 (0, 0)) ∧ Below V0.heap.size V0 wx)
 case first =>
  go_region
  all_goals
   go_wp2_with fail
   go_meet
   case rel =>
    exact ⟨_, rfl, heap_alloc_new _ _, (Below.drew (Below.refl _ _)).alloc (Nat.le_refl _) _⟩
 obtain ⟨ibx, rfl, kib, bY⟩ := hcut
 obtain ⟨Y, hY⟩ : ∃ Y : World, Y = wc := ⟨_, rfl⟩
 subst hY
 obtain ⟨z0, z1, z2, z3, z4, lY⟩ := ins_block kib
 have BY := Lib.hid (B0.out.trans (bY.mono B0.out.size))
 have BVY := Lib.hid bY
 have KXY := Lib.hid (KX.out.keep bY)
 have KZY := Lib.hid (KZ.out.keep bY)
 have HTY := Lib.hid (HT.out.below bY)
 have HRG := Lib.hid KXY.out.range
 have w1 : ab < Y.heap.size := by have := bY.size; omega
 have w2 : g < Y.heap.size := by have := bY.size; omega
 have lw : w.heap.size < Y.heap.size := KXY.out.lt
 have lw1 : w.heap.size + 1 < Y.heap.size := KZY.out.lt
 have y0 : Y.cell? ⟨ab, 0, none⟩ = _ := (bY.cell (p := ⟨ab, 0, none⟩) l1).trans c0
 have y1 : Y.cell? ⟨g, off + k * 3 + 2, none⟩ = _ := (bY.cell (p := ⟨g, off + k * 3 + 2, none⟩) g3).trans nc
 clear bY kib c0 c2 nc x2 i0 i1 i2 i3 i4
 have du : ((u : Int) == 2) = true := by have := HU.out; rw [hu2] at this; rw [← this]; rfl
 obtain ⟨tk, htk⟩ : ∃ tk, ((j : Int) == 1) = tk := ⟨_, rfl⟩
 have HRF := Lib.hid (refine_any 22 a b c im h0' aft A16.out tk Y HTY.out)
 have HJ := Lib.hid (show decide (j = 1) = tk by rw [← htk, Bool.eq_iff_iff, decide_eq_true_eq, beq_iff_eq]; omega)
 rcases ho : refR ⟨22, a, b, c, im⟩ aft tk with _ | r2
 ·rw [ho] at HRF
  have HN := Lib.hid ho
  clear ho
  go_wp2_with (first | (refine wpList_load_mid rfl _ _ rfl _ _ rfl (cellsR aft) _ HRG.out Tryd.underlying27 rfl (hi3 A16.out.len) ?_) | (go_at_call 13; refine HRF.out.mono ?_; rintro e w3 ⟨rfl, hb3⟩; unfold outR) | (refine wpList_store_row rfl 27 (.tmp 8) (.tmp 58) rfl (w.heap.size + 1) (cellsR zeroR).toArray rfl rfl 27 _ (KZY.out.keep hb3) (hi4 zero16) (hi6 zero16 zero16) (cellsR_one zeroR) ?_))
  refine bodyPost_ret (results_out Tryd.results45 _ (w.heap.size + 1) zero16 rfl (RBox.row (KZY.out.keep hb3))) rfl ⟨?_, ?_⟩
  ·rw [HJ.out, HN.out]; rfl
  ·exact below_setRow (BY.out.trans (hb3.mono BY.out.size)) (by omega) _
 ·rw [ho] at HRF
  have HN := Lib.hid ho
  have R2 := Lib.hid (refR_16 A16.out ho)
  clear ho
  go_wp2_with (first | (refine wpList_load_mid rfl _ _ rfl _ _ rfl (cellsR aft) _ HRG.out Tryd.underlying27 rfl (hi3 A16.out.len) ?_) | (go_at_call 13; refine HRF.out.mono ?_; rintro e w3 ⟨rfl, hb3⟩; unfold outR) | (refine wpList_store_row rfl 27 (.tmp 8) (.tmp 58) rfl (w.heap.size + 1) (cellsR r2).toArray rfl rfl 27 _ (KZY.out.keep hb3) (hi4 R2.out.len) (hi6 R2.out.len zero16) (cellsR_one r2) ?_))
  refine bodyPost_ret (results_out Tryd.results45 _ (w.heap.size + 1) R2.out.len rfl (RBox.row (KZY.out.keep hb3))) rfl ⟨?_, ?_⟩
  ·rw [HJ.out, HN.out]; rfl
  ·exact below_setRow (BY.out.trans (hb3.mono BY.out.size)) (by omega) _

set_option maxRecDepth 100000 in
set_option maxHeartbeats 4000000 in
theorem edge_two23 {V w : World} {ab cb rb ib pb : Nat} {bv pv : Value} {G : List Blk} {B : List AB} {val : Nat → Value} {s : AS} (h : An V w ab cb rb ib pb bv pv G B val s) {k : Nat} {bl : AB} (hk : B[k]? = some bl) (hne : bl.code ≠ []) (hnx : bl.nx.length ≤ 1000) (op a b c im : Int) (h0' : 0 ≤ op) (hlast : bl.last = ⟨op, a, b, c, im⟩) (hop : op = 23) (j : Nat) (hu2 : bl.nx.length = 2) (aft : RG) (h16 : R16 aft) (T : Tab w) :
  Calls Tryd.prog 45 #[.pointer (some ⟨ab, 0, none⟩), .int .i64 (k : Int), .int .i64 (j : Int), .agg (cellsR aft).toArray] w fun e w' => e = .returned (outR (refR ⟨op, a, b, c, im⟩ aft (decide (j = 1)))) ∧ Below w.heap.size w w' := by
 subst hop
 have hkl := (List.getElem?_eq_some_iff.1 hk).1
 have hBB := h.lB
 obtain ⟨V0, hV0, kx, kz, b0, s0⟩ := two_new w (cellsR aft).toArray #[.int .i32 0, .int .i32 0, .int .i32 0, .int .i32 0, .int .i32 0, .int .i32 0, .int .i32 0, .int .i32 0, .int .i32 0, .int .i32 0, .int .i32 0, .int .i32 0, .int .i32 0, .int .i32 0, .int .i32 0, .int .i32 0, .int .i32 0, .int .i32 0, .int .i32 0, .int .i32 0, .int .i32 0, .int .i32 0, .int .i32 0, .int .i32 0, .int .i32 0, .int .i32 0, .int .i32 0, .int .i32 0, .int .i32 0, .int .i32 0, .int .i32 0, .int .i32 0] 27 27
 have h0 := h.below b0
 obtain ⟨l1, l2, l3, l4, l5⟩ := h0.lt
 obtain ⟨c0, c2, -, -, -⟩ := h0.cells
 have dk : (k : Int) < (B.length : Int) := by omega
 obtain ⟨q, cap, x2, ccap, cmax, clt, i0, i1, i2, i3, i4⟩ := h0.last hk hne hlast
 obtain ⟨g, off, gcap, nA, ncap, hbv, g1, g2, g3, nc, n1, n2, n3⟩ := h0.next hk
 have hm1 : 1 ≤ bl.code.length := List.length_pos_iff.2 hne
 have hnl : bl.nx.length ≤ 1000000 := by have := hnx; omega
 obtain ⟨n, hn⟩ : ∃ n, B.length = n := ⟨_, rfl⟩
 obtain ⟨m, hm⟩ : ∃ m, bl.code.length = m := ⟨_, rfl⟩
 obtain ⟨u, hu⟩ : ∃ u, bl.nx.length = u := ⟨_, rfl⟩
 rw [hbv] at c0
 rw [hn] at c0 c2 dk hBB g1
 rw [hm] at x2 ccap i0 i1 i2 i3 i4 hm1
 rw [hu] at nc n1 n3 hnl
 simp only at i0 i1 i2 i3 i4
 have dm : IntKind.i64.wrap ((m : Int) - 1) = ((m - 1 : Nat) : Int) := by
  rw [IntWalk.i64_in _ (by omega)]; omega
 have dm2 : ((m - 1 : Nat) : Int) < (m : Int) := by omega
 have KX := Lib.hid (show RBox V0 w.heap.size 27 aft from kx)
 have KZ := Lib.hid (show RBox V0 (w.heap.size + 1) 27 zeroR from kz)
 have B0 := Lib.hid b0
 have S0 := Lib.hid s0
 have HU := Lib.hid hu
 have HT := Lib.hid (T.below b0)
 have A16 := Lib.hid h16
 clear h hk hne T h0 kx kz b0 s0 hkl hbv n3 hu hm hn h16 hlast hnx
 go_enter Tryd.func45, Tryd.ntmps45
 go_upto_region 1 with fail
 clear hV0
 go_cut [10] from 15 to 32 (fun a10 wx => ∃ ibx, a10 = .pointer (some ⟨ibx, 0, none⟩) ∧ wx.heap[ibx]? = some (.cells #[.int .u8 23, .int .i64 a, .int .i64 b, .int .i64 c, .int .i64 im] 23 (0, 0)) ∧ Below V0.heap.size V0 wx)
 case first =>
  go_region
  all_goals
   go_wp2_with fail
   go_meet
   case rel =>
    exact ⟨_, rfl, heap_alloc_new _ _, (Below.drew (Below.refl _ _)).alloc (Nat.le_refl _) _⟩
 obtain ⟨ibx, rfl, kib, bY⟩ := hcut
 obtain ⟨Y, hY⟩ : ∃ Y : World, Y = wc := ⟨_, rfl⟩
 subst hY
 obtain ⟨z0, z1, z2, z3, z4, lY⟩ := ins_block kib
 have BY := Lib.hid (B0.out.trans (bY.mono B0.out.size))
 have BVY := Lib.hid bY
 have KXY := Lib.hid (KX.out.keep bY)
 have KZY := Lib.hid (KZ.out.keep bY)
 have HTY := Lib.hid (HT.out.below bY)
 have HRG := Lib.hid KXY.out.range
 have w1 : ab < Y.heap.size := by have := bY.size; omega
 have w2 : g < Y.heap.size := by have := bY.size; omega
 have lw : w.heap.size < Y.heap.size := KXY.out.lt
 have lw1 : w.heap.size + 1 < Y.heap.size := KZY.out.lt
 have y0 : Y.cell? ⟨ab, 0, none⟩ = _ := (bY.cell (p := ⟨ab, 0, none⟩) l1).trans c0
 have y1 : Y.cell? ⟨g, off + k * 3 + 2, none⟩ = _ := (bY.cell (p := ⟨g, off + k * 3 + 2, none⟩) g3).trans nc
 clear bY kib c0 c2 nc x2 i0 i1 i2 i3 i4
 have du : ((u : Int) == 2) = true := by have := HU.out; rw [hu2] at this; rw [← this]; rfl
 obtain ⟨tk, htk⟩ : ∃ tk, ((j : Int) == 1) = tk := ⟨_, rfl⟩
 have HRF := Lib.hid (refine_any 23 a b c im h0' aft A16.out tk Y HTY.out)
 have HJ := Lib.hid (show decide (j = 1) = tk by rw [← htk, Bool.eq_iff_iff, decide_eq_true_eq, beq_iff_eq]; omega)
 rcases ho : refR ⟨23, a, b, c, im⟩ aft tk with _ | r2
 ·rw [ho] at HRF
  have HN := Lib.hid ho
  clear ho
  go_wp2_with (first | (refine wpList_load_mid rfl _ _ rfl _ _ rfl (cellsR aft) _ HRG.out Tryd.underlying27 rfl (hi3 A16.out.len) ?_) | (go_at_call 13; refine HRF.out.mono ?_; rintro e w3 ⟨rfl, hb3⟩; unfold outR) | (refine wpList_store_row rfl 27 (.tmp 8) (.tmp 58) rfl (w.heap.size + 1) (cellsR zeroR).toArray rfl rfl 27 _ (KZY.out.keep hb3) (hi4 zero16) (hi6 zero16 zero16) (cellsR_one zeroR) ?_))
  refine bodyPost_ret (results_out Tryd.results45 _ (w.heap.size + 1) zero16 rfl (RBox.row (KZY.out.keep hb3))) rfl ⟨?_, ?_⟩
  ·rw [HJ.out, HN.out]; rfl
  ·exact below_setRow (BY.out.trans (hb3.mono BY.out.size)) (by omega) _
 ·rw [ho] at HRF
  have HN := Lib.hid ho
  have R2 := Lib.hid (refR_16 A16.out ho)
  clear ho
  go_wp2_with (first | (refine wpList_load_mid rfl _ _ rfl _ _ rfl (cellsR aft) _ HRG.out Tryd.underlying27 rfl (hi3 A16.out.len) ?_) | (go_at_call 13; refine HRF.out.mono ?_; rintro e w3 ⟨rfl, hb3⟩; unfold outR) | (refine wpList_store_row rfl 27 (.tmp 8) (.tmp 58) rfl (w.heap.size + 1) (cellsR r2).toArray rfl rfl 27 _ (KZY.out.keep hb3) (hi4 R2.out.len) (hi6 R2.out.len zero16) (cellsR_one r2) ?_))
  refine bodyPost_ret (results_out Tryd.results45 _ (w.heap.size + 1) R2.out.len rfl (RBox.row (KZY.out.keep hb3))) rfl ⟨?_, ?_⟩
  ·rw [HJ.out, HN.out]; rfl
  ·exact below_setRow (BY.out.trans (hb3.mono BY.out.size)) (by omega) _

set_option maxRecDepth 100000 in
set_option maxHeartbeats 4000000 in
theorem edge_one22 {V w : World} {ab cb rb ib pb : Nat} {bv pv : Value} {G : List Blk} {B : List AB} {val : Nat → Value} {s : AS} (h : An V w ab cb rb ib pb bv pv G B val s) {k : Nat} {bl : AB} (hk : B[k]? = some bl) (hne : bl.code ≠ []) (hnx : bl.nx.length ≤ 1000) (op a b c im : Int) (h0' : 0 ≤ op) (hlast : bl.last = ⟨op, a, b, c, im⟩) (hop : op = 22) (j : Nat) (hu2 : bl.nx.length ≠ 2) (aft : RG) (h16 : R16 aft) (T : Tab w) :
  Calls Tryd.prog 45 #[.pointer (some ⟨ab, 0, none⟩), .int .i64 (k : Int), .int .i64 (j : Int), .agg (cellsR aft).toArray] w fun e w' => e = .returned (outR (edgeR bl.last bl.nx.length j aft)) ∧ Below w.heap.size w w' := by
 subst hop
 have hlast' := hlast
 have hkl := (List.getElem?_eq_some_iff.1 hk).1
 have hBB := h.lB
 obtain ⟨V0, hV0, kx, kz, b0, s0⟩ := two_new w (cellsR aft).toArray #[.int .i32 0, .int .i32 0, .int .i32 0, .int .i32 0, .int .i32 0, .int .i32 0, .int .i32 0, .int .i32 0, .int .i32 0, .int .i32 0, .int .i32 0, .int .i32 0, .int .i32 0, .int .i32 0, .int .i32 0, .int .i32 0, .int .i32 0, .int .i32 0, .int .i32 0, .int .i32 0, .int .i32 0, .int .i32 0, .int .i32 0, .int .i32 0, .int .i32 0, .int .i32 0, .int .i32 0, .int .i32 0, .int .i32 0, .int .i32 0, .int .i32 0, .int .i32 0] 27 27
 have h0 := h.below b0
 obtain ⟨l1, l2, l3, l4, l5⟩ := h0.lt
 obtain ⟨c0, c2, -, -, -⟩ := h0.cells
 have dk : (k : Int) < (B.length : Int) := by omega
 obtain ⟨q, cap, x2, ccap, cmax, clt, i0, i1, i2, i3, i4⟩ := h0.last hk hne hlast
 obtain ⟨g, off, gcap, nA, ncap, hbv, g1, g2, g3, nc, n1, n2, n3⟩ := h0.next hk
 have hm1 : 1 ≤ bl.code.length := List.length_pos_iff.2 hne
 have hnl : bl.nx.length ≤ 1000000 := by have := hnx; omega
 obtain ⟨n, hn⟩ : ∃ n, B.length = n := ⟨_, rfl⟩
 obtain ⟨m, hm⟩ : ∃ m, bl.code.length = m := ⟨_, rfl⟩
 obtain ⟨u, hu⟩ : ∃ u, bl.nx.length = u := ⟨_, rfl⟩
 rw [hbv] at c0
 rw [hn] at c0 c2 dk hBB g1
 rw [hm] at x2 ccap i0 i1 i2 i3 i4 hm1
 rw [hu] at nc n1 n3 hnl
 simp only at i0 i1 i2 i3 i4
 have dm : IntKind.i64.wrap ((m : Int) - 1) = ((m - 1 : Nat) : Int) := by
  rw [IntWalk.i64_in _ (by omega)]; omega
 have dm2 : ((m - 1 : Nat) : Int) < (m : Int) := by omega
 have KX := Lib.hid (show RBox V0 w.heap.size 27 aft from kx)
 have KZ := Lib.hid (show RBox V0 (w.heap.size + 1) 27 zeroR from kz)
 have B0 := Lib.hid b0
 have S0 := Lib.hid s0
 have HU := Lib.hid hu
 have HT := Lib.hid (T.below b0)
 have A16 := Lib.hid h16
 clear h hk hne T h0 kx kz b0 s0 hkl hbv n3 hu hm hn h16 hlast hnx
 go_enter Tryd.func45, Tryd.ntmps45
 go_upto_region 1 with fail
 clear hV0
 go_cut [10] from 15 to 32 (fun a10 wx => ∃ ibx, a10 = .pointer (some ⟨ibx, 0, none⟩) ∧ wx.heap[ibx]? = some (.cells #[.int .u8 22, .int .i64 a, .int .i64 b, .int .i64 c, .int .i64 im] 23 (0, 0)) ∧ Below V0.heap.size V0 wx)
 case first =>
  go_region
  all_goals
   go_wp2_with fail
   go_meet
   case rel =>
    exact ⟨_, rfl, heap_alloc_new _ _, (Below.drew (Below.refl _ _)).alloc (Nat.le_refl _) _⟩
 obtain ⟨ibx, rfl, kib, bY⟩ := hcut
 obtain ⟨Y, hY⟩ : ∃ Y : World, Y = wc := ⟨_, rfl⟩
 subst hY
 obtain ⟨z0, z1, z2, z3, z4, lY⟩ := ins_block kib
 have BY := Lib.hid (B0.out.trans (bY.mono B0.out.size))
 have BVY := Lib.hid bY
 have KXY := Lib.hid (KX.out.keep bY)
 have KZY := Lib.hid (KZ.out.keep bY)
 have HTY := Lib.hid (HT.out.below bY)
 have HRG := Lib.hid KXY.out.range
 have w1 : ab < Y.heap.size := by have := bY.size; omega
 have w2 : g < Y.heap.size := by have := bY.size; omega
 have lw : w.heap.size < Y.heap.size := KXY.out.lt
 have lw1 : w.heap.size + 1 < Y.heap.size := KZY.out.lt
 have y0 : Y.cell? ⟨ab, 0, none⟩ = _ := (bY.cell (p := ⟨ab, 0, none⟩) l1).trans c0
 have y1 : Y.cell? ⟨g, off + k * 3 + 2, none⟩ = _ := (bY.cell (p := ⟨g, off + k * 3 + 2, none⟩) g3).trans nc
 clear bY kib c0 c2 nc x2 i0 i1 i2 i3 i4
 have du : ((u : Int) == 2) = false := by have := HU.out; rw [beq_eq_false_iff_ne]; omega
 have HED := Lib.hid (show ∀ x y, refR ⟨22, a, b, c, im⟩ aft false = x → refR ⟨22, a, b, c, im⟩ aft true = y → edgeR bl.last bl.nx.length j aft = match x, y with | none, y => y | some x, none => some x | some x, some y => some (joinR x y) from fun x y hx hy => by
  unfold edgeR
  rw [hlast', if_neg (by simp), if_neg hu2, hx, hy]
  rfl)
 have HRF := Lib.hid (refine_any 22 a b c im h0' aft A16.out false Y HTY.out)
 rcases hx : refR ⟨22, a, b, c, im⟩ aft false with _ | rx
 ·rw [hx] at HRF
  have HX := Lib.hid hx
  clear hx
  go_upto_region 7 with (first | (refine wpList_load_mid rfl _ _ rfl _ _ rfl (cellsR aft) _ HRG.out Tryd.underlying27 rfl (hi3 A16.out.len) ?_) | (go_at_call 13; refine HRF.out.mono ?_; rintro e w3 ⟨rfl, hb3⟩; unfold outR) | (refine wpList_store_row rfl 27 (.tmp 11) (.tmp 64) rfl w3.heap.size (cellsR zeroR).toArray rfl rfl 27 _ (heap_alloc_new _ _) (hi4 zero16) (hi6 zero16 zero16) (cellsR_one zeroR) ?_))
  obtain ⟨Y3, hY3⟩ : ∃ Y3, (w3.alloc (.cells #[.int .i32 0, .int .i32 0, .int .i32 0, .int .i32 0, .int .i32 0, .int .i32 0, .int .i32 0, .int .i32 0, .int .i32 0, .int .i32 0, .int .i32 0, .int .i32 0, .int .i32 0, .int .i32 0, .int .i32 0, .int .i32 0, .int .i32 0, .int .i32 0, .int .i32 0, .int .i32 0, .int .i32 0, .int .i32 0, .int .i32 0, .int .i32 0, .int .i32 0, .int .i32 0, .int .i32 0, .int .i32 0, .int .i32 0, .int .i32 0, .int .i32 0, .int .i32 0] 27)).setRow w3.heap.size (cellsR zeroR).toArray = Y3 := ⟨_, rfl⟩
  rw [hY3]
  have b3 : Below w3.heap.size w3 Y3 := hY3 ▸ below_setRow ((Below.refl _ _).alloc (Nat.le_refl _) _) (Nat.le_refl _) _
  have K3 := Lib.hid (show RBox Y3 w3.heap.size 27 zeroR from hY3 ▸ RBox.row (z := zeroR) (heap_alloc_new _ _))
  have b3' : Below Y.heap.size Y Y3 := hb3.trans (b3.mono hb3.size)
  obtain ⟨q3, hq3⟩ : ∃ q3, w3.heap.size = q3 := ⟨_, rfl⟩
  rw [hq3] at K3
  rw [hq3]
  have KX3 := Lib.hid (KXY.out.keep b3')
  have KZ3 := Lib.hid (KZY.out.keep b3')
  have HRG3 := Lib.hid KX3.out.range
  have B3 := Lib.hid (BY.out.trans (b3'.mono BY.out.size))
  have L3 := Lib.hid (show w.heap.size + 1 < q3 by have := hb3.size; omega)
  have s0 := (b3'.cell (p := ⟨ibx, 0, none⟩) lY).trans z0
  have s1 := (b3'.cell (p := ⟨ibx, 1, none⟩) lY).trans z1
  have s2 := (b3'.cell (p := ⟨ibx, 2, none⟩) lY).trans z2
  have s3 := (b3'.cell (p := ⟨ibx, 3, none⟩) lY).trans z3
  have s4 := (b3'.cell (p := ⟨ibx, 4, none⟩) lY).trans z4
  have lY3 : ibx < Y3.heap.size := by have := b3'.size; omega
  have HRF2 := Lib.hid (refine_any 22 a b c im h0' aft A16.out true Y3 (HTY.out.below b3'))
  clear hY3 b3 b3' hq3 hb3
  rcases hy : refR ⟨22, a, b, c, im⟩ aft true with _ | ry
  ·rw [hy] at HRF2
   have HY := Lib.hid (HED.out _ _ HX.out hy)
   clear hy
   go_upto_region 8 with (first | (refine wpList_load_mid rfl _ _ rfl _ _ rfl (cellsR aft) _ HRG3.out Tryd.underlying27 rfl (hi3 A16.out.len) ?_) | (go_at_call 13; refine HRF2.out.mono ?_; rintro e w4 ⟨rfl, hb4⟩; unfold outR) | (refine wpList_store_row rfl 27 (.tmp 13) (.tmp 70) rfl w4.heap.size (cellsR zeroR).toArray rfl rfl 27 _ (heap_alloc_new _ _) (hi4 zero16) (hi6 zero16 zero16) (cellsR_one zeroR) ?_))
   obtain ⟨Y4, hY4⟩ : ∃ Y4, (w4.alloc (.cells #[.int .i32 0, .int .i32 0, .int .i32 0, .int .i32 0, .int .i32 0, .int .i32 0, .int .i32 0, .int .i32 0, .int .i32 0, .int .i32 0, .int .i32 0, .int .i32 0, .int .i32 0, .int .i32 0, .int .i32 0, .int .i32 0, .int .i32 0, .int .i32 0, .int .i32 0, .int .i32 0, .int .i32 0, .int .i32 0, .int .i32 0, .int .i32 0, .int .i32 0, .int .i32 0, .int .i32 0, .int .i32 0, .int .i32 0, .int .i32 0, .int .i32 0, .int .i32 0] 27)).setRow w4.heap.size (cellsR zeroR).toArray = Y4 := ⟨_, rfl⟩
   rw [hY4]
   have b4 : Below w4.heap.size w4 Y4 := hY4 ▸ below_setRow ((Below.refl _ _).alloc (Nat.le_refl _) _) (Nat.le_refl _) _
   have K4 := Lib.hid (show RBox Y4 w4.heap.size 27 zeroR from hY4 ▸ RBox.row (z := zeroR) (heap_alloc_new _ _))
   have b4' : Below Y3.heap.size Y3 Y4 := hb4.trans (b4.mono hb4.size)
   have K34 := Lib.hid (K3.out.keep b4')
   have HR3 := Lib.hid K34.out.range
   have HR4 := Lib.hid K4.out.range
   have KZ4 := Lib.hid (KZ3.out.keep b4')
   have B4 := Lib.hid (B3.out.trans (b4'.mono B3.out.size))
   clear hY4 b4 b4' hb4
   go_wp2_with (first | (refine wpList_load_mid rfl _ _ rfl _ _ rfl (cellsR zeroR) _ HR4.out Tryd.underlying27 rfl (hi3 zero16) ?_) | (refine wpList_store_row rfl 27 (.tmp 8) (.tmp 75) rfl (w.heap.size + 1) (cellsR zeroR).toArray rfl rfl 27 _ KZ4.out (hi4 zero16) (hi6 zero16 zero16) (cellsR_one zeroR) ?_))
   refine bodyPost_ret (results_out Tryd.results45 _ (w.heap.size + 1) zero16 rfl (RBox.row KZ4.out)) rfl ⟨?_, below_setRow B4.out (by omega) _⟩
   rw [HY.out]; rfl
  ·rw [hy] at HRF2
   have HY := Lib.hid (HED.out _ _ HX.out hy)
   have RY := Lib.hid (refR_16 A16.out hy)
   clear hy
   go_upto_region 8 with (first | (refine wpList_load_mid rfl _ _ rfl _ _ rfl (cellsR aft) _ HRG3.out Tryd.underlying27 rfl (hi3 A16.out.len) ?_) | (go_at_call 13; refine HRF2.out.mono ?_; rintro e w4 ⟨rfl, hb4⟩; unfold outR) | (refine wpList_store_row rfl 27 (.tmp 13) (.tmp 70) rfl w4.heap.size (cellsR ry).toArray rfl rfl 27 _ (heap_alloc_new _ _) (hi4 RY.out.len) (hi6 RY.out.len zero16) (cellsR_one ry) ?_))
   obtain ⟨Y4, hY4⟩ : ∃ Y4, (w4.alloc (.cells #[.int .i32 0, .int .i32 0, .int .i32 0, .int .i32 0, .int .i32 0, .int .i32 0, .int .i32 0, .int .i32 0, .int .i32 0, .int .i32 0, .int .i32 0, .int .i32 0, .int .i32 0, .int .i32 0, .int .i32 0, .int .i32 0, .int .i32 0, .int .i32 0, .int .i32 0, .int .i32 0, .int .i32 0, .int .i32 0, .int .i32 0, .int .i32 0, .int .i32 0, .int .i32 0, .int .i32 0, .int .i32 0, .int .i32 0, .int .i32 0, .int .i32 0, .int .i32 0] 27)).setRow w4.heap.size (cellsR ry).toArray = Y4 := ⟨_, rfl⟩
   rw [hY4]
   have b4 : Below w4.heap.size w4 Y4 := hY4 ▸ below_setRow ((Below.refl _ _).alloc (Nat.le_refl _) _) (Nat.le_refl _) _
   have K4 := Lib.hid (show RBox Y4 w4.heap.size 27 ry from hY4 ▸ RBox.row (z := zeroR) (heap_alloc_new _ _))
   have b4' : Below Y3.heap.size Y3 Y4 := hb4.trans (b4.mono hb4.size)
   have K34 := Lib.hid (K3.out.keep b4')
   have HR3 := Lib.hid K34.out.range
   have HR4 := Lib.hid K4.out.range
   have KZ4 := Lib.hid (KZ3.out.keep b4')
   have B4 := Lib.hid (B3.out.trans (b4'.mono B3.out.size))
   clear hY4 b4 b4' hb4
   go_wp2_with (first | (refine wpList_load_mid rfl _ _ rfl _ _ rfl (cellsR ry) _ HR4.out Tryd.underlying27 rfl (hi3 RY.out.len) ?_) | (refine wpList_store_row rfl 27 (.tmp 8) (.tmp 75) rfl (w.heap.size + 1) (cellsR ry).toArray rfl rfl 27 _ KZ4.out (hi4 RY.out.len) (hi6 RY.out.len zero16) (cellsR_one ry) ?_))
   refine bodyPost_ret (results_out Tryd.results45 _ (w.heap.size + 1) RY.out.len rfl (RBox.row KZ4.out)) rfl ⟨?_, below_setRow B4.out (by omega) _⟩
   rw [HY.out]; rfl
 ·rw [hx] at HRF
  have HX := Lib.hid hx
  have RX := Lib.hid (refR_16 A16.out hx)
  clear hx
  go_upto_region 7 with (first | (refine wpList_load_mid rfl _ _ rfl _ _ rfl (cellsR aft) _ HRG.out Tryd.underlying27 rfl (hi3 A16.out.len) ?_) | (go_at_call 13; refine HRF.out.mono ?_; rintro e w3 ⟨rfl, hb3⟩; unfold outR) | (refine wpList_store_row rfl 27 (.tmp 11) (.tmp 64) rfl w3.heap.size (cellsR rx).toArray rfl rfl 27 _ (heap_alloc_new _ _) (hi4 RX.out.len) (hi6 RX.out.len zero16) (cellsR_one rx) ?_))
  obtain ⟨Y3, hY3⟩ : ∃ Y3, (w3.alloc (.cells #[.int .i32 0, .int .i32 0, .int .i32 0, .int .i32 0, .int .i32 0, .int .i32 0, .int .i32 0, .int .i32 0, .int .i32 0, .int .i32 0, .int .i32 0, .int .i32 0, .int .i32 0, .int .i32 0, .int .i32 0, .int .i32 0, .int .i32 0, .int .i32 0, .int .i32 0, .int .i32 0, .int .i32 0, .int .i32 0, .int .i32 0, .int .i32 0, .int .i32 0, .int .i32 0, .int .i32 0, .int .i32 0, .int .i32 0, .int .i32 0, .int .i32 0, .int .i32 0] 27)).setRow w3.heap.size (cellsR rx).toArray = Y3 := ⟨_, rfl⟩
  rw [hY3]
  have b3 : Below w3.heap.size w3 Y3 := hY3 ▸ below_setRow ((Below.refl _ _).alloc (Nat.le_refl _) _) (Nat.le_refl _) _
  have K3 := Lib.hid (show RBox Y3 w3.heap.size 27 rx from hY3 ▸ RBox.row (z := zeroR) (heap_alloc_new _ _))
  have b3' : Below Y.heap.size Y Y3 := hb3.trans (b3.mono hb3.size)
  obtain ⟨q3, hq3⟩ : ∃ q3, w3.heap.size = q3 := ⟨_, rfl⟩
  rw [hq3] at K3
  rw [hq3]
  have KX3 := Lib.hid (KXY.out.keep b3')
  have KZ3 := Lib.hid (KZY.out.keep b3')
  have HRG3 := Lib.hid KX3.out.range
  have B3 := Lib.hid (BY.out.trans (b3'.mono BY.out.size))
  have L3 := Lib.hid (show w.heap.size + 1 < q3 by have := hb3.size; omega)
  have s0 := (b3'.cell (p := ⟨ibx, 0, none⟩) lY).trans z0
  have s1 := (b3'.cell (p := ⟨ibx, 1, none⟩) lY).trans z1
  have s2 := (b3'.cell (p := ⟨ibx, 2, none⟩) lY).trans z2
  have s3 := (b3'.cell (p := ⟨ibx, 3, none⟩) lY).trans z3
  have s4 := (b3'.cell (p := ⟨ibx, 4, none⟩) lY).trans z4
  have lY3 : ibx < Y3.heap.size := by have := b3'.size; omega
  have HRF2 := Lib.hid (refine_any 22 a b c im h0' aft A16.out true Y3 (HTY.out.below b3'))
  clear hY3 b3 b3' hq3 hb3
  rcases hy : refR ⟨22, a, b, c, im⟩ aft true with _ | ry
  ·rw [hy] at HRF2
   have HY := Lib.hid (HED.out _ _ HX.out hy)
   clear hy
   go_upto_region 8 with (first | (refine wpList_load_mid rfl _ _ rfl _ _ rfl (cellsR aft) _ HRG3.out Tryd.underlying27 rfl (hi3 A16.out.len) ?_) | (go_at_call 13; refine HRF2.out.mono ?_; rintro e w4 ⟨rfl, hb4⟩; unfold outR) | (refine wpList_store_row rfl 27 (.tmp 13) (.tmp 70) rfl w4.heap.size (cellsR zeroR).toArray rfl rfl 27 _ (heap_alloc_new _ _) (hi4 zero16) (hi6 zero16 zero16) (cellsR_one zeroR) ?_))
   obtain ⟨Y4, hY4⟩ : ∃ Y4, (w4.alloc (.cells #[.int .i32 0, .int .i32 0, .int .i32 0, .int .i32 0, .int .i32 0, .int .i32 0, .int .i32 0, .int .i32 0, .int .i32 0, .int .i32 0, .int .i32 0, .int .i32 0, .int .i32 0, .int .i32 0, .int .i32 0, .int .i32 0, .int .i32 0, .int .i32 0, .int .i32 0, .int .i32 0, .int .i32 0, .int .i32 0, .int .i32 0, .int .i32 0, .int .i32 0, .int .i32 0, .int .i32 0, .int .i32 0, .int .i32 0, .int .i32 0, .int .i32 0, .int .i32 0] 27)).setRow w4.heap.size (cellsR zeroR).toArray = Y4 := ⟨_, rfl⟩
   rw [hY4]
   have b4 : Below w4.heap.size w4 Y4 := hY4 ▸ below_setRow ((Below.refl _ _).alloc (Nat.le_refl _) _) (Nat.le_refl _) _
   have K4 := Lib.hid (show RBox Y4 w4.heap.size 27 zeroR from hY4 ▸ RBox.row (z := zeroR) (heap_alloc_new _ _))
   have b4' : Below Y3.heap.size Y3 Y4 := hb4.trans (b4.mono hb4.size)
   have K34 := Lib.hid (K3.out.keep b4')
   have HR3 := Lib.hid K34.out.range
   have HR4 := Lib.hid K4.out.range
   have KZ4 := Lib.hid (KZ3.out.keep b4')
   have B4 := Lib.hid (B3.out.trans (b4'.mono B3.out.size))
   clear hY4 b4 b4' hb4
   go_wp2_with (first | (refine wpList_load_mid rfl _ _ rfl _ _ rfl (cellsR rx) _ HR3.out Tryd.underlying27 rfl (hi3 RX.out.len) ?_) | (refine wpList_store_row rfl 27 (.tmp 8) (.tmp 80) rfl (w.heap.size + 1) (cellsR rx).toArray rfl rfl 27 _ KZ4.out (hi4 RX.out.len) (hi6 RX.out.len zero16) (cellsR_one rx) ?_))
   refine bodyPost_ret (results_out Tryd.results45 _ (w.heap.size + 1) RX.out.len rfl (RBox.row KZ4.out)) rfl ⟨?_, below_setRow B4.out (by omega) _⟩
   rw [HY.out]; rfl
  ·rw [hy] at HRF2
   have HY := Lib.hid (HED.out _ _ HX.out hy)
   have RY := Lib.hid (refR_16 A16.out hy)
   clear hy
   go_upto_region 8 with (first | (refine wpList_load_mid rfl _ _ rfl _ _ rfl (cellsR aft) _ HRG3.out Tryd.underlying27 rfl (hi3 A16.out.len) ?_) | (go_at_call 13; refine HRF2.out.mono ?_; rintro e w4 ⟨rfl, hb4⟩; unfold outR) | (refine wpList_store_row rfl 27 (.tmp 13) (.tmp 70) rfl w4.heap.size (cellsR ry).toArray rfl rfl 27 _ (heap_alloc_new _ _) (hi4 RY.out.len) (hi6 RY.out.len zero16) (cellsR_one ry) ?_))
   obtain ⟨Y4, hY4⟩ : ∃ Y4, (w4.alloc (.cells #[.int .i32 0, .int .i32 0, .int .i32 0, .int .i32 0, .int .i32 0, .int .i32 0, .int .i32 0, .int .i32 0, .int .i32 0, .int .i32 0, .int .i32 0, .int .i32 0, .int .i32 0, .int .i32 0, .int .i32 0, .int .i32 0, .int .i32 0, .int .i32 0, .int .i32 0, .int .i32 0, .int .i32 0, .int .i32 0, .int .i32 0, .int .i32 0, .int .i32 0, .int .i32 0, .int .i32 0, .int .i32 0, .int .i32 0, .int .i32 0, .int .i32 0, .int .i32 0] 27)).setRow w4.heap.size (cellsR ry).toArray = Y4 := ⟨_, rfl⟩
   rw [hY4]
   have b4 : Below w4.heap.size w4 Y4 := hY4 ▸ below_setRow ((Below.refl _ _).alloc (Nat.le_refl _) _) (Nat.le_refl _) _
   have K4 := Lib.hid (show RBox Y4 w4.heap.size 27 ry from hY4 ▸ RBox.row (z := zeroR) (heap_alloc_new _ _))
   have b4' : Below Y3.heap.size Y3 Y4 := hb4.trans (b4.mono hb4.size)
   have K34 := Lib.hid (K3.out.keep b4')
   have HR3 := Lib.hid K34.out.range
   have HR4 := Lib.hid K4.out.range
   have KZ4 := Lib.hid (KZ3.out.keep b4')
   have B4 := Lib.hid (B3.out.trans (b4'.mono B3.out.size))
   clear hY4 b4 b4' hb4
   have HCO := Lib.hid (combine_any 24 joinI (fun _ _ => by kernel_rfl) join_any rx ry RX.out.len RY.out.len Y4)
   have RJ := Lib.hid (RX.out.join RY.out)
   go_wp2_with (first | (refine wpList_load_mid rfl _ _ rfl _ _ rfl (cellsR rx) _ HR3.out Tryd.underlying27 rfl (hi3 RX.out.len) ?_) | (refine wpList_load_mid rfl _ _ rfl _ _ rfl (cellsR ry) _ HR4.out Tryd.underlying27 rfl (hi3 RY.out.len) ?_) | (go_at_call 62; refine HCO.out.mono ?_; rintro e w5 ⟨rfl, hb5⟩) | (refine wpList_store_row rfl 27 (.tmp 8) (.tmp 84) rfl (w.heap.size + 1) (cellsR (joinR rx ry)).toArray rfl rfl 27 _ (KZ4.out.keep hb5) (hi4 RJ.out.len) (hi6 RJ.out.len zero16) (cellsR_one (joinR rx ry)) ?_))
   refine bodyPost_ret (results_out Tryd.results45 _ (w.heap.size + 1) RJ.out.len rfl (RBox.row (KZ4.out.keep hb5))) rfl ⟨?_, below_setRow (B4.out.trans (hb5.mono B4.out.size)) (by omega) _⟩
   rw [HY.out]; rfl

set_option maxRecDepth 100000 in
set_option maxHeartbeats 4000000 in
theorem edge_one23 {V w : World} {ab cb rb ib pb : Nat} {bv pv : Value} {G : List Blk} {B : List AB} {val : Nat → Value} {s : AS} (h : An V w ab cb rb ib pb bv pv G B val s) {k : Nat} {bl : AB} (hk : B[k]? = some bl) (hne : bl.code ≠ []) (hnx : bl.nx.length ≤ 1000) (op a b c im : Int) (h0' : 0 ≤ op) (hlast : bl.last = ⟨op, a, b, c, im⟩) (hop : op = 23) (j : Nat) (hu2 : bl.nx.length ≠ 2) (aft : RG) (h16 : R16 aft) (T : Tab w) :
  Calls Tryd.prog 45 #[.pointer (some ⟨ab, 0, none⟩), .int .i64 (k : Int), .int .i64 (j : Int), .agg (cellsR aft).toArray] w fun e w' => e = .returned (outR (edgeR bl.last bl.nx.length j aft)) ∧ Below w.heap.size w w' := by
 subst hop
 have hlast' := hlast
 have hkl := (List.getElem?_eq_some_iff.1 hk).1
 have hBB := h.lB
 obtain ⟨V0, hV0, kx, kz, b0, s0⟩ := two_new w (cellsR aft).toArray #[.int .i32 0, .int .i32 0, .int .i32 0, .int .i32 0, .int .i32 0, .int .i32 0, .int .i32 0, .int .i32 0, .int .i32 0, .int .i32 0, .int .i32 0, .int .i32 0, .int .i32 0, .int .i32 0, .int .i32 0, .int .i32 0, .int .i32 0, .int .i32 0, .int .i32 0, .int .i32 0, .int .i32 0, .int .i32 0, .int .i32 0, .int .i32 0, .int .i32 0, .int .i32 0, .int .i32 0, .int .i32 0, .int .i32 0, .int .i32 0, .int .i32 0, .int .i32 0] 27 27
 have h0 := h.below b0
 obtain ⟨l1, l2, l3, l4, l5⟩ := h0.lt
 obtain ⟨c0, c2, -, -, -⟩ := h0.cells
 have dk : (k : Int) < (B.length : Int) := by omega
 obtain ⟨q, cap, x2, ccap, cmax, clt, i0, i1, i2, i3, i4⟩ := h0.last hk hne hlast
 obtain ⟨g, off, gcap, nA, ncap, hbv, g1, g2, g3, nc, n1, n2, n3⟩ := h0.next hk
 have hm1 : 1 ≤ bl.code.length := List.length_pos_iff.2 hne
 have hnl : bl.nx.length ≤ 1000000 := by have := hnx; omega
 obtain ⟨n, hn⟩ : ∃ n, B.length = n := ⟨_, rfl⟩
 obtain ⟨m, hm⟩ : ∃ m, bl.code.length = m := ⟨_, rfl⟩
 obtain ⟨u, hu⟩ : ∃ u, bl.nx.length = u := ⟨_, rfl⟩
 rw [hbv] at c0
 rw [hn] at c0 c2 dk hBB g1
 rw [hm] at x2 ccap i0 i1 i2 i3 i4 hm1
 rw [hu] at nc n1 n3 hnl
 simp only at i0 i1 i2 i3 i4
 have dm : IntKind.i64.wrap ((m : Int) - 1) = ((m - 1 : Nat) : Int) := by
  rw [IntWalk.i64_in _ (by omega)]; omega
 have dm2 : ((m - 1 : Nat) : Int) < (m : Int) := by omega
 have KX := Lib.hid (show RBox V0 w.heap.size 27 aft from kx)
 have KZ := Lib.hid (show RBox V0 (w.heap.size + 1) 27 zeroR from kz)
 have B0 := Lib.hid b0
 have S0 := Lib.hid s0
 have HU := Lib.hid hu
 have HT := Lib.hid (T.below b0)
 have A16 := Lib.hid h16
 clear h hk hne T h0 kx kz b0 s0 hkl hbv n3 hu hm hn h16 hlast hnx
 go_enter Tryd.func45, Tryd.ntmps45
 go_upto_region 1 with fail
 clear hV0
 go_cut [10] from 15 to 32 (fun a10 wx => ∃ ibx, a10 = .pointer (some ⟨ibx, 0, none⟩) ∧ wx.heap[ibx]? = some (.cells #[.int .u8 23, .int .i64 a, .int .i64 b, .int .i64 c, .int .i64 im] 23 (0, 0)) ∧ Below V0.heap.size V0 wx)
 case first =>
  go_region
  all_goals
   go_wp2_with fail
   go_meet
   case rel =>
    exact ⟨_, rfl, heap_alloc_new _ _, (Below.drew (Below.refl _ _)).alloc (Nat.le_refl _) _⟩
 obtain ⟨ibx, rfl, kib, bY⟩ := hcut
 obtain ⟨Y, hY⟩ : ∃ Y : World, Y = wc := ⟨_, rfl⟩
 subst hY
 obtain ⟨z0, z1, z2, z3, z4, lY⟩ := ins_block kib
 have BY := Lib.hid (B0.out.trans (bY.mono B0.out.size))
 have BVY := Lib.hid bY
 have KXY := Lib.hid (KX.out.keep bY)
 have KZY := Lib.hid (KZ.out.keep bY)
 have HTY := Lib.hid (HT.out.below bY)
 have HRG := Lib.hid KXY.out.range
 have w1 : ab < Y.heap.size := by have := bY.size; omega
 have w2 : g < Y.heap.size := by have := bY.size; omega
 have lw : w.heap.size < Y.heap.size := KXY.out.lt
 have lw1 : w.heap.size + 1 < Y.heap.size := KZY.out.lt
 have y0 : Y.cell? ⟨ab, 0, none⟩ = _ := (bY.cell (p := ⟨ab, 0, none⟩) l1).trans c0
 have y1 : Y.cell? ⟨g, off + k * 3 + 2, none⟩ = _ := (bY.cell (p := ⟨g, off + k * 3 + 2, none⟩) g3).trans nc
 clear bY kib c0 c2 nc x2 i0 i1 i2 i3 i4
 have du : ((u : Int) == 2) = false := by have := HU.out; rw [beq_eq_false_iff_ne]; omega
 have HED := Lib.hid (show ∀ x y, refR ⟨23, a, b, c, im⟩ aft false = x → refR ⟨23, a, b, c, im⟩ aft true = y → edgeR bl.last bl.nx.length j aft = match x, y with | none, y => y | some x, none => some x | some x, some y => some (joinR x y) from fun x y hx hy => by
  unfold edgeR
  rw [hlast', if_neg (by simp), if_neg hu2, hx, hy]
  rfl)
 have HRF := Lib.hid (refine_any 23 a b c im h0' aft A16.out false Y HTY.out)
 rcases hx : refR ⟨23, a, b, c, im⟩ aft false with _ | rx
 ·rw [hx] at HRF
  have HX := Lib.hid hx
  clear hx
  go_upto_region 7 with (first | (refine wpList_load_mid rfl _ _ rfl _ _ rfl (cellsR aft) _ HRG.out Tryd.underlying27 rfl (hi3 A16.out.len) ?_) | (go_at_call 13; refine HRF.out.mono ?_; rintro e w3 ⟨rfl, hb3⟩; unfold outR) | (refine wpList_store_row rfl 27 (.tmp 11) (.tmp 64) rfl w3.heap.size (cellsR zeroR).toArray rfl rfl 27 _ (heap_alloc_new _ _) (hi4 zero16) (hi6 zero16 zero16) (cellsR_one zeroR) ?_))
  obtain ⟨Y3, hY3⟩ : ∃ Y3, (w3.alloc (.cells #[.int .i32 0, .int .i32 0, .int .i32 0, .int .i32 0, .int .i32 0, .int .i32 0, .int .i32 0, .int .i32 0, .int .i32 0, .int .i32 0, .int .i32 0, .int .i32 0, .int .i32 0, .int .i32 0, .int .i32 0, .int .i32 0, .int .i32 0, .int .i32 0, .int .i32 0, .int .i32 0, .int .i32 0, .int .i32 0, .int .i32 0, .int .i32 0, .int .i32 0, .int .i32 0, .int .i32 0, .int .i32 0, .int .i32 0, .int .i32 0, .int .i32 0, .int .i32 0] 27)).setRow w3.heap.size (cellsR zeroR).toArray = Y3 := ⟨_, rfl⟩
  rw [hY3]
  have b3 : Below w3.heap.size w3 Y3 := hY3 ▸ below_setRow ((Below.refl _ _).alloc (Nat.le_refl _) _) (Nat.le_refl _) _
  have K3 := Lib.hid (show RBox Y3 w3.heap.size 27 zeroR from hY3 ▸ RBox.row (z := zeroR) (heap_alloc_new _ _))
  have b3' : Below Y.heap.size Y Y3 := hb3.trans (b3.mono hb3.size)
  obtain ⟨q3, hq3⟩ : ∃ q3, w3.heap.size = q3 := ⟨_, rfl⟩
  rw [hq3] at K3
  rw [hq3]
  have KX3 := Lib.hid (KXY.out.keep b3')
  have KZ3 := Lib.hid (KZY.out.keep b3')
  have HRG3 := Lib.hid KX3.out.range
  have B3 := Lib.hid (BY.out.trans (b3'.mono BY.out.size))
  have L3 := Lib.hid (show w.heap.size + 1 < q3 by have := hb3.size; omega)
  have s0 := (b3'.cell (p := ⟨ibx, 0, none⟩) lY).trans z0
  have s1 := (b3'.cell (p := ⟨ibx, 1, none⟩) lY).trans z1
  have s2 := (b3'.cell (p := ⟨ibx, 2, none⟩) lY).trans z2
  have s3 := (b3'.cell (p := ⟨ibx, 3, none⟩) lY).trans z3
  have s4 := (b3'.cell (p := ⟨ibx, 4, none⟩) lY).trans z4
  have lY3 : ibx < Y3.heap.size := by have := b3'.size; omega
  have HRF2 := Lib.hid (refine_any 23 a b c im h0' aft A16.out true Y3 (HTY.out.below b3'))
  clear hY3 b3 b3' hq3 hb3
  rcases hy : refR ⟨23, a, b, c, im⟩ aft true with _ | ry
  ·rw [hy] at HRF2
   have HY := Lib.hid (HED.out _ _ HX.out hy)
   clear hy
   go_upto_region 8 with (first | (refine wpList_load_mid rfl _ _ rfl _ _ rfl (cellsR aft) _ HRG3.out Tryd.underlying27 rfl (hi3 A16.out.len) ?_) | (go_at_call 13; refine HRF2.out.mono ?_; rintro e w4 ⟨rfl, hb4⟩; unfold outR) | (refine wpList_store_row rfl 27 (.tmp 13) (.tmp 70) rfl w4.heap.size (cellsR zeroR).toArray rfl rfl 27 _ (heap_alloc_new _ _) (hi4 zero16) (hi6 zero16 zero16) (cellsR_one zeroR) ?_))
   obtain ⟨Y4, hY4⟩ : ∃ Y4, (w4.alloc (.cells #[.int .i32 0, .int .i32 0, .int .i32 0, .int .i32 0, .int .i32 0, .int .i32 0, .int .i32 0, .int .i32 0, .int .i32 0, .int .i32 0, .int .i32 0, .int .i32 0, .int .i32 0, .int .i32 0, .int .i32 0, .int .i32 0, .int .i32 0, .int .i32 0, .int .i32 0, .int .i32 0, .int .i32 0, .int .i32 0, .int .i32 0, .int .i32 0, .int .i32 0, .int .i32 0, .int .i32 0, .int .i32 0, .int .i32 0, .int .i32 0, .int .i32 0, .int .i32 0] 27)).setRow w4.heap.size (cellsR zeroR).toArray = Y4 := ⟨_, rfl⟩
   rw [hY4]
   have b4 : Below w4.heap.size w4 Y4 := hY4 ▸ below_setRow ((Below.refl _ _).alloc (Nat.le_refl _) _) (Nat.le_refl _) _
   have K4 := Lib.hid (show RBox Y4 w4.heap.size 27 zeroR from hY4 ▸ RBox.row (z := zeroR) (heap_alloc_new _ _))
   have b4' : Below Y3.heap.size Y3 Y4 := hb4.trans (b4.mono hb4.size)
   have K34 := Lib.hid (K3.out.keep b4')
   have HR3 := Lib.hid K34.out.range
   have HR4 := Lib.hid K4.out.range
   have KZ4 := Lib.hid (KZ3.out.keep b4')
   have B4 := Lib.hid (B3.out.trans (b4'.mono B3.out.size))
   clear hY4 b4 b4' hb4
   go_wp2_with (first | (refine wpList_load_mid rfl _ _ rfl _ _ rfl (cellsR zeroR) _ HR4.out Tryd.underlying27 rfl (hi3 zero16) ?_) | (refine wpList_store_row rfl 27 (.tmp 8) (.tmp 75) rfl (w.heap.size + 1) (cellsR zeroR).toArray rfl rfl 27 _ KZ4.out (hi4 zero16) (hi6 zero16 zero16) (cellsR_one zeroR) ?_))
   refine bodyPost_ret (results_out Tryd.results45 _ (w.heap.size + 1) zero16 rfl (RBox.row KZ4.out)) rfl ⟨?_, below_setRow B4.out (by omega) _⟩
   rw [HY.out]; rfl
  ·rw [hy] at HRF2
   have HY := Lib.hid (HED.out _ _ HX.out hy)
   have RY := Lib.hid (refR_16 A16.out hy)
   clear hy
   go_upto_region 8 with (first | (refine wpList_load_mid rfl _ _ rfl _ _ rfl (cellsR aft) _ HRG3.out Tryd.underlying27 rfl (hi3 A16.out.len) ?_) | (go_at_call 13; refine HRF2.out.mono ?_; rintro e w4 ⟨rfl, hb4⟩; unfold outR) | (refine wpList_store_row rfl 27 (.tmp 13) (.tmp 70) rfl w4.heap.size (cellsR ry).toArray rfl rfl 27 _ (heap_alloc_new _ _) (hi4 RY.out.len) (hi6 RY.out.len zero16) (cellsR_one ry) ?_))
   obtain ⟨Y4, hY4⟩ : ∃ Y4, (w4.alloc (.cells #[.int .i32 0, .int .i32 0, .int .i32 0, .int .i32 0, .int .i32 0, .int .i32 0, .int .i32 0, .int .i32 0, .int .i32 0, .int .i32 0, .int .i32 0, .int .i32 0, .int .i32 0, .int .i32 0, .int .i32 0, .int .i32 0, .int .i32 0, .int .i32 0, .int .i32 0, .int .i32 0, .int .i32 0, .int .i32 0, .int .i32 0, .int .i32 0, .int .i32 0, .int .i32 0, .int .i32 0, .int .i32 0, .int .i32 0, .int .i32 0, .int .i32 0, .int .i32 0] 27)).setRow w4.heap.size (cellsR ry).toArray = Y4 := ⟨_, rfl⟩
   rw [hY4]
   have b4 : Below w4.heap.size w4 Y4 := hY4 ▸ below_setRow ((Below.refl _ _).alloc (Nat.le_refl _) _) (Nat.le_refl _) _
   have K4 := Lib.hid (show RBox Y4 w4.heap.size 27 ry from hY4 ▸ RBox.row (z := zeroR) (heap_alloc_new _ _))
   have b4' : Below Y3.heap.size Y3 Y4 := hb4.trans (b4.mono hb4.size)
   have K34 := Lib.hid (K3.out.keep b4')
   have HR3 := Lib.hid K34.out.range
   have HR4 := Lib.hid K4.out.range
   have KZ4 := Lib.hid (KZ3.out.keep b4')
   have B4 := Lib.hid (B3.out.trans (b4'.mono B3.out.size))
   clear hY4 b4 b4' hb4
   go_wp2_with (first | (refine wpList_load_mid rfl _ _ rfl _ _ rfl (cellsR ry) _ HR4.out Tryd.underlying27 rfl (hi3 RY.out.len) ?_) | (refine wpList_store_row rfl 27 (.tmp 8) (.tmp 75) rfl (w.heap.size + 1) (cellsR ry).toArray rfl rfl 27 _ KZ4.out (hi4 RY.out.len) (hi6 RY.out.len zero16) (cellsR_one ry) ?_))
   refine bodyPost_ret (results_out Tryd.results45 _ (w.heap.size + 1) RY.out.len rfl (RBox.row KZ4.out)) rfl ⟨?_, below_setRow B4.out (by omega) _⟩
   rw [HY.out]; rfl
 ·rw [hx] at HRF
  have HX := Lib.hid hx
  have RX := Lib.hid (refR_16 A16.out hx)
  clear hx
  go_upto_region 7 with (first | (refine wpList_load_mid rfl _ _ rfl _ _ rfl (cellsR aft) _ HRG.out Tryd.underlying27 rfl (hi3 A16.out.len) ?_) | (go_at_call 13; refine HRF.out.mono ?_; rintro e w3 ⟨rfl, hb3⟩; unfold outR) | (refine wpList_store_row rfl 27 (.tmp 11) (.tmp 64) rfl w3.heap.size (cellsR rx).toArray rfl rfl 27 _ (heap_alloc_new _ _) (hi4 RX.out.len) (hi6 RX.out.len zero16) (cellsR_one rx) ?_))
  obtain ⟨Y3, hY3⟩ : ∃ Y3, (w3.alloc (.cells #[.int .i32 0, .int .i32 0, .int .i32 0, .int .i32 0, .int .i32 0, .int .i32 0, .int .i32 0, .int .i32 0, .int .i32 0, .int .i32 0, .int .i32 0, .int .i32 0, .int .i32 0, .int .i32 0, .int .i32 0, .int .i32 0, .int .i32 0, .int .i32 0, .int .i32 0, .int .i32 0, .int .i32 0, .int .i32 0, .int .i32 0, .int .i32 0, .int .i32 0, .int .i32 0, .int .i32 0, .int .i32 0, .int .i32 0, .int .i32 0, .int .i32 0, .int .i32 0] 27)).setRow w3.heap.size (cellsR rx).toArray = Y3 := ⟨_, rfl⟩
  rw [hY3]
  have b3 : Below w3.heap.size w3 Y3 := hY3 ▸ below_setRow ((Below.refl _ _).alloc (Nat.le_refl _) _) (Nat.le_refl _) _
  have K3 := Lib.hid (show RBox Y3 w3.heap.size 27 rx from hY3 ▸ RBox.row (z := zeroR) (heap_alloc_new _ _))
  have b3' : Below Y.heap.size Y Y3 := hb3.trans (b3.mono hb3.size)
  obtain ⟨q3, hq3⟩ : ∃ q3, w3.heap.size = q3 := ⟨_, rfl⟩
  rw [hq3] at K3
  rw [hq3]
  have KX3 := Lib.hid (KXY.out.keep b3')
  have KZ3 := Lib.hid (KZY.out.keep b3')
  have HRG3 := Lib.hid KX3.out.range
  have B3 := Lib.hid (BY.out.trans (b3'.mono BY.out.size))
  have L3 := Lib.hid (show w.heap.size + 1 < q3 by have := hb3.size; omega)
  have s0 := (b3'.cell (p := ⟨ibx, 0, none⟩) lY).trans z0
  have s1 := (b3'.cell (p := ⟨ibx, 1, none⟩) lY).trans z1
  have s2 := (b3'.cell (p := ⟨ibx, 2, none⟩) lY).trans z2
  have s3 := (b3'.cell (p := ⟨ibx, 3, none⟩) lY).trans z3
  have s4 := (b3'.cell (p := ⟨ibx, 4, none⟩) lY).trans z4
  have lY3 : ibx < Y3.heap.size := by have := b3'.size; omega
  have HRF2 := Lib.hid (refine_any 23 a b c im h0' aft A16.out true Y3 (HTY.out.below b3'))
  clear hY3 b3 b3' hq3 hb3
  rcases hy : refR ⟨23, a, b, c, im⟩ aft true with _ | ry
  ·rw [hy] at HRF2
   have HY := Lib.hid (HED.out _ _ HX.out hy)
   clear hy
   go_upto_region 8 with (first | (refine wpList_load_mid rfl _ _ rfl _ _ rfl (cellsR aft) _ HRG3.out Tryd.underlying27 rfl (hi3 A16.out.len) ?_) | (go_at_call 13; refine HRF2.out.mono ?_; rintro e w4 ⟨rfl, hb4⟩; unfold outR) | (refine wpList_store_row rfl 27 (.tmp 13) (.tmp 70) rfl w4.heap.size (cellsR zeroR).toArray rfl rfl 27 _ (heap_alloc_new _ _) (hi4 zero16) (hi6 zero16 zero16) (cellsR_one zeroR) ?_))
   obtain ⟨Y4, hY4⟩ : ∃ Y4, (w4.alloc (.cells #[.int .i32 0, .int .i32 0, .int .i32 0, .int .i32 0, .int .i32 0, .int .i32 0, .int .i32 0, .int .i32 0, .int .i32 0, .int .i32 0, .int .i32 0, .int .i32 0, .int .i32 0, .int .i32 0, .int .i32 0, .int .i32 0, .int .i32 0, .int .i32 0, .int .i32 0, .int .i32 0, .int .i32 0, .int .i32 0, .int .i32 0, .int .i32 0, .int .i32 0, .int .i32 0, .int .i32 0, .int .i32 0, .int .i32 0, .int .i32 0, .int .i32 0, .int .i32 0] 27)).setRow w4.heap.size (cellsR zeroR).toArray = Y4 := ⟨_, rfl⟩
   rw [hY4]
   have b4 : Below w4.heap.size w4 Y4 := hY4 ▸ below_setRow ((Below.refl _ _).alloc (Nat.le_refl _) _) (Nat.le_refl _) _
   have K4 := Lib.hid (show RBox Y4 w4.heap.size 27 zeroR from hY4 ▸ RBox.row (z := zeroR) (heap_alloc_new _ _))
   have b4' : Below Y3.heap.size Y3 Y4 := hb4.trans (b4.mono hb4.size)
   have K34 := Lib.hid (K3.out.keep b4')
   have HR3 := Lib.hid K34.out.range
   have HR4 := Lib.hid K4.out.range
   have KZ4 := Lib.hid (KZ3.out.keep b4')
   have B4 := Lib.hid (B3.out.trans (b4'.mono B3.out.size))
   clear hY4 b4 b4' hb4
   go_wp2_with (first | (refine wpList_load_mid rfl _ _ rfl _ _ rfl (cellsR rx) _ HR3.out Tryd.underlying27 rfl (hi3 RX.out.len) ?_) | (refine wpList_store_row rfl 27 (.tmp 8) (.tmp 80) rfl (w.heap.size + 1) (cellsR rx).toArray rfl rfl 27 _ KZ4.out (hi4 RX.out.len) (hi6 RX.out.len zero16) (cellsR_one rx) ?_))
   refine bodyPost_ret (results_out Tryd.results45 _ (w.heap.size + 1) RX.out.len rfl (RBox.row KZ4.out)) rfl ⟨?_, below_setRow B4.out (by omega) _⟩
   rw [HY.out]; rfl
  ·rw [hy] at HRF2
   have HY := Lib.hid (HED.out _ _ HX.out hy)
   have RY := Lib.hid (refR_16 A16.out hy)
   clear hy
   go_upto_region 8 with (first | (refine wpList_load_mid rfl _ _ rfl _ _ rfl (cellsR aft) _ HRG3.out Tryd.underlying27 rfl (hi3 A16.out.len) ?_) | (go_at_call 13; refine HRF2.out.mono ?_; rintro e w4 ⟨rfl, hb4⟩; unfold outR) | (refine wpList_store_row rfl 27 (.tmp 13) (.tmp 70) rfl w4.heap.size (cellsR ry).toArray rfl rfl 27 _ (heap_alloc_new _ _) (hi4 RY.out.len) (hi6 RY.out.len zero16) (cellsR_one ry) ?_))
   obtain ⟨Y4, hY4⟩ : ∃ Y4, (w4.alloc (.cells #[.int .i32 0, .int .i32 0, .int .i32 0, .int .i32 0, .int .i32 0, .int .i32 0, .int .i32 0, .int .i32 0, .int .i32 0, .int .i32 0, .int .i32 0, .int .i32 0, .int .i32 0, .int .i32 0, .int .i32 0, .int .i32 0, .int .i32 0, .int .i32 0, .int .i32 0, .int .i32 0, .int .i32 0, .int .i32 0, .int .i32 0, .int .i32 0, .int .i32 0, .int .i32 0, .int .i32 0, .int .i32 0, .int .i32 0, .int .i32 0, .int .i32 0, .int .i32 0] 27)).setRow w4.heap.size (cellsR ry).toArray = Y4 := ⟨_, rfl⟩
   rw [hY4]
   have b4 : Below w4.heap.size w4 Y4 := hY4 ▸ below_setRow ((Below.refl _ _).alloc (Nat.le_refl _) _) (Nat.le_refl _) _
   have K4 := Lib.hid (show RBox Y4 w4.heap.size 27 ry from hY4 ▸ RBox.row (z := zeroR) (heap_alloc_new _ _))
   have b4' : Below Y3.heap.size Y3 Y4 := hb4.trans (b4.mono hb4.size)
   have K34 := Lib.hid (K3.out.keep b4')
   have HR3 := Lib.hid K34.out.range
   have HR4 := Lib.hid K4.out.range
   have KZ4 := Lib.hid (KZ3.out.keep b4')
   have B4 := Lib.hid (B3.out.trans (b4'.mono B3.out.size))
   clear hY4 b4 b4' hb4
   have HCO := Lib.hid (combine_any 24 joinI (fun _ _ => by kernel_rfl) join_any rx ry RX.out.len RY.out.len Y4)
   have RJ := Lib.hid (RX.out.join RY.out)
   go_wp2_with (first | (refine wpList_load_mid rfl _ _ rfl _ _ rfl (cellsR rx) _ HR3.out Tryd.underlying27 rfl (hi3 RX.out.len) ?_) | (refine wpList_load_mid rfl _ _ rfl _ _ rfl (cellsR ry) _ HR4.out Tryd.underlying27 rfl (hi3 RY.out.len) ?_) | (go_at_call 62; refine HCO.out.mono ?_; rintro e w5 ⟨rfl, hb5⟩) | (refine wpList_store_row rfl 27 (.tmp 8) (.tmp 84) rfl (w.heap.size + 1) (cellsR (joinR rx ry)).toArray rfl rfl 27 _ (KZ4.out.keep hb5) (hi4 RJ.out.len) (hi6 RJ.out.len zero16) (cellsR_one (joinR rx ry)) ?_))
   refine bodyPost_ret (results_out Tryd.results45 _ (w.heap.size + 1) RJ.out.len rfl (RBox.row (KZ4.out.keep hb5))) rfl ⟨?_, below_setRow (B4.out.trans (hb5.mono B4.out.size)) (by omega) _⟩
   rw [HY.out]; rfl

theorem edge_any {V w : World} {ab cb rb ib pb : Nat} {bv pv : Value} {G : List Blk} {B : List AB} {val : Nat → Value} {s : AS} (h : An V w ab cb rb ib pb bv pv G B val s) {k : Nat} {bl : AB} (hk : B[k]? = some bl) (hne : bl.code ≠ []) (hnx : bl.nx.length ≤ 1000) (h0 : 0 ≤ bl.last.op) (j : Nat) (aft : RG) (h16 : R16 aft) (T : Tab w) :
  Calls Tryd.prog 45 #[.pointer (some ⟨ab, 0, none⟩), .int .i64 (k : Int), .int .i64 (j : Int), .agg (cellsR aft).toArray] w fun e w' => e = .returned (outR (edgeR bl.last bl.nx.length j aft)) ∧ Below w.heap.size w w' := by
 obtain ⟨op, a, b, c, im, hl⟩ : ∃ op a b c im, bl.last = ⟨op, a, b, c, im⟩ := ⟨_, _, _, _, _, rfl⟩
 by_cases h2 : op = 22 ∨ op = 23
 ·have hE : bl.nx.length = 2 → edgeR bl.last bl.nx.length j aft = refR ⟨op, a, b, c, im⟩ aft (decide (j = 1)) := fun hu => by
   unfold edgeR
   rw [hl, if_neg (fun hh => hh h2), if_pos hu]
  by_cases hu : bl.nx.length = 2
  ·rw [hE hu]
   rcases h2 with e | e
   ·exact edge_two22 h hk hne hnx op a b c im (by rw [hl] at h0; exact h0) hl e j hu aft h16 T
   ·exact edge_two23 h hk hne hnx op a b c im (by rw [hl] at h0; exact h0) hl e j hu aft h16 T
  ·rcases h2 with e | e
   ·exact edge_one22 h hk hne hnx op a b c im (by rw [hl] at h0; exact h0) hl e j hu aft h16 T
   ·exact edge_one23 h hk hne hnx op a b c im (by rw [hl] at h0; exact h0) hl e j hu aft h16 T
 ·have hE : edgeR bl.last bl.nx.length j aft = some aft := by unfold edgeR; rw [hl, if_pos h2]
  rw [hE]
  exact edge_plain h hk hne hnx op a b c im (by rw [hl] at h0; exact h0) hl (by omega) j aft h16 T
end Go.Proofs.YtebklpnkcicpjaaDoor


