/-
 What is proved here: what visit does.
-/
import Derived.Test.YtebklpnkcicpjaaDoorFaEd
import Derived.Test.YtebklpnkcicpjaaDoorFaAn2
import Derived.Test.YtebklpnkcicpjaaDoorFaFix
import Derived.BigRegion
import Derived.Deep.RegionHeld3
import Derived.Deep.DeepCutAuto
namespace Go.Proofs.YtebklpnkcicpjaaDoor
open Go.RowKit
set_option linter.unusedVariables false
set_option linter.unusedSimpArgs false

structure ABw (n : Nat) (b : AB) : Prop where
 f : ABf n b
 ne : b.code ≠ []
 nxl : b.nx.length ≤ 1000
 nx : ∀ t ∈ b.nx, 0 ≤ t ∧ t < n
theorem An.nexts {V w : World} {ab cb rb ib pb : Nat} {bv pv : Value} {G : List Blk} {B : List AB} {val : Nat → Value} {s : AS} (h : An V w ab cb rb ib pb bv pv G B val s) {k : Nat} {b : AB} (hk : B[k]? = some b) :
  ∃ g off cap nA ncap, bv = .slice (some ⟨g, off, none⟩) B.length cap ∧ B.length ≤ cap ∧ cap ≤ 2 ^ 63 - 1 ∧ g < V.heap.size ∧ V.cell? ⟨g, off + k * 3 + 2, none⟩ = some (.slice nA b.nx.length ncap) ∧ b.nx.length ≤ ncap ∧ ncap ≤ 2 ^ 63 - 1 ∧ ∀ j t, b.nx[j]? = some t → ∃ nb noff, nA = some ⟨nb, noff, none⟩ ∧ nb < V.heap.size ∧ V.cell? ⟨nb, noff + j, none⟩ = some (.int .i64 t) := by
 have hkl := (List.getElem?_eq_some_iff.1 hk).1
 have hlG := h.lG
 obtain ⟨A, cap, h1, h2, h3, h4⟩ := h.blks
 obtain ⟨g, off, rfl, hg, hc⟩ := h4 (by omega)
 obtain ⟨x, hx⟩ : ∃ x, G[k]? = some x := ⟨_, List.getElem?_eq_getElem (by omega)⟩
 obtain ⟨_, _, nv, c2, hn⟩ := hc k x hx
 have e := h.gnx k x b hx hk
 rw [e] at hn
 obtain ⟨nA, ncap, rfl, n2, n3, n4⟩ := hn
 rw [hlG] at h1 h2
 refine ⟨g, off, cap, nA, ncap, h1, h2, max_63 h3, hg, c2, n2, max_63 n3, fun j t hj => ?_⟩
 have hl := (List.getElem?_eq_some_iff.1 hj).1
 obtain ⟨nb, noff, ha, hb, hcc⟩ := n4 (by omega)
 refine ⟨nb, noff, ha, hb, ?_⟩
 rw [hcc j hl, show b.nx.getD j 0 = t by simp [List.getD, hj]]
theorem visK_succ (last : Ins) (nx : List Int) (aft : RG) (s : AS) (k : Nat) : visK last nx aft s (k + 1) = ((stepE (visK last nx aft s k).1 (nx.getD k 0).toNat (edgeR last nx.length k aft)).1, (visK last nx aft s k).2 || (stepE (visK last nx aft s k).1 (nx.getD k 0).toNat (edgeR last nx.length k aft)).2) := rfl

theorem there_drew {w : World} {b o n : Nat} (h : w.there b o n) : w.drew.there b o n := h
theorem there_set {w : World} {b o n c p : Nat} {v : Value} (h : w.there b o n) : (w.setCell ⟨c, p, none⟩ v).there b o n := by
 have := World.there_setCells h c p [v]
 exact this
theorem keepS {Y w' : World} {rb ib b10 o : Nat} {cs : List Value} (h1 : b10 < Y.heap.size) (n1 : b10 ≠ rb) (n2 : b10 ≠ ib) (hr : Y.rangeAt b10 0 cs) (hf : Fr (fun k => k = rb ∨ k = ib) Y w') (ht : w'.there ib o 32) :
  (∀ b o, b < Y.heap.size → b ≠ rb → b ≠ ib → w'.cell? ⟨b, o, none⟩ = Y.cell? ⟨b, o, none⟩) ∧ w'.rangeAt b10 0 cs ∧ w'.there ib o 32 ∧ Fr (fun k => k = rb ∨ k = ib) Y w' :=
 ⟨fun b o hb h2 h3 => hf.cell o hb (by simp [h2, h3]), fun j v hv => (hf.cell (0 + j) h1 (by simp [n1, n2])).trans (hr j v hv), ht, hf⟩
theorem wpQuiet_load {P : Program} {ops : Array Oper} {C : World → Prop} {Q : Act → Prop} {a : Act} {op : Oper} {rest : List Oper} (hw : Region.wanted op (yielded ops a.tmps) = true) (ty : TypeId) (x : Operand) (ho : op.op = .load ty x)
  (b o : Nat) (hx : a.eval x = .pointer (some ⟨b, o, none⟩)) (cs : List Value) (d : TypeDesc) (hc : ∀ w, C w → w.rangeAt b o cs)
  (hu : P.underlying ty = some d) (hd : d.isRow = true) (hi : (P.info? ty).map (·.size) = some cs.length) (h : wpQuiet P ops C Q rest (a.put op.dst (.agg cs.toArray))) : wpQuiet P ops C Q (op :: rest) a :=
 BigFrame.wpQuiet_want hw fun K hK => ⟨.agg cs.toArray, fun w hC => by
  unfold Oper.quietAt execOp
  simp only [ho, hx, Instr.loadAt, Instr.sureAddr, Sem.run_bind, Sem.run_pure, Result.andThen_ok, run_loadVar_mid w b o ty cs d (hc w hC) hu hd hi]
  exact ⟨rfl, rfl⟩, hK _ h⟩
theorem there_new (W : World) : (W.alloc (.cells #[.int .i32 0, .int .i32 0, .int .i32 0, .int .i32 0, .int .i32 0, .int .i32 0, .int .i32 0, .int .i32 0, .int .i32 0, .int .i32 0, .int .i32 0, .int .i32 0, .int .i32 0, .int .i32 0, .int .i32 0, .int .i32 0, .int .i32 0, .int .i32 0, .int .i32 0, .int .i32 0, .int .i32 0, .int .i32 0, .int .i32 0, .int .i32 0, .int .i32 0, .int .i32 0, .int .i32 0, .int .i32 0, .int .i32 0, .int .i32 0, .int .i32 0, .int .i32 0] 27)).there W.heap.size 0 32 := fun j hj => by
 have h : (W.alloc (.cells #[.int .i32 0, .int .i32 0, .int .i32 0, .int .i32 0, .int .i32 0, .int .i32 0, .int .i32 0, .int .i32 0, .int .i32 0, .int .i32 0, .int .i32 0, .int .i32 0, .int .i32 0, .int .i32 0, .int .i32 0, .int .i32 0, .int .i32 0, .int .i32 0, .int .i32 0, .int .i32 0, .int .i32 0, .int .i32 0, .int .i32 0, .int .i32 0, .int .i32 0, .int .i32 0, .int .i32 0, .int .i32 0, .int .i32 0, .int .i32 0, .int .i32 0, .int .i32 0] 27)).heap[W.heap.size]? = some (.cells (cellsR zeroR).toArray 27 (0, 0)) := heap_alloc_new _ _
 have : 0 + j < (cellsR zeroR).length := by rw [cellsR_len]; simp [zeroR]; omega
 constructor
 ·simp only [World.cell?, h, List.getElem?_toArray, List.getElem?_eq_getElem this]
  rfl
 ·simp only [World.frozen?, h]
  simp
theorem there_box {W : World} {g : Nat} {T : TypeId} {z : RG} (h : RBox W g T z) : W.there g 0 (z.length * 2) := fun j hj => by
 unfold RBox at h
 constructor
 ·have : 0 + j < (cellsR z).length := by rw [cellsR_len]; omega
  simp only [World.cell?, h]
  simp only [List.getElem?_toArray, List.getElem?_eq_getElem this]
  rfl
 ·simp [World.frozen?, h]
theorem keepB {Y w' : World} {ib b10 o : Nat} {cs ds : List Value} (h1 : b10 < Y.heap.size) (h2 : ib < Y.heap.size) (hr : Y.rangeAt b10 0 cs) (hi : Y.rangeAt ib o ds) (hf : Below Y.heap.size Y w') :
  (∀ b o, b < Y.heap.size → w'.cell? ⟨b, o, none⟩ = Y.cell? ⟨b, o, none⟩) ∧ w'.rangeAt b10 0 cs ∧ w'.rangeAt ib o ds ∧ Below Y.heap.size Y w' :=
 ⟨fun b o hb => hf.cell (p := ⟨b, o, none⟩) hb, fun j v hv => (hf.cell (p := ⟨b10, 0 + j, none⟩) h1).trans (hr j v hv), fun j v hv => (hf.cell (p := ⟨ib, o + j, none⟩) h2).trans (hi j v hv), hf⟩
theorem box_set {W : World} {g : Nat} {T : TypeId} {z r : RG} (h : RBox W g T z) (hz : z.length = 16) (hr : r.length = 16) : RBox (W.setCells g 0 (cellsR r)) g T r := by
 have h1 : (cellsR z).length = 32 := by rw [cellsR_len, hz]
 have h2 : (cellsR r).length = 32 := by rw [cellsR_len, hr]
 unfold RBox at *
 rw [heap_setCells_same g T (cellsR r) 0 W (cellsR z) h (by omega), h2, List.drop_eq_nil_of_le (by omega)]
 simp
theorem Below.setCells' {B : Nat} {w0 w : World} (h : Below B w0 w) {b : Nat} (hb : B ≤ b) (o : Nat) (vs : List Value) : Below B w0 (w.setCells b o vs) := by
 obtain ⟨h1, h2, h3, h4⟩ := setCells_same b vs o w
 exact h.trans ⟨h1, h2, h3, by rw [h4]; exact Nat.le_refl _, fun k hk => heap_setCells_other b vs o w k (by omega)⟩
theorem cellsR_ones (r : RG) : ∀ v ∈ cellsR r, v.oneCell' = true := fun v hv => by
 unfold cellsR at hv
 obtain ⟨x, _, h⟩ := List.mem_flatMap.1 hv
 simp only [List.mem_cons, List.not_mem_nil, or_false] at h
 rcases h with rfl | rfl <;> rfl

set_option maxRecDepth 100000 in
set_option maxHeartbeats 8000000 in
theorem visit_any {V w : World} {ab cb rb ib pb : Nat} {bv pv : Value} {G : List Blk} {B : List AB} {val : Nat → Value} {s : AS} (h : An V w ab cb rb ib pb bv pv G B val s) {k : Nat} {b : AB} (hk : B[k]? = some b) (hb : ABw B.length b) (T : Tab V) :
  Calls Tryd.prog 43 #[.pointer (some ⟨ab, 0, none⟩), .int .i64 (k : Int)] w fun e w' => e = .returned (.bool (visR b k s).2) ∧ An V w' ab cb rb ib pb bv pv G B val (visR b k s).1 ∧ Fr (An3 rb ib pb) w w' := by
 have hkl := (List.getElem?_eq_some_iff.1 hk).1
 have hBB := h.lB
 have HAF := Lib.hid (after_any h hk hb.ne hb.f.ops (T.below h.bel))
 rcases hr : runR b.code (s.inn.getD k []) with _ | aft
 ·have HV := Lib.hid (show visR b k s = (s, false) by unfold visR; rw [hr])
  rw [hr] at HAF
  have HA := Lib.hid h
  clear h hr hkl hBB hk hb T
  go_enter Tryd.func43, Tryd.ntmps43
  go_wp2_with (first | (go_at_call 44; refine HAF.out.mono ?_; rintro e w1 ⟨rfl, hb1⟩; unfold outR) | (refine wpList_store_row rfl 27 (.tmp 5) (.tmp 17) rfl w1.heap.size (cellsR zeroR).toArray rfl rfl 27 _ (heap_alloc_new _ _) (hi4 zero16) (hi6 zero16 zero16) (cellsR_one zeroR) ?_))
  go_ret
  have bb : Below w.heap.size w ((w1.alloc (.cells #[.int .i32 0, .int .i32 0, .int .i32 0, .int .i32 0, .int .i32 0, .int .i32 0, .int .i32 0, .int .i32 0, .int .i32 0, .int .i32 0, .int .i32 0, .int .i32 0, .int .i32 0, .int .i32 0, .int .i32 0, .int .i32 0, .int .i32 0, .int .i32 0, .int .i32 0, .int .i32 0, .int .i32 0, .int .i32 0, .int .i32 0, .int .i32 0, .int .i32 0, .int .i32 0, .int .i32 0, .int .i32 0, .int .i32 0, .int .i32 0, .int .i32 0, .int .i32 0] 27)).setRow w1.heap.size (cellsR zeroR).toArray) := below_setRow (hb1.alloc hb1.size _) hb1.size _
  rw [HV.out]
  exact ⟨rfl, HA.out.below bb, Fr.of bb⟩
 have A16 := Lib.hid (runR_16 hb.f.ops (h.asi.get hkl) hr)
 have HVR := Lib.hid (show visR b k s = visK b.last b.nx aft s b.nx.length by unfold visR; rw [hr])
 rw [hr] at HAF
 obtain ⟨g, off, gcap, nA, ncap, hbv, g1, g2, g3, nc, n1, n2, hnx⟩ := h.nexts hk
 obtain ⟨n, hn⟩ : ∃ n, B.length = n := ⟨_, rfl⟩
 obtain ⟨u, hu⟩ : ∃ u, b.nx.length = u := ⟨_, rfl⟩
 have dk : (k : Int) < (n : Int) := by omega
 have HA := Lib.hid h
 have HNX := Lib.hid hnx
 have HN := Lib.hid hn
 have HU := Lib.hid hu
 have HK := Lib.hid hk
 have HBW := Lib.hid hb
 have HT := Lib.hid T
 have HBV := Lib.hid hbv
 have hul : u ≤ 1000 := by rw [← hu]; exact hb.nxl
 rw [hn] at hBB g1
 rw [hu] at nc n1
 have HNC := Lib.hid nc
 clear h hr hnx hn hu hk hb T hbv nc hkl
 go_enter Tryd.func43, Tryd.ntmps43
 go_upto_region 2 with (first | (go_at_call 44; refine HAF.out.mono ?_; rintro e w1 ⟨rfl, hb1⟩; unfold outR) | (refine wpList_store_row rfl 27 (.tmp 5) (.tmp 17) rfl w1.heap.size (cellsR aft).toArray rfl rfl 27 _ (heap_alloc_new _ _) (hi4 A16.out.len) (hi6 A16.out.len zero16) (cellsR_one aft) ?_))
 obtain ⟨X, hX⟩ : ∃ X, (w1.alloc (.cells #[.int .i32 0, .int .i32 0, .int .i32 0, .int .i32 0, .int .i32 0, .int .i32 0, .int .i32 0, .int .i32 0, .int .i32 0, .int .i32 0, .int .i32 0, .int .i32 0, .int .i32 0, .int .i32 0, .int .i32 0, .int .i32 0, .int .i32 0, .int .i32 0, .int .i32 0, .int .i32 0, .int .i32 0, .int .i32 0, .int .i32 0, .int .i32 0, .int .i32 0, .int .i32 0, .int .i32 0, .int .i32 0, .int .i32 0, .int .i32 0, .int .i32 0, .int .i32 0] 27)).setRow w1.heap.size (cellsR aft).toArray = X := ⟨_, rfl⟩
 rw [hX]
 have bX : Below w.heap.size w X := hX ▸ below_setRow (hb1.alloc hb1.size _) hb1.size _
 have kX : RBox X w1.heap.size 27 aft := hX ▸ RBox.row (z := zeroR) (heap_alloc_new _ _)
 obtain ⟨b5, hb5⟩ : ∃ b5, w1.heap.size = b5 := ⟨_, rfl⟩
 have L5 := Lib.hid (show w.heap.size ≤ b5 by rw [← hb5]; exact hb1.size)
 rw [hb5] at kX
 rw [hb5]
 have HAX := Lib.hid (HA.out.below bX)
 have hbel := HAX.out.bel
 have l1 : ab < X.heap.size := HAX.out.lt.1
 have lg : g < X.heap.size := by have := hbel.size; omega
 have c0 : X.cell? ⟨ab, 0, none⟩ = some (.slice (some ⟨g, off, none⟩) n gcap) := by rw [HAX.out.cells.1, HBV.out, HN.out]
 have c1 : X.cell? ⟨g, off + k * 3 + 2, none⟩ = some (.slice nA u ncap) := (hbel.cell (p := ⟨g, off + k * 3 + 2, none⟩) g3).trans HNC.out
 have BX := Lib.hid bX
 have KX := Lib.hid kX
 clear hX bX kX hb5 hb1 hbel
 go_upto_region 6 with fail
 clear c0 c1 l1 lg
 go_loopw [7, 31] (fun a7 a31 wr => ∃ j : Nat, j ≤ u ∧ a31 = .int .i64 (j : Int) ∧ a7 = .bool (visK b.last b.nx aft s j).2 ∧ An V wr ab cb rb ib pb bv pv G B val (visK b.last b.nx aft s j).1 ∧ Fr (An3 rb ib pb) w wr ∧ RBox wr b5 27 aft) (fun _ a31 _ => u - (intOf a31).toNat)
 case atStart => exact ⟨0, by omega, rfl, rfl, HAX.out, Fr.of BX.out, KX.out⟩
 case round =>
  obtain ⟨j, hj, rfl, rfl, hAn, hFr, hkb⟩ := hrel
  have HFR := Lib.hid hFr
  have KB := Lib.hid hkb
  have HRG := Lib.hid hkb.range
  clear hFr hkb
  by_cases hlt : j < u
  ·have dl : decide ((j : Int) < (u : Int)) = true := decide_eq_true (by omega)
   obtain ⟨t, ht⟩ : ∃ t, b.nx[j]? = some t := ⟨_, List.getElem?_eq_getElem (by rw [HU.out]; exact hlt)⟩
   obtain ⟨nb, noff, rfl, hnb, hcn⟩ := HNX.out j t ht
   have htb := HBW.out.nx t (List.mem_of_getElem? ht)
   rw [HN.out] at htb
   obtain ⟨tn, rfl⟩ : ∃ tn : Nat, t = (tn : Int) := ⟨t.toNat, by omega⟩
   have htn : tn < n := by omega
   have dt : (tn : Int) < (n : Int) := by omega
   have hD := Lib.hid (show (b.nx.getD j 0).toNat = tn by simp [List.getD, ht])
   have hbel := hAn.bel
   have lnb : nb < wr.heap.size := by have := hbel.size; omega
   have x0 : wr.cell? ⟨nb, noff + j, none⟩ = some (.int .i64 (tn : Int)) := (hbel.cell (p := ⟨nb, noff + j, none⟩) hnb).trans hcn
   obtain ⟨sj, hsj⟩ : ∃ sj, visK b.last b.nx aft s j = sj := ⟨_, rfl⟩
   have HSJ := Lib.hid hsj
   rw [hsj] at hAn
   rw [hsj]
   have HED := Lib.hid (edge_any hAn HK.out HBW.out.ne HBW.out.nxl HBW.out.f.op j aft A16.out (HT.out.below hbel))
   have HAN := Lib.hid hAn
   have hst := visK_succ b.last b.nx aft s j
   rw [hsj, hD.out] at hst
   have lwr : w.heap.size ≤ wr.heap.size := HFR.out.size
   clear ht hcn htb hbel hAn hsj
   rcases he : edgeR b.last b.nx.length j aft with _ | r
   ·rw [he] at HED hst
    have HST := Lib.hid hst
    clear he hst
    go_wp2_with (first | (refine wpList_load_mid rfl _ _ rfl _ _ rfl (cellsR aft) _ HRG.out Tryd.underlying27 rfl (hi3 A16.out.len) ?_) | (go_at_call 45; refine HED.out.mono ?_; rintro e w2 ⟨rfl, hb2⟩; unfold outR) | (refine wpList_store_row rfl 27 (.tmp 10) (.tmp 42) rfl w2.heap.size (cellsR zeroR).toArray rfl rfl 27 _ (heap_alloc_new _ _) (hi4 zero16) (hi6 zero16 zero16) (cellsR_one zeroR) ?_))
    go_roundw
    case rel =>
     have bb : Below wr.heap.size wr ((w2.alloc (.cells #[.int .i32 0, .int .i32 0, .int .i32 0, .int .i32 0, .int .i32 0, .int .i32 0, .int .i32 0, .int .i32 0, .int .i32 0, .int .i32 0, .int .i32 0, .int .i32 0, .int .i32 0, .int .i32 0, .int .i32 0, .int .i32 0, .int .i32 0, .int .i32 0, .int .i32 0, .int .i32 0, .int .i32 0, .int .i32 0, .int .i32 0, .int .i32 0, .int .i32 0, .int .i32 0, .int .i32 0, .int .i32 0, .int .i32 0, .int .i32 0, .int .i32 0, .int .i32 0] 27)).setRow w2.heap.size (cellsR zeroR).toArray) := below_setRow (hb2.alloc hb2.size _) hb2.size _
     refine ⟨j + 1, by omega, by go_num, ?_, ?_, HFR.out.trans (Fr.of bb), KB.out.keep bb⟩
     ·rw [HST.out]; simp [stepE]
     ·rw [HST.out]; exact HAN.out.below bb
    case measure => simp [intOf]; omega
   ·rw [he] at HED hst
    have HST := Lib.hid hst
    have R16 := Lib.hid (edgeR_16 A16.out he)
    clear he hst
    go_upto_region 10 with (first | (refine wpList_load_mid rfl _ _ rfl _ _ rfl (cellsR aft) _ HRG.out Tryd.underlying27 rfl (hi3 A16.out.len) ?_) | (go_at_call 45; refine HED.out.mono ?_; rintro e w2 ⟨rfl, hb2⟩; unfold outR) | (refine wpList_store_row rfl 27 (.tmp 10) (.tmp 42) rfl w2.heap.size (cellsR r).toArray rfl rfl 27 _ (heap_alloc_new _ _) (hi4 R16.out.len) (hi6 R16.out.len zero16) (cellsR_one r) ?_))
    obtain ⟨Y, hY⟩ : ∃ Y, (w2.alloc (.cells #[.int .i32 0, .int .i32 0, .int .i32 0, .int .i32 0, .int .i32 0, .int .i32 0, .int .i32 0, .int .i32 0, .int .i32 0, .int .i32 0, .int .i32 0, .int .i32 0, .int .i32 0, .int .i32 0, .int .i32 0, .int .i32 0, .int .i32 0, .int .i32 0, .int .i32 0, .int .i32 0, .int .i32 0, .int .i32 0, .int .i32 0, .int .i32 0, .int .i32 0, .int .i32 0, .int .i32 0, .int .i32 0, .int .i32 0, .int .i32 0, .int .i32 0, .int .i32 0] 27)).setRow w2.heap.size (cellsR r).toArray = Y := ⟨_, rfl⟩
    rw [hY]
    have bY : Below wr.heap.size wr Y := hY ▸ below_setRow (hb2.alloc hb2.size _) hb2.size _
    have kY : RBox Y w2.heap.size 27 r := hY ▸ RBox.row (z := zeroR) (heap_alloc_new _ _)
    obtain ⟨b10, hb10⟩ : ∃ b10, w2.heap.size = b10 := ⟨_, rfl⟩
    rw [hb10] at kY
    rw [hb10]
    have L10 := Lib.hid (show wr.heap.size ≤ b10 by rw [← hb10]; exact hb2.size)
    have KR := Lib.hid kY
    have HAY := Lib.hid (HAN.out.below bY)
    have BY := Lib.hid bY
    obtain ⟨y1, y2, y3, y4, y5⟩ := HAY.out.lt
    obtain ⟨-, -, v2, v3, v4⟩ := HAY.out.cells
    rw [HN.out] at v2 v3 v4
    obtain ⟨v5, v5f⟩ := HAY.out.reachAt (t := tn) (by rw [HN.out]; exact htn)
    have l10 : b10 < Y.heap.size := kY.lt
    clear hY bY kY hb10 hb2 x0
    rcases hre : sj.1.reach.getD tn false with _ | _
    ·rw [hre] at v5
     have HRE := Lib.hid hre
     clear hre
     go_upto_region 11 with fail
     obtain ⟨ne1, ne2, ne3, -, -, -, ne7, ne8, ne9⟩ := HAY.out.ne
     have hq := HAN.out.lt
     have nb1 : b10 ≠ rb := by have := L10.out; omega
     have nb2 : b10 ≠ ib := by have := L10.out; omega
     have hrg10 := KR.out.range
     have hth := HAY.out.there (t := tn) (by rw [HN.out]; exact htn)
     have hu27 := Tryd.underlying27
     have hi27 : (Tryd.prog.info? 27).map (·.size) = some (cellsR r).length := hi3 R16.out.len
     have hl27 : (cellsR r).length = 32 := by rw [cellsR_len, R16.out.len]
     have ho27 := cellsR_ones r
     go_cut [5] from 54 to 66 (fun a5 wx => a5 = .pointer (some ⟨b5, 0, none⟩) ∧ ∃ wy, Below Y.heap.size Y wy ∧ wx = (wy.setCell ⟨rb, tn, none⟩ (.bool true)).setCells ib (tn * 32) (cellsR r))
     case first =>
      go_region_held3 (fun w' => (∀ b o, b < Y.heap.size → b ≠ rb → b ≠ ib → w'.cell? ⟨b, o, none⟩ = Y.cell? ⟨b, o, none⟩) ∧ w'.rangeAt b10 0 (cellsR r) ∧ w'.there ib (tn * 32) 32 ∧ Fr (fun k => k = rb ∨ k = ib) Y w') ((exact keepS l10 nb1 nb2 hrg10 (by (repeat (first | (with_reducible exact Fr.refl _ _) | (with_reducible refine Fr.drew ?_) | (with_reducible refine Fr.set ?_ _ (.inl (by simp))) | (with_reducible refine Fr.setCells ?_ _ (.inl (by simp)))))) (by (repeat (first | (with_reducible exact hth) | (with_reducible refine there_drew ?_) | (with_reducible refine there_set ?_) | (with_reducible refine World.there_setCells ?_ _ _ _)))))) (fail)
      all_goals (go_wp2_with fail; go_meet)
      case rel => exact ⟨rfl, Y.drew, Below.drew (Below.refl _ _), rfl⟩
     case rest =>
      obtain ⟨rfl, wy, hby, hwy⟩ := hcut
      obtain ⟨hA1, hF1⟩ := HAY.out.first hby (by rw [HN.out]; exact htn) R16.out HRE.out
      rw [← hwy] at hA1 hF1
      obtain ⟨W3, hW3⟩ : ∃ W3 : World, W3 = wc := ⟨_, rfl⟩
      subst hW3
      have HA1 := Lib.hid hA1
      have HF1 := Lib.hid hF1
      have KB3 := Lib.hid (show RBox W3 b5 27 aft from (hF1.block b5 (by have := (KB.out.keep BY.out).lt; exact this) (by have := HA.out.lt; have := L5.out; unfold An3; omega)).trans (KB.out.keep BY.out))
      clear hwy hby hA1 hF1 hrg10 hth hu27 hi27 hl27 ho27 hq v2 v3 v4 v5 v5f
      go_wp2_with fail
      go_roundw
      case rel =>
       have e2 : (stepE sj.1 tn (some r)).2 = true := by unfold stepE; simp only; rw [if_pos HRE.out]
       refine ⟨j + 1, by omega, by go_num, ?_, ?_, (HFR.out.trans (Fr.of BY.out)).trans HF1.out, KB3.out⟩
       ·rw [HST.out, e2]; simp
       ·rw [HST.out]; exact HA1.out
      case measure => simp [intOf]; omega
    ·rw [hre] at v5
     have HRE := Lib.hid hre
     clear hre
     go_upto_region 13 with fail
     obtain ⟨ne1, ne2, ne3, -, -, -, ne7, ne8, ne9⟩ := HAY.out.ne
     obtain ⟨cur, hcur⟩ : ∃ cur, sj.1.inn.getD tn [] = cur := ⟨_, rfl⟩
     have c16 : Go.Proofs.YtebklpnkcicpjaaDoor.R16 cur := by rw [← hcur]; exact HAY.out.asi.get (by rw [HN.out]; exact htn)
     have hrgi := HAY.out.inAt (t := tn) (by rw [HN.out]; exact htn)
     rw [hcur] at hrgi
     have C16 := Lib.hid c16
     have HCUR := Lib.hid hcur
     have hrg10 := KR.out.range
     have hth10 : ∀ W : World, (W.alloc (.cells #[.int .i32 0, .int .i32 0, .int .i32 0, .int .i32 0, .int .i32 0, .int .i32 0, .int .i32 0, .int .i32 0, .int .i32 0, .int .i32 0, .int .i32 0, .int .i32 0, .int .i32 0, .int .i32 0, .int .i32 0, .int .i32 0, .int .i32 0, .int .i32 0, .int .i32 0, .int .i32 0, .int .i32 0, .int .i32 0, .int .i32 0, .int .i32 0, .int .i32 0, .int .i32 0, .int .i32 0, .int .i32 0, .int .i32 0, .int .i32 0, .int .i32 0, .int .i32 0] 27)).there W.heap.size 0 32 := there_new
     obtain ⟨jr, hjr⟩ : ∃ jr, List.zipWith joinI cur r = jr := ⟨_, rfl⟩
     have j16 : Go.Proofs.YtebklpnkcicpjaaDoor.R16 jr := by rw [← hjr]; exact c16.join R16.out
     have HJ := Lib.hid (show joinR cur r = jr from hjr)
     have J16 := Lib.hid j16
     have hco := fun W => combine_any 24 joinI (fun _ _ => by kernel_rfl) join_any cur r c16.len R16.out.len W
     rw [hjr] at hco
     have HCO := Lib.hid hco
     have hu27 := Tryd.underlying27
     have hi27 : (Tryd.prog.info? 27).map (·.size) = some (cellsR r).length := hi3 R16.out.len
     have hi28 : (Tryd.prog.info? 27).map (·.size) = some (cellsR cur).length := hi3 c16.len
     have hi29 : (Tryd.prog.info? 27).map (·.size) = some (cellsR jr).length := hi3 j16.len
     have hl27 : (cellsR jr).length = 32 := by rw [cellsR_len, j16.len]
     have ho27 := cellsR_ones jr
     clear hcur c16 hjr j16 hco
     go_cut [12] from 67 to 75 (fun a12 wx => ∃ g, a12 = .pointer (some ⟨g, 0, none⟩) ∧ Y.heap.size ≤ g ∧ RBox wx g 27 jr ∧ Below Y.heap.size Y wx)
     case first =>
      refine wp_region_held_drew (S := fun w' => (∀ b o, b < Y.heap.size → w'.cell? ⟨b, o, none⟩ = Y.cell? ⟨b, o, none⟩) ∧ w'.rangeAt b10 0 (cellsR r) ∧ w'.rangeAt ib (tn * 32) (cellsR cur) ∧ Below Y.heap.size Y w') (by kernel_rfl) ?_ (fun hHeld => ?_)
      ·exact keepB l10 y4 hrg10 hrgi (by (repeat (first | (with_reducible assumption) | (with_reducible exact Below.refl _ _) | (with_reducible refine Below.drew ?_) | (with_reducible refine Below.alloc ?_ (by first | exact Nat.le_refl _ | (simp; done) | (simp; omega)) _) | (with_reducible refine Below.setCells' ?_ (by first | exact Nat.le_refl _ | omega | (simp; done) | (simp; omega)) _ _))))
      refine wpAnyH_take (i := 0) (oi := _) (v := ?_) rfl (by kernel_rfl) (by kernel_rfl) (by kernel_rfl) (fun _ _ _ h => h) (Or.inl ⟨by rfl, ?_⟩) hHeld ?_
      rotate_left
      ·intro w hSw
       (try dsimp only at hSw)
       go_simp
       (try with_reducible rfl)
      (try simp only [List.getElem_toArray, List.getElem_cons_zero, List.getElem_cons_succ, Act.put, List.setIfInBounds_toArray, List.set_cons_zero, List.set_cons_succ])
      refine wpAnyH_take (i := 1) (oi := _) (v := ?_) rfl (by kernel_rfl) (by kernel_rfl) (by kernel_rfl) (fun _ _ _ h => h) (Or.inl ⟨by rfl, ?_⟩) hHeld ?_
      rotate_left
      ·intro w hSw
       (try dsimp only at hSw)
       go_simp
       (try with_reducible rfl)
      (try simp only [List.getElem_toArray, List.getElem_cons_zero, List.getElem_cons_succ, Act.put, List.setIfInBounds_toArray, List.set_cons_zero, List.set_cons_succ])
      refine wpAnyH_take (i := 2) (oi := _) (v := ?_) rfl (by kernel_rfl) (by kernel_rfl) (by kernel_rfl) (fun _ _ _ h => h) (Or.inl ⟨by rfl, ?_⟩) hHeld ?_
      rotate_left
      ·intro w hSw
       (try dsimp only at hSw)
       go_simp
       (try with_reducible rfl)
      (try simp only [List.getElem_toArray, List.getElem_cons_zero, List.getElem_cons_succ, Act.put, List.setIfInBounds_toArray, List.set_cons_zero, List.set_cons_succ])
      refine wpAnyH_take (i := 3) (oi := _) (v := ?_) rfl (by kernel_rfl) (by kernel_rfl) (by kernel_rfl) (fun _ _ _ h => h) (Or.inl ⟨by rfl, ?_⟩) hHeld ?_
      rotate_left
      ·intro w hSw
       (try dsimp only at hSw)
       go_simp
       (try with_reducible rfl)
      (try simp only [List.getElem_toArray, List.getElem_cons_zero, List.getElem_cons_succ, Act.put, List.setIfInBounds_toArray, List.set_cons_zero, List.set_cons_succ])
      refine wpAnyH_take (i := 4) (oi := _) (v := ?_) rfl (by kernel_rfl) (by kernel_rfl) (by kernel_rfl) (fun _ _ _ h => h) (Or.inl ⟨by rfl, ?_⟩) hHeld ?_
      rotate_left
      ·intro w hSw
       (try dsimp only at hSw)
       go_simp
       (try with_reducible rfl)
      (try simp only [List.getElem_toArray, List.getElem_cons_zero, List.getElem_cons_succ, Act.put, List.setIfInBounds_toArray, List.set_cons_zero, List.set_cons_succ])
      refine wpAnyH_take (i := 5) (oi := _) (v := ?_) rfl (by kernel_rfl) (by kernel_rfl) (by kernel_rfl) (fun _ _ _ h => h) (Or.inl ⟨by rfl, ?_⟩) hHeld ?_
      rotate_left
      ·intro w hSw
       (try dsimp only at hSw)
       go_simp
       (try with_reducible rfl)
      (try simp only [List.getElem_toArray, List.getElem_cons_zero, List.getElem_cons_succ, Act.put, List.setIfInBounds_toArray, List.set_cons_zero, List.set_cons_succ])
      refine wpAnyH_take (i := 6) (oi := _) (v := _) rfl (by kernel_rfl) (by kernel_rfl) (by kernel_rfl) (fun _ _ _ h => h) (yieldsIf_load_mid (by rfl) _ _ rfl _ _ rfl (cellsR cur) _ (fun w hSw => hSw.2.2.1) hu27 rfl hi28) hHeld ?_
      (try simp only [List.getElem_toArray, List.getElem_cons_zero, List.getElem_cons_succ, Act.put, List.setIfInBounds_toArray, List.set_cons_zero, List.set_cons_succ])
      refine wpAnyH_take (i := 7) (oi := _) (v := _) rfl (by kernel_rfl) (by kernel_rfl) (by kernel_rfl) (fun _ _ _ h => h) (yieldsIf_load_mid (by rfl) _ _ rfl _ _ rfl (cellsR r) _ (fun w hSw => hSw.2.1) hu27 rfl hi27) hHeld ?_
      (try simp only [List.getElem_toArray, List.getElem_cons_zero, List.getElem_cons_succ, Act.put, List.setIfInBounds_toArray, List.set_cons_zero, List.set_cons_succ])
      have hsz32 : (cellsR jr).toArray.size = 32 := by rw [List.size_toArray]; exact hl27
      have hi30 : (Tryd.prog.info? 27).map (·.size) = some (cellsR jr).toArray.size := by rw [List.size_toArray]; exact hi29
      refine wpAnyH_ready (rs := [8, 9]) (by kernel_rfl) (by simp) ?_
      refine AllReadyH.cons (o := _) rfl (fun K hK => ?_) ?_
      ·go_simp
       go_at_call 62
       refine (HCO.out _).mono ?_
       rintro e w3 ⟨rfl, hb3⟩
       have hk3 : Below Y.heap.size Y w3 := Below.trans (Below.drew (Below.refl _ _)) (Below.mono hb3 (Nat.le_refl _))
       refine hK.out _ _ (keepB l10 y4 hrg10 hrgi hk3) (fun hHeld => ?_)
       clear hK K
       (try simp only [List.getElem_toArray, List.getElem_cons_zero, List.getElem_cons_succ, Act.put, List.setIfInBounds_toArray, List.set_cons_zero, List.set_cons_succ])
       refine wpAnyH_ready (rs := [9]) (by kernel_rfl) (by simp) ?_
       refine AllReadyH.cons (o := _) rfl (fun K hK => ?_) AllReadyH.nil
       go_simp
       refine hK.out _ _ (keepB l10 y4 hrg10 hrgi (hk3.alloc hk3.size _)) (fun hHeld => ?_)
       clear hK K
       (try simp only [List.getElem_toArray, List.getElem_cons_zero, List.getElem_cons_succ, Act.put, List.setIfInBounds_toArray, List.set_cons_zero, List.set_cons_succ])
       refine wpAnyH_ready (rs := [10]) (by kernel_rfl) (by simp) ?_
       refine AllReadyH.cons (o := _) rfl (fun K hK => ?_) AllReadyH.nil
       rw [if_pos (by rfl)]
       refine wp_store_mid _ _ _ rfl _ _ (cellsR jr).toArray rfl rfl (by rw [hsz32]; exact hth10 w3) hi30 (all_oneCell_toArray ho27) ?_
       refine hK.out _ _ (keepB l10 y4 hrg10 hrgi (Below.setCells' (hk3.alloc hk3.size _) hk3.size _ _)) (fun hHeld => ?_)
       clear hK K
       (try simp only [List.getElem_toArray, List.getElem_cons_zero, List.getElem_cons_succ, Act.put, List.setIfInBounds_toArray, List.set_cons_zero, List.set_cons_succ])
       refine wpAnyH_done (by kernel_rfl) ?_ _
       go_wp2_with fail
       go_meet
       case rel => exact ⟨_, rfl, hk3.size, box_set (z := zeroR) (heap_alloc_new _ _) zero16 J16.out.len, Below.setCells' (hk3.alloc hk3.size _) hk3.size _ _⟩
      refine AllReadyH.cons (o := _) rfl (fun K hK => ?_) AllReadyH.nil
      go_simp
      have hk2 : Below Y.heap.size Y (Y.drew.alloc (.cells #[.int .i32 0, .int .i32 0, .int .i32 0, .int .i32 0, .int .i32 0, .int .i32 0, .int .i32 0, .int .i32 0, .int .i32 0, .int .i32 0, .int .i32 0, .int .i32 0, .int .i32 0, .int .i32 0, .int .i32 0, .int .i32 0, .int .i32 0, .int .i32 0, .int .i32 0, .int .i32 0, .int .i32 0, .int .i32 0, .int .i32 0, .int .i32 0, .int .i32 0, .int .i32 0, .int .i32 0, .int .i32 0, .int .i32 0, .int .i32 0, .int .i32 0, .int .i32 0] 27)) := (Below.drew (Below.refl _ _)).alloc (Nat.le_refl _) _
      refine hK.out _ _ (keepB l10 y4 hrg10 hrgi hk2) (fun hHeld => ?_)
      clear hK K
      (try simp only [List.getElem_toArray, List.getElem_cons_zero, List.getElem_cons_succ, Act.put, List.setIfInBounds_toArray, List.set_cons_zero, List.set_cons_succ])
      refine wpAnyH_ready (rs := [8]) (by kernel_rfl) (by simp) ?_
      refine AllReadyH.cons (o := _) rfl (fun K hK => ?_) AllReadyH.nil
      go_simp
      go_at_call 62
      refine (HCO.out _).mono ?_
      rintro e w3 ⟨rfl, hb3⟩
      have hk3 : Below Y.heap.size Y w3 := hk2.trans (hb3.mono hk2.size)
      have hz3 : RBox w3 Y.heap.size 27 zeroR := (hb3.block _ (by simp)).trans (heap_alloc_new Y.drew _)
      refine hK.out _ _ (keepB l10 y4 hrg10 hrgi hk3) (fun hHeld => ?_)
      clear hK K
      (try simp only [List.getElem_toArray, List.getElem_cons_zero, List.getElem_cons_succ, Act.put, List.setIfInBounds_toArray, List.set_cons_zero, List.set_cons_succ])
      refine wpAnyH_ready (rs := [10]) (by kernel_rfl) (by simp) ?_
      refine AllReadyH.cons (o := _) rfl (fun K hK => ?_) AllReadyH.nil
      rw [if_pos (by rfl)]
      refine wp_store_mid _ _ _ rfl _ _ (cellsR jr).toArray rfl rfl (by rw [hsz32]; exact there_box hz3) hi30 (all_oneCell_toArray ho27) ?_
      refine hK.out _ _ (keepB l10 y4 hrg10 hrgi (Below.setCells' hk3 (Nat.le_refl _) _ _)) (fun hHeld => ?_)
      clear hK K
      (try simp only [List.getElem_toArray, List.getElem_cons_zero, List.getElem_cons_succ, Act.put, List.setIfInBounds_toArray, List.set_cons_zero, List.set_cons_succ])
      refine wpAnyH_done (by kernel_rfl) ?_ _
      go_wp2_with fail
      go_meet
      case rel => exact ⟨_, rfl, Nat.le_refl _, box_set hz3 zero16 J16.out.len, Below.setCells' hk3 (Nat.le_refl _) _ _⟩
     obtain ⟨g2, rfl, hg2, kg2, bg2⟩ := hcut
     obtain ⟨W4, hW4⟩ : ∃ W4 : World, W4 = wc := ⟨_, rfl⟩
     subst hW4
     clear hrg10 hrgi hth10 hu27 hi27 hi28 hi29 hl27 ho27
     have HA4 := Lib.hid (HAY.out.below bg2)
     obtain ⟨q1, q2, q3, q4, q5⟩ := HA4.out.lt
     obtain ⟨-, -, p2, p3, p4⟩ := HA4.out.cells
     rw [HN.out] at p2 p3 p4
     have hrgi := HA4.out.inAt (t := tn) (by rw [HN.out]; exact htn)
     rw [HCUR.out] at hrgi
     have KG := Lib.hid kg2
     have BG := Lib.hid bg2
     have HRI := Lib.hid hrgi
     have LDA := Lib.hid (show ∀ w', (∃ x : Ext W4, w' = x.w) → w'.rangeAt g2 0 (cellsR jr) from by rintro _ ⟨x, rfl⟩; exact (KG.out.keep x.h).range)
     have LDB := Lib.hid (show ∀ w', (∃ x : Ext W4, w' = x.w) → w'.rangeAt ib (tn * 32) (cellsR cur) from by rintro _ ⟨x, rfl⟩; exact fun j v hv => (x.h.cell (p := ⟨ib, tn * 32 + j, none⟩) q4).trans (HRI.out j v hv))
     clear kg2 bg2 hrgi v2 v3 v4 v5 v5f
     go_upto_region 14 with fail
     by_cases hjc : jr = cur
     ·have heq : ∀ w, (binOp .eql 27 (.agg (cellsR jr).toArray) (.agg (cellsR cur).toArray)).run Tryd.prog w = .ok (.bool true) w := fun w => by
       have := eq_regs J16.out.len C16.out.len w
       rwa [show decide (jr = cur) = true from decide_eq_true hjc] at this
      have HE := Lib.hid (show stepE sj.1 tn (some r) = (sj.1, false) by
       unfold stepE
       simp only
       rw [if_neg (by rw [HRE.out]; simp), if_pos (by rw [HCUR.out, HJ.out]; exact hjc)])
      clear hjc
      refine wp_region_ext (by kernel_rfl) (by kernel_rfl) ?_
      repeat (first | (refine wpQuiet_load (by first | rfl | kernel_rfl) _ _ rfl _ _ rfl (cellsR jr) _ LDA.out Tryd.underlying27 rfl (hi3 J16.out.len) ?_; (try simp only [List.getElem_toArray, List.getElem_cons_zero, List.getElem_cons_succ, Act.put, List.setIfInBounds_toArray, List.set_cons_zero, List.set_cons_succ])) | (refine wpQuiet_load (by first | rfl | kernel_rfl) _ _ rfl _ _ rfl (cellsR cur) _ LDB.out Tryd.underlying27 rfl (hi3 C16.out.len) ?_; (try simp only [List.getElem_toArray, List.getElem_cons_zero, List.getElem_cons_succ, Act.put, List.setIfInBounds_toArray, List.set_cons_zero, List.set_cons_succ])) | (go_big_quiet_step (fail)))
      refine wpQuiet_nil ?_
      rintro _ ⟨x2, rfl⟩
      go_wp2_with fail
      go_roundw
      case rel =>
       have bb : Below wr.heap.size wr x2.w := BY.out.trans ((BG.out.trans (x2.h.mono BG.out.size)).mono BY.out.size)
       refine ⟨j + 1, by omega, by go_num, ?_, ?_, HFR.out.trans (Fr.of bb), KB.out.keep bb⟩
       ·rw [HST.out, HE.out]; simp
       ·rw [HST.out, HE.out]; exact HAN.out.below bb
      case measure => simp [intOf]; omega
     ·have heq : ∀ w, (binOp .eql 27 (.agg (cellsR jr).toArray) (.agg (cellsR cur).toArray)).run Tryd.prog w = .ok (.bool false) w := fun w => by
       have := eq_regs J16.out.len C16.out.len w
       rwa [show decide (jr = cur) = false from decide_eq_false hjc] at this
      have HNE := Lib.hid (show joinR (sj.1.inn.getD tn []) r ≠ sj.1.inn.getD tn [] by rw [HCUR.out, HJ.out]; exact hjc)
      clear hjc
      refine wp_region_ext (by kernel_rfl) (by kernel_rfl) ?_
      repeat (first | (refine wpQuiet_load (by first | rfl | kernel_rfl) _ _ rfl _ _ rfl (cellsR jr) _ LDA.out Tryd.underlying27 rfl (hi3 J16.out.len) ?_; (try simp only [List.getElem_toArray, List.getElem_cons_zero, List.getElem_cons_succ, Act.put, List.setIfInBounds_toArray, List.set_cons_zero, List.set_cons_succ])) | (refine wpQuiet_load (by first | rfl | kernel_rfl) _ _ rfl _ _ rfl (cellsR cur) _ LDB.out Tryd.underlying27 rfl (hi3 C16.out.len) ?_; (try simp only [List.getElem_toArray, List.getElem_cons_zero, List.getElem_cons_succ, Act.put, List.setIfInBounds_toArray, List.set_cons_zero, List.set_cons_succ])) | (go_big_quiet_step (fail)))
      refine wpQuiet_nil ?_
      rintro _ ⟨x2, rfl⟩
      obtain ⟨p6, p6f⟩ := HA4.out.repAt (t := tn) (by rw [HN.out]; exact htn)
      have hrep := HA4.out.asi.repAt (t := tn) (by rw [HN.out]; exact htn)
      obtain ⟨rp, hrp⟩ : ∃ rp, sj.1.rep.getD tn 0 = rp := ⟨_, rfl⟩
      rw [hrp] at p6 hrep
      have HRP := Lib.hid hrp
      have hrp2 : rp ≤ 70000000 := by rw [HN.out] at hrep; omega
      have hrp3 : 0 ≤ rp := hrep.1
      have wrp : IntKind.i64.wrap (rp + 1) = rp + 1 := IntWalk.i64_in _ (by omega)
      clear hrp hrep
      by_cases hge : 2 ≤ rp
      ·have dge : decide (2 ≤ rp) = true := decide_eq_true hge
       obtain ⟨nr, hnr⟩ : ∃ nr, List.zipWith widenI cur jr = nr := ⟨_, rfl⟩
       have n16 : Go.Proofs.YtebklpnkcicpjaaDoor.R16 nr := by rw [← hnr]; exact C16.out.widen J16.out
       have hcw := fun W => combine_any 63 widenI (fun _ _ => by kernel_rfl) widen_any cur jr C16.out.len J16.out.len W
       rw [hnr] at hcw
       have HCW := Lib.hid hcw
       have N16 := Lib.hid n16
       have HNR := Lib.hid (show (if 2 ≤ sj.1.rep.getD tn 0 then widenR (sj.1.inn.getD tn []) (joinR (sj.1.inn.getD tn []) r) else joinR (sj.1.inn.getD tn []) r) = nr by rw [HRP.out, if_pos hge, HCUR.out, HJ.out]; exact hnr)
       clear hcw n16 hnr hge
       go_upto_region 16 with fail
       refine wp_region_extq_tail 9 (by kernel_rfl) (by kernel_rfl) ?_
       simp only [List.take_succ_cons, List.take_zero, List.drop_succ_cons, List.drop_zero]
       repeat (first | (refine wpQuiet_load (by first | rfl | kernel_rfl) _ _ rfl _ _ rfl (cellsR jr) _ LDA.out Tryd.underlying27 rfl (hi3 J16.out.len) ?_; (try simp only [List.getElem_toArray, List.getElem_cons_zero, List.getElem_cons_succ, Act.put, List.setIfInBounds_toArray, List.set_cons_zero, List.set_cons_succ])) | (refine wpQuiet_load (by first | rfl | kernel_rfl) _ _ rfl _ _ rfl (cellsR cur) _ LDB.out Tryd.underlying27 rfl (hi3 C16.out.len) ?_; (try simp only [List.getElem_toArray, List.getElem_cons_zero, List.getElem_cons_succ, Act.put, List.setIfInBounds_toArray, List.set_cons_zero, List.set_cons_succ])) | (go_big_quiet_step (exact Calls.extq (HCW.out _))))
       refine wpQuiet_nil ?_
       rintro _ ⟨x3, rfl⟩
       go_upto_region 17 with (refine wpList_store_row rfl 27 (.tmp 12) (.tmp 101) rfl g2 (cellsR nr).toArray rfl rfl 27 _ (KG.out.keep x3.h) (hi4 N16.out.len) (hi6 N16.out.len J16.out.len) (cellsR_one nr) ?_)
       obtain ⟨Z1, hZ1⟩ : ∃ Z1, x3.w.setRow g2 (cellsR nr).toArray = Z1 := ⟨_, rfl⟩
       rw [hZ1]
       (try simp only [Act.put])
       have bZ1 : Below Y.heap.size Y Z1 := hZ1 ▸ below_setRow (BG.out.trans (x3.h.mono BG.out.size)) hg2 _
       have kZ1 : RBox Z1 g2 27 nr := hZ1 ▸ RBox.row (KG.out.keep x3.h)
       clear hZ1 heq dge
       have HZ1 := Lib.hid (HAY.out.below bZ1)
       obtain ⟨r1, r2, r3, r4, r5⟩ := HZ1.out.lt
       obtain ⟨-, -, -, s3, s4⟩ := HZ1.out.cells
       rw [HN.out] at s3 s4
       have KZ1 := Lib.hid kZ1
       have BZ1 := Lib.hid bZ1
       have lg2 : g2 < Z1.heap.size := kZ1.lt
       have LDC := Lib.hid (show ∀ w', (∃ x : Ext Z1, w' = x.w) → w'.rangeAt g2 0 (cellsR nr) from by rintro _ ⟨x, rfl⟩; exact (KZ1.out.keep x.h).range)
       clear kZ1 bZ1 p2 p3 p4 p6 p6f q1 q2 q3 q4 q5
       refine wp_region_ext_tail 6 (by kernel_rfl) (by kernel_rfl) ?_
       simp only [List.take_succ_cons, List.take_zero, List.drop_succ_cons, List.drop_zero]
       repeat (first | (refine wpQuiet_load (by first | rfl | kernel_rfl) _ _ rfl _ _ rfl (cellsR nr) _ LDC.out Tryd.underlying27 rfl (hi3 N16.out.len) ?_; (try simp only [List.getElem_toArray, List.getElem_cons_zero, List.getElem_cons_succ, Act.put, List.setIfInBounds_toArray, List.set_cons_zero, List.set_cons_succ])) | (go_big_quiet_step (fail)))
       refine wpQuiet_nil ?_
       rintro _ ⟨x4, rfl⟩
       have HTH := Lib.hid (show x4.w.there ib (tn * 32) (cellsR nr).toArray.size by
        rw [List.size_toArray, cellsR_len, N16.out.len]
        exact ((HZ1.out.below x4.h).there (by rw [HN.out]; exact htn)))
       go_upto_region 18 with (refine wpList_store_mid rfl 27 (.tmp 108) (.tmp 107) rfl ib (tn * 32) (cellsR nr).toArray rfl rfl HTH.out (hi4 N16.out.len) (cellsR_one nr) ?_)
       (try simp only [Act.put])
       have bx4 : Below Y.heap.size Y x4.w := BZ1.out.trans (x4.h.mono BZ1.out.size)
       obtain ⟨hA5, hF5⟩ := HAY.out.again bx4 (by rw [HN.out]; exact htn) R16.out HRE.out HNE.out
       rw [HNR.out, HRP.out] at hA5 hF5
       obtain ⟨Z2, hZ2⟩ : ∃ Z2, x4.w.setCells ib (tn * 32) (cellsR nr) = Z2 := ⟨_, rfl⟩
       rw [hZ2] at hA5 hF5
       have f2 : Fr (fun k => k = ib) Z1 Z2 := hZ2 ▸ (Fr.of x4.h).setCells _ (.inl rfl)
       rw [show x4.w.setCells ib (tn * 32) (cellsR nr).toArray.toList = Z2 from hZ2]
       obtain ⟨m1, m2, m3, -, -, -, m7, m8, m9⟩ := HZ1.out.ne
       have t4 : Z2.cell? ⟨ab, 5, none⟩ = _ := (f2.cell 5 r1 m2).trans s4
       obtain ⟨p7, p7f⟩ := HZ1.out.repAt (t := tn) (by rw [HN.out]; exact htn)
       rw [HRP.out] at p7
       have t6 : Z2.cell? ⟨pb, tn, none⟩ = some (.int .i64 rp) := (f2.cell tn r5 (fun e => m9 e.symm)).trans p7
       have t7 : Z2.frozen? ⟨pb, tn, none⟩ = false := by
        have e := f2.block pb r5 (fun e => m9 e.symm)
        unfold World.frozen? at p7f ⊢
        rw [e]; exact p7f
       have u1 : ab < Z2.heap.size := by have := f2.size; omega
       have u5 : pb < Z2.heap.size := by have := f2.size; omega
       have HA5 := Lib.hid hA5
       have HF5 := Lib.hid hF5
       have KBY := Lib.hid (KB.out.keep BY.out)
       clear hZ2 hA5 hF5 f2 bx4 s3 s4 p7 p7f
       go_wp2_with fail
       go_roundw
       case rel =>
        have e2 : (stepE sj.1 tn (some r)).2 = true := by unfold stepE; simp only; rw [if_neg (by rw [HRE.out]; simp), if_neg HNE.out]
        refine ⟨j + 1, by omega, by go_num, ?_, ?_, (HFR.out.trans (Fr.of BY.out)).trans HF5.out, (HF5.out.block b5 KBY.out.lt (by have := HA.out.lt; have := L5.out; unfold An3; omega)).trans KBY.out⟩
        ·rw [HST.out, e2]; simp
        ·rw [HST.out]; exact HA5.out
       case measure => simp [intOf]; omega
      ·have dge : decide (2 ≤ rp) = false := decide_eq_false hge
       obtain ⟨nr, hnr⟩ : ∃ nr, jr = nr := ⟨_, rfl⟩
       have N16 := Lib.hid (show Go.Proofs.YtebklpnkcicpjaaDoor.R16 nr from hnr ▸ J16.out)
       have HNR := Lib.hid (show (if 2 ≤ sj.1.rep.getD tn 0 then widenR (sj.1.inn.getD tn []) (joinR (sj.1.inn.getD tn []) r) else joinR (sj.1.inn.getD tn []) r) = nr by rw [HRP.out, if_neg hge, HCUR.out, HJ.out]; exact hnr)
       have kZ1' : RBox x2.w g2 27 nr := hnr ▸ KG.out.keep x2.h
       clear hnr hge
       go_upto_region 17 with fail
       obtain ⟨Z1, hZ1⟩ : ∃ Z1, x2.w = Z1 := ⟨_, rfl⟩
       rw [hZ1]
       have bZ1 : Below Y.heap.size Y Z1 := hZ1 ▸ (BG.out.trans (x2.h.mono BG.out.size))
       have kZ1 : RBox Z1 g2 27 nr := hZ1 ▸ kZ1'
       clear hZ1 kZ1' heq dge
       have HZ1 := Lib.hid (HAY.out.below bZ1)
       obtain ⟨r1, r2, r3, r4, r5⟩ := HZ1.out.lt
       obtain ⟨-, -, -, s3, s4⟩ := HZ1.out.cells
       rw [HN.out] at s3 s4
       have KZ1 := Lib.hid kZ1
       have BZ1 := Lib.hid bZ1
       have lg2 : g2 < Z1.heap.size := kZ1.lt
       have LDC := Lib.hid (show ∀ w', (∃ x : Ext Z1, w' = x.w) → w'.rangeAt g2 0 (cellsR nr) from by rintro _ ⟨x, rfl⟩; exact (KZ1.out.keep x.h).range)
       clear kZ1 bZ1 p2 p3 p4 p6 p6f q1 q2 q3 q4 q5
       refine wp_region_ext_tail 6 (by kernel_rfl) (by kernel_rfl) ?_
       simp only [List.take_succ_cons, List.take_zero, List.drop_succ_cons, List.drop_zero]
       repeat (first | (refine wpQuiet_load (by first | rfl | kernel_rfl) _ _ rfl _ _ rfl (cellsR nr) _ LDC.out Tryd.underlying27 rfl (hi3 N16.out.len) ?_; (try simp only [List.getElem_toArray, List.getElem_cons_zero, List.getElem_cons_succ, Act.put, List.setIfInBounds_toArray, List.set_cons_zero, List.set_cons_succ])) | (go_big_quiet_step (fail)))
       refine wpQuiet_nil ?_
       rintro _ ⟨x4, rfl⟩
       have HTH := Lib.hid (show x4.w.there ib (tn * 32) (cellsR nr).toArray.size by
        rw [List.size_toArray, cellsR_len, N16.out.len]
        exact ((HZ1.out.below x4.h).there (by rw [HN.out]; exact htn)))
       go_upto_region 18 with (refine wpList_store_mid rfl 27 (.tmp 108) (.tmp 107) rfl ib (tn * 32) (cellsR nr).toArray rfl rfl HTH.out (hi4 N16.out.len) (cellsR_one nr) ?_)
       (try simp only [Act.put])
       have bx4 : Below Y.heap.size Y x4.w := BZ1.out.trans (x4.h.mono BZ1.out.size)
       obtain ⟨hA5, hF5⟩ := HAY.out.again bx4 (by rw [HN.out]; exact htn) R16.out HRE.out HNE.out
       rw [HNR.out, HRP.out] at hA5 hF5
       obtain ⟨Z2, hZ2⟩ : ∃ Z2, x4.w.setCells ib (tn * 32) (cellsR nr) = Z2 := ⟨_, rfl⟩
       rw [hZ2] at hA5 hF5
       have f2 : Fr (fun k => k = ib) Z1 Z2 := hZ2 ▸ (Fr.of x4.h).setCells _ (.inl rfl)
       rw [show x4.w.setCells ib (tn * 32) (cellsR nr).toArray.toList = Z2 from hZ2]
       obtain ⟨m1, m2, m3, -, -, -, m7, m8, m9⟩ := HZ1.out.ne
       have t4 : Z2.cell? ⟨ab, 5, none⟩ = _ := (f2.cell 5 r1 m2).trans s4
       obtain ⟨p7, p7f⟩ := HZ1.out.repAt (t := tn) (by rw [HN.out]; exact htn)
       rw [HRP.out] at p7
       have t6 : Z2.cell? ⟨pb, tn, none⟩ = some (.int .i64 rp) := (f2.cell tn r5 (fun e => m9 e.symm)).trans p7
       have t7 : Z2.frozen? ⟨pb, tn, none⟩ = false := by
        have e := f2.block pb r5 (fun e => m9 e.symm)
        unfold World.frozen? at p7f ⊢
        rw [e]; exact p7f
       have u1 : ab < Z2.heap.size := by have := f2.size; omega
       have u5 : pb < Z2.heap.size := by have := f2.size; omega
       have HA5 := Lib.hid hA5
       have HF5 := Lib.hid hF5
       have KBY := Lib.hid (KB.out.keep BY.out)
       clear hZ2 hA5 hF5 f2 bx4 s3 s4 p7 p7f
       go_wp2_with fail
       go_roundw
       case rel =>
        have e2 : (stepE sj.1 tn (some r)).2 = true := by unfold stepE; simp only; rw [if_neg (by rw [HRE.out]; simp), if_neg HNE.out]
        refine ⟨j + 1, by omega, by go_num, ?_, ?_, (HFR.out.trans (Fr.of BY.out)).trans HF5.out, (HF5.out.block b5 KBY.out.lt (by have := HA.out.lt; have := L5.out; unfold An3; omega)).trans KBY.out⟩
        ·rw [HST.out, e2]; simp
        ·rw [HST.out]; exact HA5.out
       case measure => simp [intOf]; omega
  ·obtain rfl : j = u := by omega
   have dl : decide ((j : Int) < (j : Int)) = false := by simp
   go_wp2_with fail
   go_ret
   have e := HVR.out
   rw [HU.out] at e
   rw [e]
   exact ⟨rfl, hAn, HFR.out⟩

end Go.Proofs.YtebklpnkcicpjaaDoor


