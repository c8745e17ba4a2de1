/-
  What is proved here: parts aFix, aVi, aAz0, aSmp, aSa, aAk.
-/
import Derived.Test.YtebklpnkcicpjaaGreatDoorXa
import Derived.Test.YtebklpnkcicpjaaGreatDoorXj
import Derived.Test.YtebklpnkcicpjaaGreatDoorXk
import Derived.BigRegion
import Derived.Deep.RegionHeld3
import Derived.Deep.DeepCutAuto
import Derived.Test.YtebklpnkcicpjaaGreatDoorXf
import Derived.Test.YtebklpnkcicpjaaGreatDoorXb
import Derived.Test.YtebklpnkcicpjaaGreatDoorXi
namespace Go.Proofs.YtebklpnkcicpjaaGreatDoor
set_option linter.unusedVariables false
set_option linter.unusedSimpArgs false
set_option maxRecDepth 100000
set_option maxHeartbeats 8000000
section
open Go.RowKit
def gJ (s : AS) (b : Nat) : RG := s.bH.getD b []
def zeros : List Int := List.replicate 16 0
structure Fx (n : Nat) (s : AS) : Prop where
 kH : wA n s
 z : ∀ b, b < n → rg (gJ s b) 0 = (0, 0)
 r0 : s.reach.getD 0 false = true
 c0 : Sl zeros (gJ s 0)
 un : ∀ b, b < n → s.reach.getD b false = false → gJ s b = aq
theorem Fy {i : aZ} {r a : RG} (h0 : 0 ≤ i.op) (hr : R16 r) (h : bT i r = some a) : rg a 0 = rg r 0 ∧ aC r = true := by
 unfold bT at h
 split at h
 ·rename_i hv
  refine ⟨?_, hv.2⟩
  obtain ⟨⟨a0, a1⟩, _⟩ := nJ h0 hv.1
  have key : ∀ x, rg (aW r i.a x) 0 = rg r 0 := fun x => by
   rw [nN a0 acn _ (Int.le_refl _), if_neg abo]
  (repeat' split at h) <;> first | (cases h; exact key _) | (cases h; rfl) | cases h
 ·cases h
theorem ru {i : aZ} {r a : RG} {t : Bool} (h0 : 0 ≤ i.op) (hr : R16 r) (h : dI i r t = some a) : rg a 0 = rg r 0 := by
 unfold dI at h
 split at h
 ·rename_i hv
  obtain ⟨⟨a0, a1⟩, _⟩ := nJ h0 hv.1
  have key : ∀ x, rg (aW r i.a x) 0 = rg r 0 := fun x => by
   rw [nN a0 acn _ (Int.le_refl _), if_neg abo]
  (repeat' split at h) <;> first | (cases h; exact key _) | (cases h; rfl) | cases h
 ·cases h
theorem zN {r m : RG} (hr : R16 r) (hm : R16 m) (h1 : rg r 0 = (0, 0)) (h2 : rg m 0 = (0, 0)) : rg (bF r m) 0 = (0, 0) := by
 have := qx hr hm (k := 0) abo
 rw [show ((0 : Nat) : Int) = 0 from rfl] at this
 rw [this, h1, h2]
 decide
theorem AY {r m : RG} (hr : R16 r) (hm : R16 m) (h1 : rg r 0 = (0, 0)) (h2 : rg m 0 = (0, 0)) : rg (dG r m) 0 = (0, 0) := by
 have := qY hr hm (k := 0) abo
 rw [show ((0 : Nat) : Int) = 0 from rfl] at this
 rw [this, h1, h2]
 decide
theorem FP : ∀ {l : List aZ} {r a : RG}, (∀ i ∈ l, 0 ≤ i.op) → R16 r → cQ l r = some a → rg a 0 = rg r 0
 | [], r, a, _, _, h => by cases h; rfl
 | i :: l, r, a, hl, hr, h => by
  unfold cQ at h
  split at h
  ·cases h
  ·rename_i r' e
   rw [FP (fun j hj => hl j (List.mem_cons_of_mem _ hj)) (gT (hl i (List.mem_cons_self ..)) hr e) h]
   exact (Fy (hl i (List.mem_cons_self ..)) hr e).1
theorem Kk {last : aZ} {m k : Nat} {r a : RG} (h0 : 0 ≤ last.op) (hr : R16 r) (hz : rg r 0 = (0, 0)) (h : dK last m k r = some a) : rg a 0 = (0, 0) := by
 unfold dK at h
 split at h
 ·cases h; exact hz
 split at h
 ·rw [ru h0 hr h]; exact hz
 ·split at h
  ·rw [ru h0 hr h]; exact hz
  ·rename_i e _
   cases h
   rw [ru h0 hr abN]; exact hz
  ·rename_i e1 e2
   cases h
   exact zN (dB hr e1) (dB hr e2) (by rw [ru h0 hr e1]; exact hz) (by rw [ru h0 hr e2]; exact hz)
theorem B9 {x y : Int × Int} (wx : aP x.1 ∧ aP x.2) (h : Sub x y) : Sub x (aO x y) := by
 unfold aP at wx
 unfold aO emp Sub at *
 by_cases h1 : x.2 < x.1
 ·exact .inl h1
 ·by_cases h2 : y.2 < y.1
  ·simp [h1, h2]
  ·simp only [h1, h2, decide_false, Bool.false_eq_true, if_false]
   right
   constructor <;> split <;> omega
def newR (s : AS) (t : Nat) (r : RG) : RG := if 2 ≤ s.rep.getD t 0 then dG (s.bH.getD t []) (bF (s.bH.getD t []) r) else bF (s.bH.getD t []) r
theorem Gr {n : Nat} {s : AS} (h : wA n s) {t : Nat} (ht : t < n) {r : RG} (hr : R16 r) : R16 (newR s t r) ∧ AK (s.bH.getD t []) (newR s t r) ∧ (rg (s.bH.getD t []) 0 = (0, 0) → rg r 0 = (0, 0) → rg (newR s t r) 0 = (0, 0)) := by
 have hg := h.get ht
 have hj := hg.join hr
 unfold newR
 split
 ·refine ⟨hg.qF hj, AK.of (fun k hk => ?_) hg (hg.qF hj), fun e1 e2 => AY hg hj e1 (zN hg hr e1 e2)⟩
  rw [qY hg hj hk]
  exact B9 (hg.at_ _) (xF hg hr _)
 ·exact ⟨hj, xF hg hr, fun e1 e2 => zN hg hr e1 e2⟩
theorem Fx.step {n : Nat} {s : AS} (h : Fx n s) {t : Nat} (ht : t < n) {o : Option RG} (ho : ∀ r, o = some r → R16 r ∧ rg r 0 = (0, 0)) : Fx n (cy s t o).1 := by
 have ha := (gW h.kH ht o (fun r hr => (ho r hr).1)).1
 cases o with
 | none => exact h
 | some r =>
  obtain ⟨h16, hz⟩ := ho r rfl
  unfold cy at ha ⊢
  simp only at ha ⊢
  have l1 := h.kH.l1
  have l2 := h.kH.l2
  by_cases h1 : s.reach.getD t false = false
  ·rw [if_pos h1] at ha ⊢
   have ht0 : t ≠ 0 := fun e => by rw [e, h.r0] at h1; cases h1
   refine ⟨ha, fun b hb => ?_, ?_, ?_, fun b hb hrb => ?_⟩
   ·unfold gJ
    simp only
    by_cases e : b = t
    ·subst e; rw [bL abo]; exact hz
    ·rw [aT e]; exact h.z b hb
   ·simp only; rw [aT (Ne.symm ht0)]; exact h.r0
   ·unfold gJ; simp only; rw [aT (Ne.symm ht0)]; exact h.c0
   ·unfold gJ
    simp only at hrb ⊢
    by_cases e : b = t
    ·subst e; rw [bL abo] at hrb; cases hrb
    ·rw [aT e] at hrb ⊢; exact h.un b hb hrb
  ·rw [if_neg h1] at ha ⊢
   by_cases h2 : bF (s.bH.getD t []) r = s.bH.getD t []
   ·rw [if_pos h2]; exact h
   ·rw [if_neg h2] at ha ⊢
    obtain ⟨n1, n2, n3⟩ := Gr h.kH ht h16
    refine ⟨ha, fun b hb => ?_, h.r0, ?_, fun b hb hrb => ?_⟩
    ·unfold gJ
     simp only
     by_cases e : b = t
     ·subst e; rw [bL abo]; exact n3 (h.z b hb) hz
     ·rw [aT e]; exact h.z b hb
    ·unfold gJ
     simp only
     by_cases e : t = 0
     ·subst e; rw [bL abo]; exact h.c0.sub n2
     ·rw [aT (Ne.symm e)]; exact h.c0
    ·unfold gJ
     simp only at hrb ⊢
     by_cases e : b = t
     ·subst e; exact absurd hrb h1
     ·rw [aT e]; exact h.un b hb hrb
theorem Fx.gN {n : Nat} {last : aZ} {nx : List Int} {bI : RG} (h0 : 0 ≤ last.op) (ha : R16 bI) (hz : rg bI 0 = (0, 0)) (gQ : ∀ t ∈ nx, 0 ≤ t ∧ t < n) {s : AS} (h : Fx n s) : ∀ k, k ≤ nx.length → Fx n (gN last nx bI s k).1
 | 0, _ => h
 | k + 1, hk => by
  simp only [Go.Proofs.YtebklpnkcicpjaaGreatDoor.gN]
  have hm : nx.getD k 0 ∈ nx := by
   rw [show nx.getD k 0 = nx[k]'abo by simp [List.getD, List.getElem?_eq_getElem (show k < nx.length by omega)]]
   exact List.getElem_mem _
  have := gQ _ hm
  exact (Fx.gN h0 ha hz gQ h k abo).step abo (fun r hr => ⟨lp ha hr, Kk h0 ha hz hr⟩)
structure Vv (n : Nat) (b : AB) : Prop where
 ok : K6 n b
 op : 0 ≤ b.last.op
 ops : ∀ i ∈ b.code, 0 ≤ i.op
theorem Fx.fS {n : Nat} {b : AB} (hb : Vv n b) (gQ : ∀ t ∈ b.nx, 0 ≤ t ∧ t < n) {s : AS} (h : Fx n s) {k : Nat} (hk : k < n) : Fx n (fS b k s).1 := by
 unfold Go.Proofs.YtebklpnkcicpjaaGreatDoor.fS
 split
 ·exact h
 ·rename_i bI e
  have hg := h.kH.get hk
  exact h.gN hb.op (jK hb.ops hg e) (by rw [FP hb.ops hg e]; exact h.z k hk) gQ _ (Nat.le_refl _)
theorem Fx.bQ {n : Nat} {B : List AB} (hB : ∀ b ∈ B, Vv n b ∧ ∀ t ∈ b.nx, 0 ≤ t ∧ t < n) (hl : B.length = n) {s : AS} (h : Fx n s) : ∀ k, k ≤ n → Fx n (bQ B s k).1
 | 0, _ => h
 | k + 1, hk => by
  simp only [Go.Proofs.YtebklpnkcicpjaaGreatDoor.bQ]
  have ih := Fx.bQ hB hl h k abo
  split
  ·have e : B.getD k ⟨[], []⟩ = B[k]'abo := by simp [List.getD, List.getElem?_eq_getElem (show k < B.length by omega)]
   have hm : B.getD k ⟨[], []⟩ ∈ B := by rw [e]; exact List.getElem_mem _
   exact ih.fS (hB _ hm).1 (hB _ hm).2 abo
  ·exact ih
end
section
open Go.RowKit
structure Vu (n : Nat) (b : AB) : Prop where
 f : Vv n b
 ne : b.code ≠ []
 tF : b.nx.length ≤ 1000
 nx : ∀ t ∈ b.nx, 0 ≤ t ∧ t < n
theorem An.nexts {V w : World} {ab cb rb ib pb : Nat} {bv pv : Value} {G : List dL} {B : List AB} {val : Nat → Value} {s : AS} (h : An V w ab cb rb ib pb bv pv G B val s) {k : Nat} {b : AB} (hk : B[k]? = some b) :
  ∃ g off cap nA cT, bv = .slice (some ⟨g, off, none⟩) B.length cap ∧ B.length ≤ cap ∧ cap ≤ 2 ^ 63 - 1 ∧ g < V.heap.size ∧ V.cell? ⟨g, off + k * 3 + 2, none⟩ = some (.slice nA b.nx.length cT) ∧ b.nx.length ≤ cT ∧ cT ≤ 2 ^ 63 - 1 ∧ ∀ j t, b.nx[j]? = some t → ∃ nb fT, nA = some ⟨nb, fT, none⟩ ∧ nb < V.heap.size ∧ V.cell? ⟨nb, fT + j, none⟩ = some (.int .i64 t) := by
 have pF := (List.getElem?_eq_some_iff.1 hk).1
 have TK := h.lG
 obtain ⟨A, cap, h1, h2, h3, h4⟩ := h.Nj
 obtain ⟨g, off, rfl, hg, hc⟩ := h4 abo
 obtain ⟨x, hx⟩ : ∃ x, G[k]? = some x := ⟨_, List.getElem?_eq_getElem abo⟩
 obtain ⟨_, _, nv, c2, hn⟩ := hc k x hx
 have e := h.Uk k x b hx hk
 rw [e] at hn
 obtain ⟨nA, cT, rfl, n2, n3, n4⟩ := hn
 rw [TK] at h1 h2
 refine ⟨g, off, cap, nA, cT, h1, h2, fX h3, hg, c2, n2, fX n3, fun j t hj => ?_⟩
 have hl := (List.getElem?_eq_some_iff.1 hj).1
 obtain ⟨nb, fT, ha, hb, hcc⟩ := n4 abo
 refine ⟨nb, fT, ha, hb, ?_⟩
 rw [hcc j hl, show b.nx.getD j 0 = t by simp [List.getD, hj]]
theorem Cs (last : aZ) (nx : List Int) (bI : RG) (s : AS) (k : Nat) : gN last nx bI s (k + 1) = ((cy (gN last nx bI s k).1 (nx.getD k 0).toNat (dK last nx.length k bI)).1, (gN last nx bI s k).2 || (cy (gN last nx bI s k).1 (nx.getD k 0).toNat (dK last nx.length k bI)).2) := rfl
theorem there_drew {w : World} {b o n : Nat} (h : w.there b o n) : w.drew.there b o n := h
theorem uj {w : World} {b o n c p : Nat} {v : Value} (h : w.there b o n) : (w.setCell ⟨c, p, none⟩ v).there b o n := by
 have := World.there_setCells h c p [v]
 exact this
theorem O4 {Y w' : World} {rb ib b10 o : Nat} {cs : List Value} (h1 : b10 < Y.heap.size) (n1 : b10 ≠ rb) (n2 : b10 ≠ ib) (hr : Y.rangeAt b10 0 cs) (hf : Fr (fun k => k = rb ∨ k = ib) Y w') (ht : w'.there ib o 32) :
  (∀ b o, b < Y.heap.size → b ≠ rb → b ≠ ib → w'.cell? ⟨b, o, none⟩ = Y.cell? ⟨b, o, none⟩) ∧ w'.rangeAt b10 0 cs ∧ w'.there ib o 32 ∧ Fr (fun k => k = rb ∨ k = ib) Y w' :=
 ⟨fun b o hb h2 h3 => hf.cell o hb (by simp [h2, h3]), fun j v hv => (hf.cell (0 + j) h1 (by simp [n1, n2])).trans (hr j v hv), ht, hf⟩
theorem dU {P : Program} {ops : Array Oper} {C : World → Prop} {Q : Act → Prop} {a : Act} {op : Oper} {rest : List Oper} (hw : Region.wanted op (yielded ops a.tmps) = true) (ty : TypeId) (x : Operand) (ho : op.op = .load ty x)
  (b o : Nat) (hx : a.eval x = .pointer (some ⟨b, o, none⟩)) (cs : List Value) (d : TypeDesc) (hc : ∀ w, C w → w.rangeAt b o cs)
  (hu : P.underlying ty = some d) (hd : d.isRow = true) (hi : (P.info? ty).map (·.size) = some cs.length) (h : wpQuiet P ops C Q rest (a.put op.dst (.agg cs.toArray))) : wpQuiet P ops C Q (op :: rest) a :=
 BigFrame.wpQuiet_want hw fun K hK => ⟨.agg cs.toArray, fun w hC => by
  unfold Oper.quietAt execOp
  simp only [ho, hx, Instr.loadAt, Instr.sureAddr, Sem.run_bind, Sem.run_pure, Result.andThen_ok, run_loadVar_mid w b o ty cs d (hc w hC) hu hd hi]
  exact ⟨rfl, rfl⟩, hK _ h⟩
theorem oO (W : World) : (W.alloc (.cells acM.toArray 56)).there W.heap.size 0 32 := fun j hj => by
 have h : (W.alloc (.cells acM.toArray 56)).heap[W.heap.size]? = some (.cells (aa aq).toArray 56 (0, 0)) := heap_alloc_new _ _
 have : 0 + j < (aa aq).length := by rw [ax]; simp [aq]; omega
 constructor
 ·simp only [World.cell?, h, List.getElem?_toArray, List.getElem?_eq_getElem this]
  rfl
 ·simp only [World.frozen?, h]
  simp
theorem fW {W : World} {g : Nat} {T : TypeId} {z : RG} (h : aH W g T z) : W.there g 0 (z.length * 2) := fun j hj => by
 unfold aH at h
 constructor
 ·have : 0 + j < (aa z).length := by rw [ax]; omega
  simp only [World.cell?, h]
  simp only [List.getElem?_toArray, List.getElem?_eq_getElem this]
  rfl
 ·simp [World.frozen?, h]
theorem rO {Y w' : World} {ib b10 o : Nat} {cs ds : List Value} (h1 : b10 < Y.heap.size) (h2 : ib < Y.heap.size) (hr : Y.rangeAt b10 0 cs) (hi : Y.rangeAt ib o ds) (hf : Below Y.heap.size Y w') :
  (∀ b o, b < Y.heap.size → w'.cell? ⟨b, o, none⟩ = Y.cell? ⟨b, o, none⟩) ∧ w'.rangeAt b10 0 cs ∧ w'.rangeAt ib o ds ∧ Below Y.heap.size Y w' :=
 ⟨fun b o hb => hf.cell (p := ⟨b, o, none⟩) hb, fun j v hv => (hf.cell (p := ⟨b10, 0 + j, none⟩) h1).trans (hr j v hv), fun j v hv => (hf.cell (p := ⟨ib, o + j, none⟩) h2).trans (hi j v hv), hf⟩
theorem gS {W : World} {g : Nat} {T : TypeId} {z r : RG} (h : aH W g T z) (hz : z.length = 16) (hr : r.length = 16) : aH (W.setCells g 0 (aa r)) g T r := by
 have h1 : (aa z).length = 32 := by rw [ax, hz]
 have h2 : (aa r).length = 32 := by rw [ax, hr]
 unfold aH at *
 rw [dN g T (aa r) 0 W (aa z) h abo, h2, List.drop_eq_nil_of_le abo]
 simp
theorem Below.aX {B : Nat} {w0 w : World} (h : Below B w0 w) {b : Nat} (hb : B ≤ b) (o : Nat) (vs : List Value) : Below B w0 (w.setCells b o vs) := by
 obtain ⟨h1, h2, h3, h4⟩ := ji b vs o w
 exact h.trans ⟨h1, h2, h3, by rw [h4]; exact Nat.le_refl _, fun k hk => aR b vs o w k abo⟩
theorem fc (r : RG) : ∀ v ∈ aa r, v.oneCell' = true := fun v hv => by
 unfold aa at hv
 obtain ⟨x, _, h⟩ := List.mem_flatMap.1 hv
 simp only [List.mem_cons, List.not_mem_nil, or_false] at h
 rcases h with rfl | rfl <;> rfl
theorem Cr {V w : World} {ab cb rb ib pb : Nat} {bv pv : Value} {G : List dL} {B : List AB} {val : Nat → Value} {s : AS} (h : An V w ab cb rb ib pb bv pv G B val s) {k : Nat} {b : AB} (hk : B[k]? = some b) (hb : Vu B.length b) (T : iU V) :
  Calls Tryz.prog 25 #[.pointer (some ⟨ab, 0, none⟩), .int .i64 (k : Int)] w fun e w' => e = .returned (.bool (fS b k s).2) ∧ An V w' ab cb rb ib pb bv pv G B val (fS b k s).1 ∧ Fr (uh rb ib pb) w w' := by
 have pF := (List.getElem?_eq_some_iff.1 hk).1
 have yE := h.lB
 have tJ := acD (uX h hk hb.ne hb.f.ops (T.below h.aF))
 rcases hr : cQ b.code (s.bH.getD k []) with _ | bI
 ·have HV := acD (show fS b k s = (s, false) by unfold fS; rw [hr])
  rw [hr] at tJ
  have HA := acD h
  clear h hr pF yE hk hb T
  go_enter Tryz.func25, Tryz.ntmps25
  go_wp2_with (first | (go_at_call 26; refine tJ.out.mono ?_; rintro e w1 ⟨rfl, hb1⟩; unfold cM) | (refine wpList_store_row rfl 56 (.tmp 5) (.tmp 17) rfl w1.heap.size (aa aq).toArray rfl rfl 56 _ (heap_alloc_new _ _) (hi4 ak) (hi6 ak ak) (aj aq) ?_))
  go_ret
  have bb : Below w.heap.size w ((w1.alloc (.cells acM.toArray 56)).setRow w1.heap.size (aa aq).toArray) := below_setRow (hb1.alloc hb1.size _) hb1.size _
  rw [HV.out]
  exact ⟨rfl, HA.out.below bb, Fr.of bb⟩
 have gv := acD (jK hb.f.ops (h.kH.get pF) hr)
 have ZQ := acD (show fS b k s = gN b.last b.nx bI s b.nx.length by unfold fS; rw [hr])
 rw [hr] at tJ
 obtain ⟨g, off, cj, nA, cT, nG, g1, g2, g3, nc, n1, n2, gQ⟩ := h.nexts hk
 obtain ⟨n, hn⟩ : ∃ n, B.length = n := ⟨_, rfl⟩
 obtain ⟨u, hu⟩ : ∃ u, b.nx.length = u := ⟨_, rfl⟩
 have dk : (k : Int) < (n : Int) := by omega
 have HA := acD h
 have yI := acD gQ
 have HN := acD hn
 have HU := acD hu
 have HK := acD hk
 have Me := acD hb
 have HT := acD T
 have Mf := acD nG
 have hul : u ≤ 1000 := by rw [← hu]; exact hb.tF
 rw [hn] at yE g1
 rw [hu] at nc n1
 have Z8 := acD nc
 clear h hr gQ hn hu hk hb T nG nc pF
 go_enter Tryz.func25, Tryz.ntmps25
 go_upto_region 2 with (first | (go_at_call 26; refine tJ.out.mono ?_; rintro e w1 ⟨rfl, hb1⟩; unfold cM) | (refine wpList_store_row rfl 56 (.tmp 5) (.tmp 17) rfl w1.heap.size (aa bI).toArray rfl rfl 56 _ (heap_alloc_new _ _) (hi4 gv.out.len) (hi6 gv.out.len ak) (aj bI) ?_))
 obtain ⟨X, hX⟩ : ∃ X, (w1.alloc (.cells acM.toArray 56)).setRow w1.heap.size (aa bI).toArray = X := ⟨_, rfl⟩
 rw [hX]
 have bX : Below w.heap.size w X := hX ▸ below_setRow (hb1.alloc hb1.size _) hb1.size _
 have kX : aH X w1.heap.size 56 bI := hX ▸ aH.row (z := aq) (heap_alloc_new _ _)
 obtain ⟨b5, hb5⟩ : ∃ b5, w1.heap.size = b5 := ⟨_, rfl⟩
 have L5 := acD (show w.heap.size ≤ b5 by rw [← hb5]; exact hb1.size)
 rw [hb5] at kX
 rw [hb5]
 have SS := acD (HA.out.below bX)
 have fZ := SS.out.aF
 have l1 : ab < X.heap.size := SS.out.lt.1
 have lg : g < X.heap.size := by have := fZ.size; omega
 have c0 : X.cell? ⟨ab, 0, none⟩ = some (.slice (some ⟨g, off, none⟩) n cj) := by rw [SS.out.cells.1, Mf.out, HN.out]
 have c1 : X.cell? ⟨g, off + k * 3 + 2, none⟩ = some (.slice nA u cT) := (fZ.cell (p := ⟨g, off + k * 3 + 2, none⟩) g3).trans Z8.out
 have BX := acD bX
 have KX := acD kX
 clear hX bX kX hb5 hb1 fZ
 go_upto_region 6 with fail
 clear c0 c1 l1 lg
 go_loopw [7, 31] (fun a7 a31 wr => ∃ j : Nat, j ≤ u ∧ a31 = .int .i64 (j : Int) ∧ a7 = .bool (gN b.last b.nx bI s j).2 ∧ An V wr ab cb rb ib pb bv pv G B val (gN b.last b.nx bI s j).1 ∧ Fr (uh rb ib pb) w wr ∧ aH wr b5 56 bI) (fun _ a31 _ => u - (intOf a31).toNat)
 case atStart => exact ⟨0, by omega, rfl, rfl, SS.out, Fr.of BX.out, KX.out⟩
 case round =>
  obtain ⟨j, hj, rfl, rfl, Ho, WE, hkb⟩ := hrel
  have NL := acD WE
  have KB := acD hkb
  have gK := acD hkb.range
  clear WE hkb
  by_cases hlt : j < u
  ·have dl : decide ((j : Int) < (u : Int)) = true := decide_eq_true abo
   obtain ⟨t, ht⟩ : ∃ t, b.nx[j]? = some t := ⟨_, List.getElem?_eq_getElem (by rw [HU.out]; exact hlt)⟩
   obtain ⟨nb, fT, rfl, hnb, Bo⟩ := yI.out j t ht
   have htb := Me.out.nx t (List.mem_of_getElem? ht)
   rw [HN.out] at htb
   obtain ⟨tn, rfl⟩ : ∃ tn : Nat, t = (tn : Int) := ⟨t.toNat, by omega⟩
   have htn : tn < n := by omega
   have dt : (tn : Int) < (n : Int) := by omega
   have hD := acD (show (b.nx.getD j 0).toNat = tn by simp [List.getD, ht])
   have fZ := Ho.aF
   have NY : nb < wr.heap.size := by have := fZ.size; omega
   have x0 : wr.cell? ⟨nb, fT + j, none⟩ = some (.int .i64 (tn : Int)) := (fZ.cell (p := ⟨nb, fT + j, none⟩) hnb).trans Bo
   obtain ⟨sj, hsj⟩ : ∃ sj, gN b.last b.nx bI s j = sj := ⟨_, rfl⟩
   have HSJ := acD hsj
   rw [hsj] at Ho
   rw [hsj]
   have oI := acD (x6 Ho HK.out Me.out.ne Me.out.tF Me.out.f.op j bI gv.out (HT.out.below fZ))
   have ug := acD Ho
   have hst := Cs b.last b.nx bI s j
   rw [hsj, hD.out] at hst
   have VF : w.heap.size ≤ wr.heap.size := NL.out.size
   clear ht Bo htb fZ Ho hsj
   rcases he : dK b.last b.nx.length j bI with _ | r
   ·rw [he] at oI hst
    have HST := acD hst
    clear he hst
    go_wp2_with (first | (refine wpList_load_mid rfl _ _ rfl _ _ rfl (aa bI) _ gK.out Tryz.underlying56 rfl (hi3 gv.out.len) ?_) | (go_at_call 27; refine oI.out.mono ?_; rintro e w2 ⟨rfl, hb2⟩; unfold cM) | (refine wpList_store_row rfl 56 (.tmp 10) (.tmp 42) rfl w2.heap.size (aa aq).toArray rfl rfl 56 _ (heap_alloc_new _ _) (hi4 ak) (hi6 ak ak) (aj aq) ?_))
    go_roundw
    case rel =>
     have bb : Below wr.heap.size wr ((w2.alloc (.cells acM.toArray 56)).setRow w2.heap.size (aa aq).toArray) := below_setRow (hb2.alloc hb2.size _) hb2.size _
     refine ⟨j + 1, by omega, by go_num, ?_, ?_, NL.out.trans (Fr.of bb), KB.out.keep bb⟩
     ·rw [HST.out]; simp [cy]
     ·rw [HST.out]; exact ug.out.below bb
    case measure => simp [intOf]; omega
   ·rw [he] at oI hst
    have HST := acD hst
    have R16 := acD (lp gv.out he)
    clear he hst
    go_upto_region 10 with (first | (refine wpList_load_mid rfl _ _ rfl _ _ rfl (aa bI) _ gK.out Tryz.underlying56 rfl (hi3 gv.out.len) ?_) | (go_at_call 27; refine oI.out.mono ?_; rintro e w2 ⟨rfl, hb2⟩; unfold cM) | (refine wpList_store_row rfl 56 (.tmp 10) (.tmp 42) rfl w2.heap.size (aa r).toArray rfl rfl 56 _ (heap_alloc_new _ _) (hi4 R16.out.len) (hi6 R16.out.len ak) (aj r) ?_))
    obtain ⟨Y, hY⟩ : ∃ Y, (w2.alloc (.cells acM.toArray 56)).setRow w2.heap.size (aa r).toArray = Y := ⟨_, rfl⟩
    rw [hY]
    have bY : Below wr.heap.size wr Y := hY ▸ below_setRow (hb2.alloc hb2.size _) hb2.size _
    have kY : aH Y w2.heap.size 56 r := hY ▸ aH.row (z := aq) (heap_alloc_new _ _)
    obtain ⟨b10, xT⟩ : ∃ b10, w2.heap.size = b10 := ⟨_, rfl⟩
    rw [xT] at kY
    rw [xT]
    have Xb := acD (show wr.heap.size ≤ b10 by rw [← xT]; exact hb2.size)
    have KR := acD kY
    have wE := acD (ug.out.below bY)
    have BY := acD bY
    obtain ⟨y1, y2, y3, y4, y5⟩ := wE.out.lt
    obtain ⟨-, -, v2, v3, v4⟩ := wE.out.cells
    rw [HN.out] at v2 v3 v4
    obtain ⟨v5, OD⟩ := wE.out.gO (t := tn) abG
    have l10 : b10 < Y.heap.size := kY.lt
    clear hY bY kY xT hb2 x0
    rcases mK : sj.1.reach.getD tn false with _ | _
    ·rw [mK] at v5
     have AR := acD mK
     clear mK
     go_upto_region 11 with fail
     obtain ⟨ne1, ne2, ne3, -, -, -, ne7, ne8, ne9⟩ := wE.out.ne
     have hq := ug.out.lt
     have nb1 : b10 ≠ rb := by have := Xb.out; omega
     have nb2 : b10 ≠ ib := by have := Xb.out; omega
     have k8 := KR.out.range
     have Bk := wE.out.there (t := tn) abG
     have G2 := Tryz.underlying56
     have DU : (Tryz.prog.info? 56).map (·.size) = some (aa r).length := hi3 R16.out.len
     have J4 : (aa r).length = 32 := by rw [ax, R16.out.len]
     have G8 := fc r
     go_cut [5] from 54 to 66 (fun a5 wx => a5 = .pointer (some ⟨b5, 0, none⟩) ∧ ∃ wy, Below Y.heap.size Y wy ∧ wx = (wy.setCell ⟨rb, tn, none⟩ (.bool true)).setCells ib (tn * 32) (aa r))
     case first =>
      go_region_held3 (fun w' => (∀ b o, b < Y.heap.size → b ≠ rb → b ≠ ib → w'.cell? ⟨b, o, none⟩ = Y.cell? ⟨b, o, none⟩) ∧ w'.rangeAt b10 0 (aa r) ∧ w'.there ib (tn * 32) 32 ∧ Fr (fun k => k = rb ∨ k = ib) Y w') ((exact O4 l10 nb1 nb2 k8 (by (repeat (first | (with_reducible exact Fr.refl _ _) | (with_reducible refine Fr.drew ?_) | (with_reducible refine Fr.set ?_ _ (.inl aby)) | (with_reducible refine Fr.setCells ?_ _ (.inl aby))))) (by (repeat (first | (with_reducible exact Bk) | (with_reducible refine there_drew ?_) | (with_reducible refine uj ?_) | (with_reducible refine World.there_setCells ?_ _ _ _)))))) (fail)
      all_goals (go_wp2_with fail; go_meet)
      case rel => exact ⟨rfl, Y.drew, Below.drew (Below.refl _ _), rfl⟩
     case rest =>
      obtain ⟨rfl, wy, hby, VO⟩ := hcut
      obtain ⟨hA1, RP⟩ := wE.out.first hby abG R16.out AR.out
      rw [← VO] at hA1 RP
      obtain ⟨W3, hW3⟩ : ∃ W3 : World, W3 = wc := ⟨_, rfl⟩
      subst hW3
      have BR := acD hA1
      have HF1 := acD RP
      have ZL := acD (show aH W3 b5 56 bI from (RP.block b5 (by have := (KB.out.keep BY.out).lt; exact this) acd).trans (KB.out.keep BY.out))
      clear VO hby hA1 RP k8 Bk G2 DU J4 G8 hq v2 v3 v4 v5 OD
      go_wp2_with fail
      go_roundw
      case rel =>
       have e2 : (cy sj.1 tn (some r)).2 = true := by unfold cy; simp only; rw [if_pos AR.out]
       refine ⟨j + 1, by omega, by go_num, ?_, ?_, (NL.out.trans (Fr.of BY.out)).trans HF1.out, ZL.out⟩
       ·rw [HST.out, e2]; simp
       ·rw [HST.out]; exact BR.out
      case measure => simp [intOf]; omega
    ·rw [mK] at v5
     have AR := acD mK
     clear mK
     go_upto_region 13 with fail
     obtain ⟨ne1, ne2, ne3, -, -, -, ne7, ne8, ne9⟩ := wE.out.ne
     obtain ⟨cur, vT⟩ : ∃ cur, sj.1.bH.getD tn [] = cur := ⟨_, rfl⟩
     have c16 : Go.Proofs.YtebklpnkcicpjaaGreatDoor.R16 cur := by rw [← vT]; exact wE.out.kH.get abG
     have pE := wE.out.gJ (t := tn) abG
     rw [vT] at pE
     have NT := acD c16
     have IZ := acD vT
     have k8 := KR.out.range
     have Lv : ∀ W : World, (W.alloc (.cells acM.toArray 56)).there W.heap.size 0 32 := oO
     obtain ⟨jr, xP⟩ : ∃ jr, List.zipWith bR cur r = jr := ⟨_, rfl⟩
     have j16 : Go.Proofs.YtebklpnkcicpjaaGreatDoor.R16 jr := by rw [← xP]; exact c16.join R16.out
     have HJ := acD (show bF cur r = jr from xP)
     have yG := acD j16
     have TV := fun W => jc 64 bR (fun _ _ => by kernel_rfl) rS cur r c16.len R16.out.len W
     rw [xP] at TV
     have Oz := acD TV
     have G2 := Tryz.underlying56
     have DU : (Tryz.prog.info? 56).map (·.size) = some (aa r).length := hi3 R16.out.len
     have PC : (Tryz.prog.info? 56).map (·.size) = some (aa cur).length := hi3 c16.len
     have J6 : (Tryz.prog.info? 56).map (·.size) = some (aa jr).length := hi3 j16.len
     have J4 : (aa jr).length = 32 := by rw [ax, j16.len]
     have G8 := fc jr
     clear vT c16 xP j16 TV
     go_cut [12] from 67 to 75 (fun a12 wx => ∃ g, a12 = .pointer (some ⟨g, 0, none⟩) ∧ Y.heap.size ≤ g ∧ aH wx g 56 jr ∧ Below Y.heap.size Y wx)
     case first =>
      refine wp_region_held_drew (S := fun w' => (∀ b o, b < Y.heap.size → w'.cell? ⟨b, o, none⟩ = Y.cell? ⟨b, o, none⟩) ∧ w'.rangeAt b10 0 (aa r) ∧ w'.rangeAt ib (tn * 32) (aa cur) ∧ Below Y.heap.size Y w') abp ?_ (fun hHeld => ?_)
      ·exact rO l10 y4 k8 pE (by (repeat (first | (with_reducible assumption) | (with_reducible exact Below.refl _ _) | (with_reducible refine Below.drew ?_) | (with_reducible refine Below.alloc ?_ ab5 _) | (with_reducible refine Below.aX ?_ abq _ _))))
      refine wpAnyH_take (i := 0) (oi := _) (v := ?_) rfl abp abp abp (fun _ _ _ h => h) (Or.inl ⟨by rfl, ?_⟩) hHeld ?_
      rotate_left
      ·intro w hSw
       (try dsimp only at hSw)
       go_simp
       (try with_reducible rfl)
      (try simp only [acE, acF, acG, Act.put, acH, acI, acJ])
      refine wpAnyH_take (i := 1) (oi := _) (v := ?_) rfl abp abp abp (fun _ _ _ h => h) (Or.inl ⟨by rfl, ?_⟩) hHeld ?_
      rotate_left
      ·intro w hSw
       (try dsimp only at hSw)
       go_simp
       (try with_reducible rfl)
      (try simp only [acE, acF, acG, Act.put, acH, acI, acJ])
      refine wpAnyH_take (i := 2) (oi := _) (v := ?_) rfl abp abp abp (fun _ _ _ h => h) (Or.inl ⟨by rfl, ?_⟩) hHeld ?_
      rotate_left
      ·intro w hSw
       (try dsimp only at hSw)
       go_simp
       (try with_reducible rfl)
      (try simp only [acE, acF, acG, Act.put, acH, acI, acJ])
      refine wpAnyH_take (i := 3) (oi := _) (v := ?_) rfl abp abp abp (fun _ _ _ h => h) (Or.inl ⟨by rfl, ?_⟩) hHeld ?_
      rotate_left
      ·intro w hSw
       (try dsimp only at hSw)
       go_simp
       (try with_reducible rfl)
      (try simp only [acE, acF, acG, Act.put, acH, acI, acJ])
      refine wpAnyH_take (i := 4) (oi := _) (v := ?_) rfl abp abp abp (fun _ _ _ h => h) (Or.inl ⟨by rfl, ?_⟩) hHeld ?_
      rotate_left
      ·intro w hSw
       (try dsimp only at hSw)
       go_simp
       (try with_reducible rfl)
      (try simp only [acE, acF, acG, Act.put, acH, acI, acJ])
      refine wpAnyH_take (i := 5) (oi := _) (v := ?_) rfl abp abp abp (fun _ _ _ h => h) (Or.inl ⟨by rfl, ?_⟩) hHeld ?_
      rotate_left
      ·intro w hSw
       (try dsimp only at hSw)
       go_simp
       (try with_reducible rfl)
      (try simp only [acE, acF, acG, Act.put, acH, acI, acJ])
      refine wpAnyH_take (i := 6) (oi := _) (v := _) rfl abp abp abp (fun _ _ _ h => h) (yieldsIf_load_mid acr _ _ rfl _ _ rfl (aa cur) _ (fun w hSw => hSw.2.2.1) G2 rfl PC) hHeld ?_
      (try simp only [acE, acF, acG, Act.put, acH, acI, acJ])
      refine wpAnyH_take (i := 7) (oi := _) (v := _) rfl abp abp abp (fun _ _ _ h => h) (yieldsIf_load_mid acr _ _ rfl _ _ rfl (aa r) _ (fun w hSw => hSw.2.1) G2 rfl DU) hHeld ?_
      (try simp only [acE, acF, acG, Act.put, acH, acI, acJ])
      have Lz : (aa jr).toArray.size = 32 := by rw [List.size_toArray]; exact J4
      have PB : (Tryz.prog.info? 56).map (·.size) = some (aa jr).toArray.size := by rw [List.size_toArray]; exact J6
      refine wpAnyH_ready (rs := [8, 9]) abp aby ?_
      refine AllReadyH.cons (o := _) rfl (fun K hK => ?_) ?_
      ·go_simp
       go_at_call 63
       refine (Oz.out _).mono ?_
       rintro e w3 ⟨rfl, hb3⟩
       have hk3 : Below Y.heap.size Y w3 := Below.trans (Below.drew (Below.refl _ _)) (Below.mono hb3 (Nat.le_refl _))
       refine hK.out _ _ (rO l10 y4 k8 pE hk3) (fun hHeld => ?_)
       clear hK K
       (try simp only [acE, acF, acG, Act.put, acH, acI, acJ])
       refine wpAnyH_ready (rs := [9]) abp aby ?_
       refine AllReadyH.cons (o := _) rfl (fun K hK => ?_) AllReadyH.nil
       go_simp
       refine hK.out _ _ (rO l10 y4 k8 pE (hk3.alloc hk3.size _)) (fun hHeld => ?_)
       clear hK K
       (try simp only [acE, acF, acG, Act.put, acH, acI, acJ])
       refine wpAnyH_ready (rs := [10]) abp aby ?_
       refine AllReadyH.cons (o := _) rfl (fun K hK => ?_) AllReadyH.nil
       rw [if_pos acr]
       refine wp_store_mid _ _ _ rfl _ _ (aa jr).toArray rfl rfl (by rw [Lz]; exact Lv w3) PB (all_oneCell_toArray G8) ?_
       refine hK.out _ _ (rO l10 y4 k8 pE (Below.aX (hk3.alloc hk3.size _) hk3.size _ _)) (fun hHeld => ?_)
       clear hK K
       (try simp only [acE, acF, acG, Act.put, acH, acI, acJ])
       refine wpAnyH_done abp ?_ _
       go_wp2_with fail
       go_meet
       case rel => exact ⟨_, rfl, hk3.size, gS (z := aq) (heap_alloc_new _ _) ak yG.out.len, Below.aX (hk3.alloc hk3.size _) hk3.size _ _⟩
      refine AllReadyH.cons (o := _) rfl (fun K hK => ?_) AllReadyH.nil
      go_simp
      have hk2 : Below Y.heap.size Y (Y.drew.alloc (.cells acM.toArray 56)) := (Below.drew (Below.refl _ _)).alloc (Nat.le_refl _) _
      refine hK.out _ _ (rO l10 y4 k8 pE hk2) (fun hHeld => ?_)
      clear hK K
      (try simp only [acE, acF, acG, Act.put, acH, acI, acJ])
      refine wpAnyH_ready (rs := [8]) abp aby ?_
      refine AllReadyH.cons (o := _) rfl (fun K hK => ?_) AllReadyH.nil
      go_simp
      go_at_call 63
      refine (Oz.out _).mono ?_
      rintro e w3 ⟨rfl, hb3⟩
      have hk3 : Below Y.heap.size Y w3 := hk2.trans (hb3.mono hk2.size)
      have hz3 : aH w3 Y.heap.size 56 aq := (hb3.block _ aby).trans (heap_alloc_new Y.drew _)
      refine hK.out _ _ (rO l10 y4 k8 pE hk3) (fun hHeld => ?_)
      clear hK K
      (try simp only [acE, acF, acG, Act.put, acH, acI, acJ])
      refine wpAnyH_ready (rs := [10]) abp aby ?_
      refine AllReadyH.cons (o := _) rfl (fun K hK => ?_) AllReadyH.nil
      rw [if_pos acr]
      refine wp_store_mid _ _ _ rfl _ _ (aa jr).toArray rfl rfl (by rw [Lz]; exact fW hz3) PB (all_oneCell_toArray G8) ?_
      refine hK.out _ _ (rO l10 y4 k8 pE (Below.aX hk3 (Nat.le_refl _) _ _)) (fun hHeld => ?_)
      clear hK K
      (try simp only [acE, acF, acG, Act.put, acH, acI, acJ])
      refine wpAnyH_done abp ?_ _
      go_wp2_with fail
      go_meet
      case rel => exact ⟨_, rfl, Nat.le_refl _, gS hz3 ak yG.out.len, Below.aX hk3 (Nat.le_refl _) _ _⟩
     obtain ⟨g2, rfl, hg2, kg2, bg2⟩ := hcut
     obtain ⟨W4, Bp⟩ : ∃ W4 : World, W4 = wc := ⟨_, rfl⟩
     subst Bp
     clear k8 pE Lv G2 DU PC J6 J4 G8
     have Rf := acD (wE.out.below bg2)
     obtain ⟨q1, q2, q3, q4, q5⟩ := Rf.out.lt
     obtain ⟨-, -, p2, p3, p4⟩ := Rf.out.cells
     rw [HN.out] at p2 p3 p4
     have pE := Rf.out.gJ (t := tn) abG
     rw [IZ.out] at pE
     have KG := acD kg2
     have BG := acD bg2
     have IM := acD pE
     have UC := acD (show ∀ w', (∃ x : Ext W4, w' = x.w) → w'.rangeAt g2 0 (aa jr) from by rintro _ ⟨x, rfl⟩; exact (KG.out.keep x.h).range)
     have UB := acD (show ∀ w', (∃ x : Ext W4, w' = x.w) → w'.rangeAt ib (tn * 32) (aa cur) from by rintro _ ⟨x, rfl⟩; exact fun j v hv => (x.h.cell (p := ⟨ib, tn * 32 + j, none⟩) q4).trans (IM.out j v hv))
     clear kg2 bg2 pE v2 v3 v4 v5 OD
     go_upto_region 14 with fail
     by_cases LH : jr = cur
     ·have heq : ∀ w, (binOp .eql 56 (.agg (aa jr).toArray) (.agg (aa cur).toArray)).run Tryz.prog w = .ok (.bool true) w := fun w => by
       have := Bu yG.out.len NT.out.len w
       rwa [show decide (jr = cur) = true from decide_eq_true LH] at this
      have HE := acD (show cy sj.1 tn (some r) = (sj.1, false) by
       unfold cy
       simp only
       rw [if_neg (by rw [AR.out]; simp), if_pos (by rw [IZ.out, HJ.out]; exact LH)])
      clear LH
      refine az abp abp ?_
      repeat (first | (refine dU abx _ _ rfl _ _ rfl (aa jr) _ UC.out Tryz.underlying56 rfl (hi3 yG.out.len) ?_; (try simp only [acE, acF, acG, Act.put, acH, acI, acJ])) | (refine dU abx _ _ rfl _ _ rfl (aa cur) _ UB.out Tryz.underlying56 rfl (hi3 NT.out.len) ?_; (try simp only [acE, acF, acG, Act.put, acH, acI, acJ])) | (go_big_quiet_step (fail)))
      refine wpQuiet_nil ?_
      rintro _ ⟨x2, rfl⟩
      go_wp2_with fail
      go_roundw
      case rel =>
       have bb : Below wr.heap.size wr x2.w := BY.out.trans ((BG.out.trans (x2.h.mono BG.out.size)).mono BY.out.size)
       refine ⟨j + 1, by omega, by go_num, ?_, ?_, NL.out.trans (Fr.of bb), KB.out.keep bb⟩
       ·rw [HST.out, HE.out]; simp
       ·rw [HST.out, HE.out]; exact ug.out.below bb
      case measure => simp [intOf]; omega
     ·have heq : ∀ w, (binOp .eql 56 (.agg (aa jr).toArray) (.agg (aa cur).toArray)).run Tryz.prog w = .ok (.bool false) w := fun w => by
       have := Bu yG.out.len NT.out.len w
       rwa [show decide (jr = cur) = false from decide_eq_false LH] at this
      have EN := acD (show bF (sj.1.bH.getD tn []) r ≠ sj.1.bH.getD tn [] by rw [IZ.out, HJ.out]; exact LH)
      clear LH
      refine az abp abp ?_
      repeat (first | (refine dU abx _ _ rfl _ _ rfl (aa jr) _ UC.out Tryz.underlying56 rfl (hi3 yG.out.len) ?_; (try simp only [acE, acF, acG, Act.put, acH, acI, acJ])) | (refine dU abx _ _ rfl _ _ rfl (aa cur) _ UB.out Tryz.underlying56 rfl (hi3 NT.out.len) ?_; (try simp only [acE, acF, acG, Act.put, acH, acI, acJ])) | (go_big_quiet_step (fail)))
      refine wpQuiet_nil ?_
      rintro _ ⟨x2, rfl⟩
      obtain ⟨p6, VA⟩ := Rf.out.nP (t := tn) abG
      have G4 := Rf.out.kH.nP (t := tn) abG
      obtain ⟨rp, LA⟩ : ∃ rp, sj.1.rep.getD tn 0 = rp := ⟨_, rfl⟩
      rw [LA] at p6 G4
      have IL := acD LA
      have YP : rp ≤ 70000000 := by rw [HN.out] at G4; omega
      have YO : 0 ≤ rp := G4.1
      have wrp : IntKind.i64.wrap (rp + 1) = rp + 1 := IntWalk.i64_in _ abo
      clear LA G4
      by_cases hge : 2 ≤ rp
      ·have Un : decide (2 ≤ rp) = true := decide_eq_true hge
       obtain ⟨nr, Bl⟩ : ∃ nr, List.zipWith aO cur jr = nr := ⟨_, rfl⟩
       have n16 : Go.Proofs.YtebklpnkcicpjaaGreatDoor.R16 nr := by rw [← Bl]; exact NT.out.qF yG.out
       have hcw := fun W => jc 65 aO (fun _ _ => by kernel_rfl) Ca cur jr NT.out.len yG.out.len W
       rw [Bl] at hcw
       have eP := acD hcw
       have KF := acD n16
       have QS := acD (show (if 2 ≤ sj.1.rep.getD tn 0 then dG (sj.1.bH.getD tn []) (bF (sj.1.bH.getD tn []) r) else bF (sj.1.bH.getD tn []) r) = nr by rw [IL.out, if_pos hge, IZ.out, HJ.out]; exact Bl)
       clear hcw n16 Bl hge
       go_upto_region 16 with fail
       refine dF 9 abp abp ?_
       simp only [acK, List.take_zero, acL, List.drop_zero]
       repeat (first | (refine dU abx _ _ rfl _ _ rfl (aa jr) _ UC.out Tryz.underlying56 rfl (hi3 yG.out.len) ?_; (try simp only [acE, acF, acG, Act.put, acH, acI, acJ])) | (refine dU abx _ _ rfl _ _ rfl (aa cur) _ UB.out Tryz.underlying56 rfl (hi3 NT.out.len) ?_; (try simp only [acE, acF, acG, Act.put, acH, acI, acJ])) | (go_big_quiet_step (exact Calls.ay (eP.out _))))
       refine wpQuiet_nil ?_
       rintro _ ⟨x3, rfl⟩
       go_upto_region 17 with (refine wpList_store_row rfl 56 (.tmp 12) (.tmp 101) rfl g2 (aa nr).toArray rfl rfl 56 _ (KG.out.keep x3.h) (hi4 KF.out.len) (hi6 KF.out.len yG.out.len) (aj nr) ?_)
       obtain ⟨Z1, Kc⟩ : ∃ Z1, x3.w.setRow g2 (aa nr).toArray = Z1 := ⟨_, rfl⟩
       rw [Kc]
       (try simp only [Act.put])
       have Nl : Below Y.heap.size Y Z1 := Kc ▸ below_setRow (BG.out.trans (x3.h.mono BG.out.size)) hg2 _
       have ME : aH Z1 g2 56 nr := Kc ▸ aH.row (KG.out.keep x3.h)
       clear Kc heq Un
       have IE := acD (wE.out.below Nl)
       obtain ⟨r1, r2, r3, r4, r5⟩ := IE.out.lt
       obtain ⟨-, -, -, s3, s4⟩ := IE.out.cells
       rw [HN.out] at s3 s4
       have Nw := acD ME
       have Rk := acD Nl
       have lg2 : g2 < Z1.heap.size := ME.lt
       have UA := acD (show ∀ w', (∃ x : Ext Z1, w' = x.w) → w'.rangeAt g2 0 (aa nr) from by rintro _ ⟨x, rfl⟩; exact (Nw.out.keep x.h).range)
       clear ME Nl p2 p3 p4 p6 VA q1 q2 q3 q4 q5
       refine aG 6 abp abp ?_
       simp only [acK, List.take_zero, acL, List.drop_zero]
       repeat (first | (refine dU abx _ _ rfl _ _ rfl (aa nr) _ UA.out Tryz.underlying56 rfl (hi3 KF.out.len) ?_; (try simp only [acE, acF, acG, Act.put, acH, acI, acJ])) | (go_big_quiet_step (fail)))
       refine wpQuiet_nil ?_
       rintro _ ⟨x4, rfl⟩
       have E6 := acD (show x4.w.there ib (tn * 32) (aa nr).toArray.size by
        rw [List.size_toArray, ax, KF.out.len]
        exact ((IE.out.below x4.h).there abG))
       go_upto_region 18 with (refine wpList_store_mid rfl 56 (.tmp 108) (.tmp 107) rfl ib (tn * 32) (aa nr).toArray rfl rfl E6.out (hi4 KF.out.len) (aj nr) ?_)
       (try simp only [Act.put])
       have bx4 : Below Y.heap.size Y x4.w := Rk.out.trans (x4.h.mono Rk.out.size)
       obtain ⟨Hp, Kg⟩ := wE.out.again bx4 abG R16.out AR.out EN.out
       rw [QS.out, IL.out] at Hp Kg
       obtain ⟨Z2, Kb⟩ : ∃ Z2, x4.w.setCells ib (tn * 32) (aa nr) = Z2 := ⟨_, rfl⟩
       rw [Kb] at Hp Kg
       have f2 : Fr (fun k => k = ib) Z1 Z2 := Kb ▸ (Fr.of x4.h).setCells _ (.inl rfl)
       rw [show x4.w.setCells ib (tn * 32) (aa nr).toArray.toList = Z2 from Kb]
       obtain ⟨m1, m2, m3, -, -, -, m7, m8, m9⟩ := IE.out.ne
       have t4 : Z2.cell? ⟨ab, 5, none⟩ = _ := (f2.cell 5 r1 m2).trans s4
       obtain ⟨p7, Mx⟩ := IE.out.nP (t := tn) abG
       rw [IL.out] at p7
       have t6 : Z2.cell? ⟨pb, tn, none⟩ = some (.int .i64 rp) := (f2.cell tn r5 (fun e => m9 e.symm)).trans p7
       have t7 : Z2.frozen? ⟨pb, tn, none⟩ = false := by
        have e := f2.block pb r5 (fun e => m9 e.symm)
        unfold World.frozen? at Mx ⊢
        rw [e]; exact Mx
       have u1 : ab < Z2.heap.size := by have := f2.size; omega
       have u5 : pb < Z2.heap.size := by have := f2.size; omega
       have Vt := acD Hp
       have Q2 := acD Kg
       have Qz := acD (KB.out.keep BY.out)
       clear Kb Hp Kg f2 bx4 s3 s4 p7 Mx
       go_wp2_with fail
       go_roundw
       case rel =>
        have e2 : (cy sj.1 tn (some r)).2 = true := by unfold cy; simp only; rw [if_neg (by rw [AR.out]; simp), if_neg EN.out]
        refine ⟨j + 1, by omega, by go_num, ?_, ?_, (NL.out.trans (Fr.of BY.out)).trans Q2.out, (Q2.out.block b5 Qz.out.lt acd).trans Qz.out⟩
        ·rw [HST.out, e2]; simp
        ·rw [HST.out]; exact Vt.out
       case measure => simp [intOf]; omega
      ·have Un : decide (2 ≤ rp) = false := decide_eq_false hge
       obtain ⟨nr, Bl⟩ : ∃ nr, jr = nr := ⟨_, rfl⟩
       have KF := acD (show Go.Proofs.YtebklpnkcicpjaaGreatDoor.R16 nr from Bl ▸ yG.out)
       have QS := acD (show (if 2 ≤ sj.1.rep.getD tn 0 then dG (sj.1.bH.getD tn []) (bF (sj.1.bH.getD tn []) r) else bF (sj.1.bH.getD tn []) r) = nr by rw [IL.out, if_neg hge, IZ.out, HJ.out]; exact Bl)
       have O5 : aH x2.w g2 56 nr := Bl ▸ KG.out.keep x2.h
       clear Bl hge
       go_upto_region 17 with fail
       obtain ⟨Z1, Kc⟩ : ∃ Z1, x2.w = Z1 := ⟨_, rfl⟩
       rw [Kc]
       have Nl : Below Y.heap.size Y Z1 := Kc ▸ (BG.out.trans (x2.h.mono BG.out.size))
       have ME : aH Z1 g2 56 nr := Kc ▸ O5
       clear Kc O5 heq Un
       have IE := acD (wE.out.below Nl)
       obtain ⟨r1, r2, r3, r4, r5⟩ := IE.out.lt
       obtain ⟨-, -, -, s3, s4⟩ := IE.out.cells
       rw [HN.out] at s3 s4
       have Nw := acD ME
       have Rk := acD Nl
       have lg2 : g2 < Z1.heap.size := ME.lt
       have UA := acD (show ∀ w', (∃ x : Ext Z1, w' = x.w) → w'.rangeAt g2 0 (aa nr) from by rintro _ ⟨x, rfl⟩; exact (Nw.out.keep x.h).range)
       clear ME Nl p2 p3 p4 p6 VA q1 q2 q3 q4 q5
       refine aG 6 abp abp ?_
       simp only [acK, List.take_zero, acL, List.drop_zero]
       repeat (first | (refine dU abx _ _ rfl _ _ rfl (aa nr) _ UA.out Tryz.underlying56 rfl (hi3 KF.out.len) ?_; (try simp only [acE, acF, acG, Act.put, acH, acI, acJ])) | (go_big_quiet_step (fail)))
       refine wpQuiet_nil ?_
       rintro _ ⟨x4, rfl⟩
       have E6 := acD (show x4.w.there ib (tn * 32) (aa nr).toArray.size by
        rw [List.size_toArray, ax, KF.out.len]
        exact ((IE.out.below x4.h).there abG))
       go_upto_region 18 with (refine wpList_store_mid rfl 56 (.tmp 108) (.tmp 107) rfl ib (tn * 32) (aa nr).toArray rfl rfl E6.out (hi4 KF.out.len) (aj nr) ?_)
       (try simp only [Act.put])
       have bx4 : Below Y.heap.size Y x4.w := Rk.out.trans (x4.h.mono Rk.out.size)
       obtain ⟨Hp, Kg⟩ := wE.out.again bx4 abG R16.out AR.out EN.out
       rw [QS.out, IL.out] at Hp Kg
       obtain ⟨Z2, Kb⟩ : ∃ Z2, x4.w.setCells ib (tn * 32) (aa nr) = Z2 := ⟨_, rfl⟩
       rw [Kb] at Hp Kg
       have f2 : Fr (fun k => k = ib) Z1 Z2 := Kb ▸ (Fr.of x4.h).setCells _ (.inl rfl)
       rw [show x4.w.setCells ib (tn * 32) (aa nr).toArray.toList = Z2 from Kb]
       obtain ⟨m1, m2, m3, -, -, -, m7, m8, m9⟩ := IE.out.ne
       have t4 : Z2.cell? ⟨ab, 5, none⟩ = _ := (f2.cell 5 r1 m2).trans s4
       obtain ⟨p7, Mx⟩ := IE.out.nP (t := tn) abG
       rw [IL.out] at p7
       have t6 : Z2.cell? ⟨pb, tn, none⟩ = some (.int .i64 rp) := (f2.cell tn r5 (fun e => m9 e.symm)).trans p7
       have t7 : Z2.frozen? ⟨pb, tn, none⟩ = false := by
        have e := f2.block pb r5 (fun e => m9 e.symm)
        unfold World.frozen? at Mx ⊢
        rw [e]; exact Mx
       have u1 : ab < Z2.heap.size := by have := f2.size; omega
       have u5 : pb < Z2.heap.size := by have := f2.size; omega
       have Vt := acD Hp
       have Q2 := acD Kg
       have Qz := acD (KB.out.keep BY.out)
       clear Kb Hp Kg f2 bx4 s3 s4 p7 Mx
       go_wp2_with fail
       go_roundw
       case rel =>
        have e2 : (cy sj.1 tn (some r)).2 = true := by unfold cy; simp only; rw [if_neg (by rw [AR.out]; simp), if_neg EN.out]
        refine ⟨j + 1, by omega, by go_num, ?_, ?_, (NL.out.trans (Fr.of BY.out)).trans Q2.out, (Q2.out.block b5 Qz.out.lt acd).trans Qz.out⟩
        ·rw [HST.out, e2]; simp
        ·rw [HST.out]; exact Vt.out
       case measure => simp [intOf]; omega
  ·obtain rfl : j = u := by omega
   have dl : decide ((j : Int) < (j : Int)) = false := by simp
   go_wp2_with fail
   go_ret
   have e := ZQ.out
   rw [HU.out] at e
   rw [e]
   exact ⟨rfl, Ho, NL.out⟩
end
section
open Go.RowKit
def bz (cd : Nat → Int) (G : List dL) : List AB := G.map fun x => ⟨codeFrom cd x.lo (x.hi - x.lo).toNat, x.nx⟩
structure Fa (n : Nat) (cd : Nat → Int) (G : List dL) (x : dL) : Prop where
 lo : 0 ≤ x.lo
 lt : x.lo < x.hi
 tF : x.nx.length ≤ 1000
 nx : ∀ t ∈ x.nx, 0 ≤ t ∧ t < (G.length : Int)
 RV : ∀ a : Nat, x.lo ≤ (a : Int) → (a : Int) < x.hi → a < n ∧ (cx (cd a)).2 = 0 ∧ 0 ≤ (aA cd (a : Int)).op
theorem gR (cd : Nat → Int) (lo : Int) (m : Nat) : (codeFrom cd lo m).length = m := by simp [codeFrom]
theorem uY (cd : Nat → Int) (G : List dL) : (bz cd G).length = G.length := by simp [bz]
theorem lH {cd : Nat → Int} {G : List dL} {k : Nat} {b : AB} (h : (bz cd G)[k]? = some b) : ∃ x, G[k]? = some x ∧ b = ⟨codeFrom cd x.lo (x.hi - x.lo).toNat, x.nx⟩ := by
 unfold bz at h
 rw [List.getElem?_map] at h
 cases hx : G[k]? with
 | none => rw [hx] at h; cases h
 | some x => rw [hx] at h; cases h; exact ⟨x, rfl, rfl⟩
theorem Fa.Zz {n : Nat} {cd : Nat → Int} {G : List dL} {x : dL} (h : Fa n cd G x) : Vu G.length ⟨codeFrom cd x.lo (x.hi - x.lo).toNat, x.nx⟩ := by
 have hm : 0 < (x.hi - x.lo).toNat := by have := h.lt; omega
 have DN : ∀ i ∈ codeFrom cd x.lo (x.hi - x.lo).toNat, 0 ≤ i.op := fun i hi => by
  unfold codeFrom at hi
  obtain ⟨j, hj, rfl⟩ := List.mem_map.1 hi
  have hj := List.mem_range.1 hj
  have h0 := h.lo
  have := (h.RV (x.lo.toNat + j) abo abo).2.2
  rwa [show ((x.lo.toNat + j : Nat) : Int) = x.lo + (j : Int) by omega] at this
 have hne : codeFrom cd x.lo (x.hi - x.lo).toNat ≠ [] := by
  intro e
  have := gR cd x.lo (x.hi - x.lo).toNat
  rw [e] at this
  simp at this
  omega
 refine ⟨⟨⟨DN, h.nx⟩, ?_, DN⟩, hne, h.tF, h.nx⟩
 unfold AB.last
 have hl : (codeFrom cd x.lo (x.hi - x.lo).toNat).length - 1 < (codeFrom cd x.lo (x.hi - x.lo).toNat).length := by rw [gR]; omega
 have e : (codeFrom cd x.lo (x.hi - x.lo).toNat).getD ((codeFrom cd x.lo (x.hi - x.lo).toNat).length - 1) ⟨0, 0, 0, 0, 0⟩ = (codeFrom cd x.lo (x.hi - x.lo).toNat)[(codeFrom cd x.lo (x.hi - x.lo).toNat).length - 1] := by simp [List.getD, List.getElem?_eq_getElem hl]
 show 0 ≤ ((codeFrom cd x.lo (x.hi - x.lo).toNat).getD ((codeFrom cd x.lo (x.hi - x.lo).toNat).length - 1) ⟨0, 0, 0, 0, 0⟩).op
 rw [e]
 exact DN _ (List.getElem_mem _)
theorem GM {X w' : World} (hf : Below X.heap.size X w') : (∀ b o, b < X.heap.size → w'.cell? ⟨b, o, none⟩ = X.cell? ⟨b, o, none⟩) ∧ Below X.heap.size X w' := ⟨fun b o hb => hf.cell (p := ⟨b, o, none⟩) hb, hf⟩
theorem nk (w : World) (a b c d e : Value) (t : TypeId) : ∀ j u, [a, b, c, d, e][j]? = some u → (w.alloc (.cells #[a, b, c, d, e] t)).cell? ((⟨w.heap.size, 0, none⟩ : Addr).add j) = some u := by
 intro j u h
 have e : (⟨w.heap.size, 0, none⟩ : Addr).add j = ⟨w.heap.size, j, none⟩ := by cases j <;> simp [Addr.add]
 rw [e]
 unfold World.cell?
 rw [heap_alloc_new]
 simpa using h
theorem OJ {w : World} {rb k : Nat} {T : TypeId} (h : w.heap[rb]? = some (.cells ((List.replicate k false).map Value.bool).toArray T (0, 0))) (hk : 0 < k) : w.cell? ⟨rb, 0, none⟩ = some (.bool false) ∧ w.frozen? ⟨rb, 0, none⟩ = false := by
 constructor
 ·unfold World.cell?
  simp only [h]
  rw [List.getElem?_toArray, List.getElem?_map, List.getElem?_replicate, if_pos hk]
  rfl
 ·simp [World.frozen?, h]
def Nv (B : Nat) (rv iv dv : Value) : Prop := ∀ q, (rv.ownBlock = some q ∨ iv.ownBlock = some q ∨ dv.ownBlock = some q) → B ≤ q
def mE (f : Nat → List aZ) (k : Nat) (l : List aZ) : Nat → List aZ := fun i => if i < k then f i else if i = k then l else []
theorem Eo (f : Nat → List aZ) : mE f 0 [] = fun _ => [] := by funext i; simp [mE]
theorem pK (f : Nat → List aZ) (k : Nat) (l : List aZ) : mE f k l k = l := by unfold mE; rw [if_neg abo, if_pos rfl]
theorem Ie (f : Nat → List aZ) (k : Nat) (l l' : List aZ) : upd (mE f k l) k l' = mE f k l' := by
 funext i
 unfold upd mE
 by_cases h : i = k
 ·rw [if_pos h, if_neg abo, if_pos h]
 ·rw [if_neg h, if_neg h, if_neg h]
theorem Ep (f : Nat → List aZ) (k : Nat) : mE f k (f k) = mE f (k + 1) [] := by
 funext i
 unfold mE
 by_cases h1 : i < k
 ·rw [if_pos h1, if_pos abo]
 ·rw [if_neg h1]
  by_cases h2 : i = k
  ·rw [if_pos h2, if_pos abo, h2]
  ·rw [if_neg h2, if_neg abo]
   split <;> rfl
def pZ (cd : Nat → Int) (G : List dL) (k : Nat) : List aZ := codeFrom cd (G.getD k ⟨0, 0, []⟩).lo ((G.getD k ⟨0, 0, []⟩).hi - (G.getD k ⟨0, 0, []⟩).lo).toNat
theorem zP : (Tryz.prog.info? 64).map (fun i => (i.zero, i.size, i.bytes)) = some (some (.agg #[.int .u8 0, .int .i64 0, .int .i64 0, .int .i64 0, .int .i64 0]), 5, 40) := by kernel_rfl
theorem GY : (Tryz.prog.info? 4).map (fun i => (i.zero, i.size, i.bytes)) = some (some (.bool false), 1, 1) := by kernel_rfl
theorem GV : (Tryz.prog.info? 3).map (fun i => (i.zero, i.size, i.bytes)) = some (some (.int .i64 0), 1, 8) := by kernel_rfl
theorem MJ : (Tryz.prog.info? 50).map (fun i => (i.zero, i.size, i.bytes)) = some (some (.slice none 0 0), 1, 24) := by kernel_rfl
theorem MK : (Tryz.prog.info? 56).map (fun i => (i.zero, i.size, i.bytes)) = some (some (.agg (aa aq).toArray), 32, 128) := by kernel_rfl
def wu : Prop := ∀ (cv ev bv pv : Value) (sh lk : Int) (n : Nat) (cd : Nat → Int) (G : List dL) (P : List (List Int)) (w : World) (T : iU w) (HW : Words w cv n cd) (HG : gh w bv G) (HP : tY w pv P) (hv : pP G P) (hg0 : 0 < G.length) (hg1 : G.length ≤ 1000) (hok : ∀ x ∈ G, Fa n cd G x),
  Calls Tryz.prog 7 #[.agg #[cv, ev, .int .i64 sh, .int .i64 lk], .agg #[bv, pv]] w fun e w' => (∃ s rv iv dv, Ends (bz cd G) (ct G.length) s ∧ e = .returned (.tuple #[.agg #[rv, iv, dv], .int .i64 0]) ∧ oD w' rv iv s.reach s.bH ∧ EK w' dv (cZ (bz cd G) s G.length) ∧ Nv w.heap.size rv iv dv) ∧ Below w.heap.size w w'
end
section
open Go.RowKit
def y8 : List aZ := [⟨14, 10, 0, 0, 0⟩, ⟨25, 10, 0, 0, 4⟩, ⟨15, 10, 10, 0, 1⟩, ⟨24, 0, 0, 0, -3⟩]
def Ta : List Int := y8.map fun i => (jo i).1
def eO (i : Nat) : Int := Ta.getD i 0
theorem OI : ∀ x ∈ Ta, 0 ≤ x ∧ x < 4294967296 := by decide +kernel
theorem sm0 : cx (eO 0) = (⟨14, 10, 0, 0, 0⟩, 0) := by decide +kernel
theorem sm1 : cx (eO 1) = (⟨25, 10, 0, 0, 4⟩, 0) := by decide +kernel
theorem sm2 : cx (eO 2) = (⟨15, 10, 10, 0, 1⟩, 0) := by decide +kernel
theorem sm3 : cx (eO 3) = (⟨24, 0, 0, 0, -3⟩, 0) := by decide +kernel
theorem Js : aA eO 0 = ⟨14, 10, 0, 0, 0⟩ := by show (cx (eO 0)).1 = _; rw [sm0]
theorem FA : aA eO 1 = ⟨25, 10, 0, 0, 4⟩ := by show (cx (eO 1)).1 = _; rw [sm1]
theorem Jr : aA eO 2 = ⟨15, 10, 10, 0, 1⟩ := by show (cx (eO 2)).1 = _; rw [sm2]
theorem Jq : aA eO 3 = ⟨24, 0, 0, 0, -3⟩ := by show (cx (eO 3)).1 = _; rw [sm3]
theorem Jt : jf 4 eO [⟨kN, 0, 4, 0⟩] 0 0 := by
 refine ⟨by omega, by simp, by omega, by omega, by simp, fun e he => ?_, ⟨rfl, by simp, rfl⟩, fun e he k h1 h2 => ?_⟩
 ·simp at he; subst he
  show 1 ≤ kN.size ∧ kN.size ≤ 12
  decide
 ·simp at he; subst he
  simp only at h1 h2
  obtain rfl | rfl | rfl | rfl : k = 0 ∨ k = 1 ∨ k = 2 ∨ k = 3 := by omega
  ·refine ⟨by show (cx (eO 0)).2 = 0; rw [sm0], fun h => ?_, fun h => ?_⟩
   ·have : fo (aA eO 0).op = true := h
    rw [Js] at this; simp [fo] at this
   ·have : (aA eO 0).op = 28 ∨ (aA eO 0).op = 29 := h
    rw [Js] at this; simp at this
  ·refine ⟨by show (cx (eO 1)).2 = 0; rw [sm1], fun h => ?_, fun h => ?_⟩
   ·have : fo (aA eO 1).op = true := h
    rw [FA] at this; simp [fo] at this
   ·have : (aA eO 1).op = 28 ∨ (aA eO 1).op = 29 := h
    rw [FA] at this; simp at this
  ·refine ⟨by show (cx (eO 2)).2 = 0; rw [sm2], fun h => ?_, fun h => ?_⟩
   ·have : fo (aA eO 2).op = true := h
    rw [Jr] at this; simp [fo] at this
   ·have : (aA eO 2).op = 28 ∨ (aA eO 2).op = 29 := h
    rw [Jr] at this; simp at this
  ·refine ⟨by show (cx (eO 3)).2 = 0; rw [sm3], fun _ => ?_, fun h => ?_⟩
   ·show (0 : Int) ≤ 3 + 1 + (aA eO 3).aS ∧ 3 + 1 + (aA eO 3).aS < 4
    rw [Jq]; decide
   ·have : (aA eO 3).op = 28 ∨ (aA eO 3).op = 29 := h
    rw [Jq] at this; simp at this
theorem Lc : cz (aA eO 0) 0 = [1] := by rw [Js]; decide
theorem Lb : cz (aA eO 1) 1 = [2] := by rw [FA]; decide
theorem La : cz (aA eO 2) 2 = [3] := by rw [Jr]; decide
theorem OE : cz (aA eO 3) 3 = [1] := by rw [Jq]; decide
theorem FD (x : Int) : pQ (aA eO) 0 4 x ↔ x ∈ [(0 : Int), 1, 2, 3] := by
 constructor
 ·intro h
  have := h.range _ _ _ abo
  simp; omega
 ·intro h
  have r0 : pQ (aA eO) 0 4 0 := pQ.start
  have r1 : pQ (aA eO) 0 4 1 := pQ.step r0 (by rw [Lc]; simp) abo abo
  have r2 : pQ (aA eO) 0 4 2 := pQ.step r1 (by rw [Lb]; simp) abo abo
  have r3 : pQ (aA eO) 0 4 3 := pQ.step r2 (by rw [La]; simp) abo abo
  simp at h
  rcases h with rfl | rfl | rfl | rfl
  ·exact r0
  ·exact r1
  ·exact r2
  ·exact r3
theorem Jw (x : Int) (h : x ∈ [(0 : Int), 1, 2, 3]) : ¬ qq (aA eO) 0 4 x := by
 rintro ⟨t, ht, hn⟩
 simp at h
 rcases h with rfl | rfl | rfl | rfl
 ·rw [Lc] at ht; simp at ht; omega
 ·rw [Lb] at ht; simp at ht; omega
 ·rw [La] at ht; simp at ht; omega
 ·rw [OE] at ht; simp at ht; omega
def Tb : List (Int × Int) := [(0, 1), (1, 4)]
theorem Mm : blk (aA eO) 0 [0, 1, 2, 3] 4 = Tb := by decide +kernel
def qs : List dL := [⟨0, 1, [1]⟩, ⟨1, 4, [1]⟩]
theorem OH : cJ (aA eO) Tb = qs := by decide +kernel
theorem OG : eG (aA eO) Tb = [[], [0, 1]] := by decide +kernel
theorem FC : pP qs [[], [0, 1]] := by
 refine ⟨by simp [qs], rfl, ⟨4, ⟨by simp, by simp, by simp, by simp [qs], by simp [qs]⟩, ⟨by simp, by simp, by simp, by simp [qs], by simp [qs]⟩, rfl⟩, by decide⟩
theorem Ml {r : Sg} (h : Out (aA eO) 0 4 r) : r = ⟨qs, [[], [0, 1]], -1, 0⟩ := by
 cases h with
 | bad D bad hb hR =>
  rcases hR.b with h | h
  ·omega
  ·exact absurd h.2.1 (Jw _ ((FD _).1 (hR.dr _ h.1)))
 | ok D hR =>
  have hm : ∀ x, x ∈ D ↔ x ∈ [(0 : Int), 1, 2, 3] := fun x => (hR.mem aby x).trans (FD x)
  rw [show ((4 : Int) - 0).toNat = 4 from rfl, pL _ _ hm, Mm, OH, OG]
def smA : List AB := [⟨[⟨14, 10, 0, 0, 0⟩], [1]⟩, ⟨[⟨25, 10, 0, 0, 4⟩, ⟨15, 10, 10, 0, 1⟩, ⟨24, 0, 0, 0, -3⟩], [1]⟩]
def nL (h : Int) : RG := aq.set 10 (0, h)
theorem Lg : bQ smA (ct 2) 2 = (⟨[true, true], [aq, nL 1], [0, 1]⟩, true) := by kernel_rfl
theorem Lf : bQ smA ⟨[true, true], [aq, nL 1], [0, 1]⟩ 2 = (⟨[true, true], [aq, nL 2], [0, 2]⟩, true) := by kernel_rfl
theorem Le : bQ smA ⟨[true, true], [aq, nL 2], [0, 2]⟩ 2 = (⟨[true, true], [aq, nL 2147483647], [0, 3]⟩, true) := by kernel_rfl
theorem Ld : bQ smA ⟨[true, true], [aq, nL 2147483647], [0, 3]⟩ 2 = (⟨[true, true], [aq, nL 2147483647], [0, 3]⟩, false) := by kernel_rfl
theorem Ju : Ends smA (ct 2) ⟨[true, true], [aq, nL 2147483647], [0, 3]⟩ := by
 have hl : smA.length = 2 := rfl
 have e4 : Ends smA ⟨[true, true], [aq, nL 2147483647], [0, 3]⟩ ⟨[true, true], [aq, nL 2147483647], [0, 3]⟩ := by
  have := Ends.done (B := smA) (s := ⟨[true, true], [aq, nL 2147483647], [0, 3]⟩) (by rw [hl, Ld])
  rwa [hl, Ld] at this
 have e3 : Ends smA ⟨[true, true], [aq, nL 2], [0, 2]⟩ ⟨[true, true], [aq, nL 2147483647], [0, 3]⟩ := Ends.more (by rw [hl, Le]) (by rw [hl, Le]; exact e4)
 have e2 : Ends smA ⟨[true, true], [aq, nL 1], [0, 1]⟩ ⟨[true, true], [aq, nL 2147483647], [0, 3]⟩ := Ends.more (by rw [hl, Lf]) (by rw [hl, Lf]; exact e3)
 exact Ends.more (by rw [hl, Lg]) (by rw [hl, Lg]; exact e2)
theorem Jv : cZ smA ⟨[true, true], [aq, nL 2147483647], [0, 3]⟩ 2 = [] := by kernel_rfl
theorem Cx : cQ [⟨25, 10, 0, 0, 4⟩] (nL 2147483647) = some (nL 3) := by kernel_rfl
end
section
open Go.RowKit
theorem mO (w : World) (T : iU w) :
  Calls Tryz.prog 20 #[] w fun e w' => (∃ cv ev A cap, e = .returned (.agg #[cv, ev, .int .i64 0, .int .i64 0]) ∧ cv = .slice A 4 cap ∧ w'.ownsRow w.heap.size 96 1 cv 4 (Mj (y8.map fun i => (jo i).1)) ∧ nD w' ev [⟨kN, 0, 4, 0⟩]) ∧ Below w.heap.size w w' := by
 have HT := acD T
 have nH := acD (show ∀ x ∈ y8, 0 ≤ x.op by decide)
 clear T
 obtain ⟨iW, YZ, hW0, hW1, hW2⟩ := info_parts O9
 go_enter Tryz.func20, Tryz.ntmps20
 go_upto_region 3 with fail
 obtain ⟨V, hV, kr, ke, ki, ks, bV, sV'⟩ := r8 w #[.slice none 0 0, .slice none 0 0, .int .i64 0, .int .i64 0] #[.string { data := #[116, 97] }, .int .i64 0, .int .i64 4, .int .i64 0] #[.slice none 0 0, .slice (some ⟨w.heap.size + 1, 0, none⟩) 1 1, .int .i64 0, .int .i64 0] #[.int .u8 14, .int .i64 10, .int .i64 0, .int .i64 0, .int .i64 0, .int .u8 25, .int .i64 10, .int .i64 0, .int .i64 0, .int .i64 4, .int .u8 15, .int .i64 10, .int .i64 10, .int .i64 0, .int .i64 1, .int .u8 24, .int .i64 0, .int .i64 0, .int .i64 0, .int .i64 (-3)] 25 115 25 64
 have sV : V.heap.size = w.heap.size + 4 := by rw [← hV]; simp
 have SG := acD (show IG V V (w.heap.size + 1 + 1) (.slice none 0 0) (.slice (some ⟨w.heap.size + 1, 0, none⟩) 1 1) [] from ⟨by omega, rfl, rfl, rfl, Nat.le_refl _, fun _ _ _ => rfl, ki, World.ownsRow_nil _ _ _ _⟩)
 have hin : ∀ j i, y8[j]? = some i → V.cell? ⟨w.heap.size + 1 + 1 + 1, j * 5, none⟩ = some (.int .u8 i.op) ∧ V.cell? ⟨w.heap.size + 1 + 1 + 1, j * 5 + 1, none⟩ = some (.int .i64 i.a) ∧ V.cell? ⟨w.heap.size + 1 + 1 + 1, j * 5 + 2, none⟩ = some (.int .i64 i.b) ∧ V.cell? ⟨w.heap.size + 1 + 1 + 1, j * 5 + 3, none⟩ = some (.int .i64 i.c) ∧ V.cell? ⟨w.heap.size + 1 + 1 + 1, j * 5 + 4, none⟩ = some (.int .i64 i.aS) := fun j i hj => by
  have hl := (List.getElem?_eq_some_iff.1 hj).1
  have hl4 : j < 4 := hl
  obtain rfl | rfl | rfl | rfl : j = 0 ∨ j = 1 ∨ j = 2 ∨ j = 3 := by omega
  all_goals
   simp [y8] at hj
   subst hj
   simp [World.cell?, ks]
 rw [hV]
 obtain ⟨ib, hib⟩ : ∃ ib, w.heap.size + 1 + 1 = ib := ⟨_, rfl⟩
 obtain ⟨sb, MT⟩ : ∃ sb, w.heap.size + 1 + 1 + 1 = sb := ⟨_, rfl⟩
 rw [MT] at hin ⊢
 rw [hib] at SG ⊢
 obtain ⟨eb, TT⟩ : ∃ eb, w.heap.size + 1 = eb := ⟨_, rfl⟩
 rw [TT] at SG ke ⊢
 have BV := acD bV
 have KR := acD kr
 have KE := acD ke
 have tI := acD hin
 clear hV ki kr ke bV ks hin
 go_loopw [3, 4, 5, 15] (fun a3 a4 a5 a15 wr => ∃ (j : Nat) (cv : Value), j ≤ 4 ∧ a15 = .int .i64 (j : Int) ∧ IG V wr ib cv (.slice (some ⟨eb, 0, none⟩) 1 1) ((y8.take j).map fun i => (jo i).1)) (fun _ _ _ a15 _ => 4 - (intOf a15).toNat)
 case atStart => exact ⟨0, _, Nat.zero_le _, rfl, SG.out⟩
 case round =>
  obtain ⟨j, cv, hj, rfl, hG⟩ := hrel
  clear SG
  have HG := acD hG
  have BW := acD (hG.base BV.out abo)
  have sB := BW.out.size
  have Yt := hG.sz
  clear hG
  by_cases hlt : j < 4
  ·obtain ⟨i, hx⟩ : ∃ i, y8[j]? = some i := ⟨_, List.getElem?_eq_getElem (show j < y8.length from hlt)⟩
   obtain ⟨c0, c1, c2, c3, c4⟩ := tI.out j i hx
   have x0 : wr.cell? ⟨sb, j * 5, none⟩ = some (.int .u8 i.op) := (World.cell?_of_block (HG.out.blk sb abo abo)).trans c0
   have x1 : wr.cell? ⟨sb, j * 5 + 1, none⟩ = some (.int .i64 i.a) := (World.cell?_of_block (HG.out.blk sb abo abo)).trans c1
   have x2 : wr.cell? ⟨sb, j * 5 + 2, none⟩ = some (.int .i64 i.b) := (World.cell?_of_block (HG.out.blk sb abo abo)).trans c2
   have x3 : wr.cell? ⟨sb, j * 5 + 3, none⟩ = some (.int .i64 i.c) := (World.cell?_of_block (HG.out.blk sb abo abo)).trans c3
   have x4 : wr.cell? ⟨sb, j * 5 + 4, none⟩ = some (.int .i64 i.aS) := (World.cell?_of_block (HG.out.blk sb abo abo)).trans c4
   have Sn := acD (show (y8.take (j + 1)).map (fun i => (jo i).1) = (y8.take j).map (fun i => (jo i).1) ++ [(jo i).1] by rw [cq hx]; simp)
   have hop := nH.out i (List.mem_of_getElem? hx)
   have dl : decide ((j : Int) < (4 : Int)) = true := decide_eq_true abo
   have fA : sb < wr.heap.size := by omega
   obtain ⟨X, hX⟩ : ∃ X, wr.alloc (.cells #[.int .u8 i.op, .int .i64 i.a, .int .i64 i.b, .int .i64 i.c, .int .i64 i.aS] 64) = X := ⟨_, rfl⟩
   have bX : Below wr.heap.size wr X := hX ▸ (Below.refl _ _).alloc (Nat.le_refl _) _
   have kX : X.heap[wr.heap.size]? = some (.cells #[.int .u8 i.op, .int .i64 i.a, .int .i64 i.b, .int .i64 i.c, .int .i64 i.aS] 64) := hX ▸ heap_alloc_new _ _
   have Jh := acD (sk i hop X (HT.out.below (BW.out.trans (bX.mono sB))))
   obtain ⟨ec, er, Wh⟩ : ∃ ec er, jo i = (ec, er) := ⟨_, _, rfl⟩
   rw [Wh] at Jh Sn
   simp only at Jh Sn
   obtain ⟨ws, N1⟩ : ∃ ws, (y8.take j).map (fun i => (jo i).1) = ws := ⟨_, rfl⟩
   have hwl : ws.length = j := by rw [← N1, List.length_map, List.length_take]; show min j 4 = j; omega
   rw [N1] at HG Sn
   have ZP := acD hwl
   have o0 : X.cell? ⟨wr.heap.size, 0, none⟩ = some (.int .u8 i.op) := by simp [World.cell?, kX]
   have o1 : X.cell? ⟨wr.heap.size, 1, none⟩ = some (.int .i64 i.a) := by simp [World.cell?, kX]
   have o2 : X.cell? ⟨wr.heap.size, 2, none⟩ = some (.int .i64 i.b) := by simp [World.cell?, kX]
   have o3 : X.cell? ⟨wr.heap.size, 3, none⟩ = some (.int .i64 i.c) := by simp [World.cell?, kX]
   have o4 : X.cell? ⟨wr.heap.size, 4, none⟩ = some (.int .i64 i.aS) := by simp [World.cell?, kX]
   have Mc := acD (HG.out.below bX)
   clear c0 c1 c2 c3 c4 hx Wh N1 hwl kX bX hop
   go_upto_region 5 with fail
   clear hX x0 x1 x2 x3 x4
   go_upto_region 6 with (go_at_call 58; refine Jh.out.mono ?_; rintro e Y ⟨rfl, Wq⟩)
   have Ja := Mc.out.below Wq
   obtain ⟨cA, gF, rfl⟩ : ∃ cA gF, cv = .slice cA ws.length gF := by
    rcases Ja.row.2 with ⟨h, h'⟩ | ⟨g, cap', cur, h, _⟩
    ·exact ⟨_, _, by rw [h, h']⟩
    ·exact ⟨_, _, h⟩
   have i0 : Y.cell? ⟨ib, 0, none⟩ = some (.slice cA ws.length gF) := by simp [World.cell?, Ja.im]
   have f0 : Y.frozen? ⟨ib, 0, none⟩ = false := by simp [World.frozen?, Ja.im]
   have QZ := acD Ja
   have QN := acD (show some ib ≠ Value.ownBlock (.slice cA ws.length gF) from fun e' => by have := (Ja.row.lt ib e'.symm).1; have := Ja.ib1; omega)
   have hiY : ib < Y.heap.size := by have := Ja.sz; have := Ja.ib1; omega
   have hVY := Ja.sz
   have hw5 : ws.length ≤ 1000 := by have := ZP.out; omega
   clear Ja Wq o0 o1 o2 o3 o4 Jh Mc
   go_upto_region 7 with (at_builtin; refine wpList_append_own_at _ rfl (.tmp 25) (.tmp 27) 22 rfl V.heap.size 96 iW (.int .u32 0) 1 4 Tryz.underlying22 YZ hW0 hW1 hW2 rfl abr (.slice cA ws.length gF) _ _ rfl (QZ.out.row.alloc _) ⟨Y.heap.size, 0, none⟩ 1 1 [.int .u32 ec] rfl rfl (cell_one_new _ _ _) abt abv abo abD ?_; intro v' W' hown' hgrow _ qC; obtain ⟨g', cap', rfl⟩ := ownsRow_succ hown'; have hc1 := hgrow.cell (a := ⟨ib, 0, none⟩) (v := .slice cA ws.length gF) abF QN.out; have hf1 : W'.frozen? ⟨ib, 0, none⟩ = false := (World.frozen?_of_block (hgrow.block ib abA QN.out)).trans abF)
   have HA := acD (QZ.out.app (x := ec) ((Below.refl Y.heap.size Y).alloc (Nat.le_refl _) _) hgrow (by simpa [Mj] using hown'))
   clear hc1 hf1 qC hgrow hown' i0 f0 QZ QN
   go_wp2_with fail
   go_roundw
   case rel =>
    refine ⟨j + 1, .slice (some ⟨g', 0, none⟩) (ws.length + 1) cap', by omega, by go_num, ?_⟩
    rw [Sn.out]
    exact HA.out
   case measure => simp [intOf]; omega
  ·obtain rfl : j = 4 := by omega
   have dl : decide ((4 : Int) < (4 : Int)) = false := by simp
   rw [show y8.take 4 = y8 from rfl] at HG
   have hwl : (y8.map fun i => (jo i).1).length = 4 := rfl
   have hrw := HG.out.row
   rw [hwl] at hrw
   obtain ⟨cA, gF, rfl⟩ : ∃ cA gF, cv = .slice cA 4 gF := by
    rcases hrw.2 with ⟨h, h'⟩ | ⟨g, cap', cur, h, _⟩
    ·exact ⟨_, _, by rw [h, h']⟩
    ·exact ⟨_, _, h⟩
   have i0 : wr.cell? ⟨ib, 0, none⟩ = some (.slice cA 4 gF) := by simp [World.cell?, HG.out.im]
   have i1 : wr.cell? ⟨ib, 1, none⟩ = some (.slice (some ⟨eb, 0, none⟩) 1 1) := by simp [World.cell?, HG.out.im]
   have i2 : wr.cell? ⟨ib, 2, none⟩ = some (.int .i64 0) := by simp [World.cell?, HG.out.im]
   have i3 : wr.cell? ⟨ib, 3, none⟩ = some (.int .i64 0) := by simp [World.cell?, HG.out.im]
   have kr := (HG.out.blk w.heap.size abo abo).trans KR.out
   have ke := (HG.out.blk eb abo abo).trans KE.out
   have r0 : wr.cell? ⟨w.heap.size, 0, none⟩ = some (.slice none 0 0) := by simp [World.cell?, kr]
   have r1 : wr.cell? ⟨w.heap.size, 1, none⟩ = some (.slice none 0 0) := by simp [World.cell?, kr]
   have r2 : wr.cell? ⟨w.heap.size, 2, none⟩ = some (.int .i64 0) := by simp [World.cell?, kr]
   have r3 : wr.cell? ⟨w.heap.size, 3, none⟩ = some (.int .i64 0) := by simp [World.cell?, kr]
   have f0 : wr.frozen? ⟨w.heap.size, 0, none⟩ = false := by simp [World.frozen?, kr]
   have f1 : wr.frozen? ⟨w.heap.size, 1, none⟩ = false := by simp [World.frozen?, kr]
   have f2 : wr.frozen? ⟨w.heap.size, 2, none⟩ = false := by simp [World.frozen?, kr]
   have f3 : wr.frozen? ⟨w.heap.size, 3, none⟩ = false := by simp [World.frozen?, kr]
   have Su := acD hrw
   have ZJ := acD ke
   clear hrw kr ke hwl
   go_wp2_with fail
   refine bodyPost_ret (v := .agg #[.slice cA 4 gF, .slice (some ⟨eb, 0, none⟩) 1 1, .int .i64 0, .int .i64 0]) (by simp [results, Tryz.results20, go_sem, *]) rfl ⟨⟨_, _, _, _, rfl, rfl, ?_, ?_⟩, ?_⟩
   ·refine ownsRow_base (base := V.heap.size) ?_ abo
    have hne : ∀ q, (Value.slice cA 4 gF).ownBlock = some q → q ≠ w.heap.size := fun q hq => by have := (Su.out.lt q hq).1; omega
    refine ownsRow_setCell_other (ownsRow_setCell_other (ownsRow_setCell_other (ownsRow_setCell_other Su.out ?_ _) ?_ _) ?_ _) ?_ _ <;> exact fun e => hne _ e rfl
   ·refine ⟨fun e he => by simp at he; subst he; show kN.size ≤ maxLen; unfold maxLen; decide, _, 1, rfl, Nat.le_refl _, by unfold maxLen; omega, fun _ => ⟨eb, 0, rfl, by simp; omega, fun i x hx => ?_⟩⟩
    obtain ⟨rfl, rfl⟩ : i = 0 ∧ x = ⟨kN, 0, 4, 0⟩ := by
     cases i with
     | zero => simp at hx; exact ⟨rfl, hx.symm⟩
     | succ i => simp at hx
    have hb : ((((wr.setCell ⟨w.heap.size, 0, none⟩ (.slice cA 4 gF)).setCell ⟨w.heap.size, 1, none⟩ (.slice (some ⟨eb, 0, none⟩) 1 1)).setCell ⟨w.heap.size, 2, none⟩ (.int .i64 0)).setCell ⟨w.heap.size, 3, none⟩ (.int .i64 0)).heap[eb]? = wr.heap[eb]? := by
     have : eb ≠ w.heap.size := by omega
     rw [Below.heap_setCell _ _ _ _ this, Below.heap_setCell _ _ _ _ this, Below.heap_setCell _ _ _ _ this, Below.heap_setCell _ _ _ _ this]
    have hb2 := hb.trans ZJ.out
    refine ⟨?_, ?_, ?_, ?_⟩ <;> simp [World.cell?, hb2, kN]
   ·refine Below.setCell (Below.setCell (Below.setCell (Below.setCell BW.out ?_ _) ?_ _) ?_ _) ?_ _ <;> exact Nat.le_refl _
end
section
open Go.RowKit
theorem y7 : ∀ x ∈ qs, Fa 4 eO qs x := by
 have key : ∀ a : Nat, a < 4 → a < 4 ∧ (cx (eO a)).2 = 0 ∧ 0 ≤ (aA eO (a : Int)).op := fun a ha => by
  obtain rfl | rfl | rfl | rfl : a = 0 ∨ a = 1 ∨ a = 2 ∨ a = 3 := by omega
  ·exact ⟨by omega, by rw [sm0], by show 0 ≤ (cx (eO 0)).1.op; rw [sm0]; decide⟩
  ·exact ⟨by omega, by rw [sm1], by show 0 ≤ (cx (eO 1)).1.op; rw [sm1]; decide⟩
  ·exact ⟨by omega, by rw [sm2], by show 0 ≤ (cx (eO 2)).1.op; rw [sm2]; decide⟩
  ·exact ⟨by omega, by rw [sm3], by show 0 ≤ (cx (eO 3)).1.op; rw [sm3]; decide⟩
 intro x hx
 simp only [qs, List.mem_cons, List.not_mem_nil, or_false] at hx
 rcases hx with rfl | rfl
 ·exact ⟨by decide, by decide, by simp, by simp [qs], fun a h1 h2 => key a (by simp only at h2; omega)⟩
 ·exact ⟨by decide, by decide, by simp, by simp [qs], fun a h1 h2 => key a (by simp only at h2; omega)⟩
theorem FI : bz eO qs = smA := by
 have h0 : codeFrom eO 0 1 = [⟨14, 10, 0, 0, 0⟩] := by
  show [aA eO (0 + 0)] = _
  rw [show ((0 : Int) + 0) = 0 by omega, Js]
 have h1 : codeFrom eO 1 3 = [⟨25, 10, 0, 0, 4⟩, ⟨15, 10, 10, 0, 1⟩, ⟨24, 0, 0, 0, -3⟩] := by
  show [aA eO (1 + 0), aA eO (1 + 1), aA eO (1 + 2)] = _
  rw [show ((1 : Int) + 0) = 1 by omega, show ((1 : Int) + 1) = 2 by omega, show ((1 : Int) + 2) = 3 by omega, FA, Jr, Jq]
 show [AB.mk (codeFrom eO 0 1) [1], AB.mk (codeFrom eO 1 3) [1]] = smA
 rw [h0, h1]
 rfl
def Vx : AS := ⟨[true, true], [aq, nL 2147483647], [0, 3]⟩
theorem FE {s : AS} (h : Ends (bz eO qs) (ct qs.length) s) : s = Vx := by
 rw [FI] at h
 exact Ends.Kn h Ju
theorem FH : cZ (bz eO qs) Vx qs.length = [] := by rw [FI]; exact Jv
theorem Mn : sO eO qs [true, true] [aq, nL 2147483647] 2 = some (nL 3) := by
 have h : codeFrom eO 1 1 = [⟨25, 10, 0, 0, 4⟩] := by
  show [aA eO (1 + 0)] = _
  rw [show ((1 : Int) + 0) = 1 by omega, FA]
 have hf : ku qs 2 = some 1 := by decide
 unfold sO
 rw [if_pos ⟨rfl, rfl⟩, hf]
 show (if true = true then cQ (codeFrom eO 1 1) (nL 2147483647) else none) = _
 rw [if_pos rfl, h]
 exact Cx
theorem FK (v : Int) (h : aP v) : R16 (nL v) := R16.zero.set _ ⟨by unfold aP; simp, h⟩
theorem jJ {w : World} {B : Nat} {A : Option Addr} {cap : Nat} (h : w.ownsRow B 96 1 (.slice A 4 cap) 4 (Mj (y8.map fun i => (jo i).1))) : Words w (.slice A 4 cap) 4 eO :=
 Dd (ws := Ta) h abr OI
theorem gX {w : World} {b B : Nat} {rv iv dv : Value} {rl : List Bool} {il : List RG} {L : List (Int × Int)} (hz : w.heap[b]? = some (.cells #[.slice none 0 0, .slice none 0 0, .slice none 0 0] 42 (0, 0))) (hN : Nv B rv iv dv) (hb : b < B) (hR : oD w rv iv rl il) (hP : EK w dv L) (w' : World) (hw : w' = ((w.setCell ⟨b, 0, none⟩ rv).setCell ⟨b, 1, none⟩ iv).setCell ⟨b, 2, none⟩ dv) :
  w'.heap[b]? = some (.cells #[rv, iv, dv] 42 (0, 0)) ∧ oD w' rv iv rl il ∧ EK w' dv L := by
 subst hw
 have h1 := heap_setCell_same _ b 0 _ _ rv hz
 have h2 := heap_setCell_same _ b 1 _ _ iv h1
 have h3 := heap_setCell_same _ b 2 _ _ dv h2
 have Rq : ∀ q, q ≠ b → (((w.setCell ⟨b, 0, none⟩ rv).setCell ⟨b, 1, none⟩ iv).setCell ⟨b, 2, none⟩ dv).heap[q]? = w.heap[q]? := fun q hq => by
  rw [Below.heap_setCell _ _ _ _ hq, Below.heap_setCell _ _ _ _ hq, Below.heap_setCell _ _ _ _ hq]
 have hs : (((w.setCell ⟨b, 0, none⟩ rv).setCell ⟨b, 1, none⟩ iv).setCell ⟨b, 2, none⟩ dv).heap.size = w.heap.size := by simp
 refine ⟨h3, ?_, ?_⟩
 ·obtain ⟨⟨A, cap, e1, e2, e3, e4⟩, ⟨A', cap', f1, f2, f3, f4⟩⟩ := hR
  refine ⟨⟨A, cap, e1, e2, e3, fun h0 => ?_⟩, ⟨A', cap', f1, f2, f3, fun h0 => ?_⟩⟩
  ·obtain ⟨q, off, ha, hq, hc⟩ := e4 h0
   have hne : q ≠ b := by have := hN q (.inl (by rw [e1, ha]; rfl)); omega
   exact ⟨q, off, ha, by omega, fun k hk => (World.cell?_of_block (Rq q hne)).trans (hc k hk)⟩
  ·obtain ⟨q, off, ha, hq, hc⟩ := f4 h0
   have hne : q ≠ b := by have := hN q (.inr (.inl (by rw [f1, ha]; rfl))); omega
   exact ⟨q, off, ha, by omega, fun k hk j v hv => (World.cell?_of_block (Rq q hne)).trans (hc k hk j v hv)⟩
 ·obtain ⟨A, cap, e1, e2, e3, e4⟩ := hP
  refine ⟨A, cap, e1, e2, e3, fun h0 => ?_⟩
  obtain ⟨q, off, ha, hq, hc⟩ := e4 h0
  have hne : q ≠ b := by have := hN q (.inr (.inr (by rw [e1, ha]; rfl))); omega
  exact ⟨q, off, ha, by omega, fun i p hp => ⟨(World.cell?_of_block (Rq q hne)).trans (hc i p hp).1, (World.cell?_of_block (Rq q hne)).trans (hc i p hp).2⟩⟩
theorem yV (lF : wu) (w : World) (T : iU w) : Calls Tryz.prog 5 #[] w fun e w' => e = .returned (.bool true) ∧ Below w.heap.size w w' := by
 have HT := acD T
 clear T
 go_enter Tryz.func5, Tryz.ntmps5
 go_upto_region 2 with (first | (go_at_call 20; refine (mO w HT.out).mono ?_; rintro e W1 ⟨⟨cv, ev, cA, gF, rfl, rfl, hrow, hent⟩, hb1⟩; have hw1 := jJ hrow) | (go_at_call 19; refine (Er _ _ 0 0 4 eO [⟨kN, 0, 4, 0⟩] 0 _ W1 (HT.out.below hb1) hw1 hent Jt rfl).mono ?_; rintro e W2 ⟨r, bv, pv, hout, rfl, hG, hP, hb2⟩; obtain rfl := Ml hout; obtain ⟨GA, cj, nG, -, -, -⟩ := id hG; obtain ⟨PA, dV, N9, -, -, -⟩ := id hP; obtain rfl : bv = .slice GA 2 cj := nG; obtain rfl : pv = .slice PA 2 dV := N9))
 obtain ⟨b1, M9⟩ : ∃ b1, W2.heap.size = b1 := ⟨_, rfl⟩
 obtain ⟨X, hX⟩ : ∃ X, W2.alloc (.cells #[.slice GA 2 cj, .slice PA 2 dV] 30) = X := ⟨_, rfl⟩
 rw [hX]
 have R9 : Below W2.heap.size W2 X := hX ▸ (Below.refl _ _).alloc (Nat.le_refl _) _
 have kX : X.heap[b1]? = some (.cells #[.slice GA 2 cj, .slice PA 2 dV] 30 (0, 0)) := by rw [← M9, ← hX]; exact heap_alloc_new _ _
 rw [M9]
 have zV : Below w.heap.size w W2 := hb1.trans (hb2.mono hb1.size)
 have BX := acD (zV.trans (R9.mono zV.size))
 have x0 : X.cell? ⟨b1, 0, none⟩ = some (.slice GA 2 cj) := by simp [World.cell?, kX]
 have x1 : X.cell? ⟨b1, 1, none⟩ = some (.slice PA 2 dV) := by simp [World.cell?, kX]
 have lb1 : b1 < X.heap.size := ag kX
 have HG := acD (hG.below R9)
 have HP := acD (hP.below R9)
 have II := acD (HT.out.below BX.out)
 have KX := acD kX
 clear hX kX zV hb1 hb2 R9 hG hP hent hrow hw1 M9 hout
 go_cut [4, 5] from 14 to 19 (fun a4 a5 wx => ∃ b4 rv iv dv, a4 = .pointer (some ⟨b4, 0, none⟩) ∧ a5 = .int .i64 0 ∧ wx.heap[b4]? = some (.cells #[rv, iv, dv] 42 (0, 0)) ∧ oD wx rv iv [true, true] [aq, nL 2147483647] ∧ EK wx dv [] ∧ Below X.heap.size X wx)
 case first =>
  go_region_held3 (fun w' => (∀ b o, b < X.heap.size → w'.cell? ⟨b, o, none⟩ = X.cell? ⟨b, o, none⟩) ∧ Below X.heap.size X w') ((exact GM (by (repeat (first | (with_reducible assumption) | (with_reducible exact Below.refl _ _) | (with_reducible refine Below.drew ?_) | (with_reducible refine Below.alloc ?_ abz _) | (with_reducible refine Below.setCell ?_ abq _) | (with_reducible refine Below.aX ?_ abq _ _))))))
   (first | (go_at_call 20; refine (mO _ (II.out.below (by (repeat (first | (with_reducible assumption) | (with_reducible exact Below.refl _ _) | (with_reducible refine Below.drew ?_) | (with_reducible refine Below.alloc ?_ abz _) | (with_reducible refine Below.setCell ?_ abq _) | (with_reducible refine Below.aX ?_ abq _ _)))))).mono ?_; rintro e w2 ⟨⟨cv2, ev2, A2, ym, rfl, rfl, hrow2, PD⟩, hb2⟩; have hk2 : Below X.heap.size X w2 := Below.trans (by (repeat (first | (with_reducible assumption) | (with_reducible exact Below.refl _ _) | (with_reducible refine Below.drew ?_) | (with_reducible refine Below.alloc ?_ abz _) | (with_reducible refine Below.setCell ?_ abq _) | (with_reducible refine Below.aX ?_ abq _ _)))) (Below.mono hb2 abI); have hw2 := jJ hrow2; have hs2 := hk2.size; (try have hz2 : w2.heap[X.heap.size]? = some (.cells #[.slice none 0 0, .slice none 0 0, .slice none 0 0] 42 (0, 0)) := (hb2.block _ aby).trans (heap_alloc_new X.drew _)); clear hb2) | (go_at_call 7; refine (lF _ _ _ _ 0 0 4 eO qs [[], [0, 1]] _ (II.out.below (by (repeat (first | (with_reducible assumption) | (with_reducible exact Below.refl _ _) | (with_reducible refine Below.drew ?_) | (with_reducible refine Below.alloc ?_ abz _) | (with_reducible refine Below.setCell ?_ abq _) | (with_reducible refine Below.aX ?_ abq _ _))))) (hw2.below (by (repeat (first | (with_reducible assumption) | (with_reducible exact Below.refl _ _) | (with_reducible refine Below.drew ?_) | (with_reducible refine Below.alloc ?_ abz _) | (with_reducible refine Below.setCell ?_ abq _) | (with_reducible refine Below.aX ?_ abq _ _))))) (HG.out.below (by (repeat (first | (with_reducible assumption) | (with_reducible exact Below.refl _ _) | (with_reducible refine Below.drew ?_) | (with_reducible refine Below.alloc ?_ abz _) | (with_reducible refine Below.setCell ?_ abq _) | (with_reducible refine Below.aX ?_ abq _ _))))) (HP.out.below (by (repeat (first | (with_reducible assumption) | (with_reducible exact Below.refl _ _) | (with_reducible refine Below.drew ?_) | (with_reducible refine Below.alloc ?_ abz _) | (with_reducible refine Below.setCell ?_ abq _) | (with_reducible refine Below.aX ?_ abq _ _))))) FC abr abr y7).mono ?_; rintro e w3 ⟨⟨s3, rv, iv, dv, hE, rfl, hR, EX, hN⟩, hb3⟩; obtain rfl := FE hE; rw [FH] at EX; obtain ⟨⟨RA, vG, JY, -⟩, ⟨IA, vS, hiv, -⟩⟩ := id hR; obtain ⟨DA, tV, Oc, -⟩ := id EX; obtain rfl : rv = .slice RA 2 vG := JY; obtain rfl : iv = .slice IA 2 vS := hiv; obtain rfl : dv = .slice DA 0 tV := Oc; have hk3 : Below X.heap.size X w3 := Below.trans (by (repeat (first | (with_reducible assumption) | (with_reducible exact Below.refl _ _) | (with_reducible refine Below.drew ?_) | (with_reducible refine Below.alloc ?_ abz _) | (with_reducible refine Below.setCell ?_ abq _) | (with_reducible refine Below.aX ?_ abq _ _)))) (Below.mono hb3 abI); have hs3 := hk3.size; have MT := hb3.size; (try have hz3 : w3.heap[X.heap.size]? = some (.cells #[.slice none 0 0, .slice none 0 0, .slice none 0 0] 42 (0, 0)) := (hb3.block _ (by first | exact ag hz2 | (simp; omega))).trans hz2); (try have hz4 : w3.heap[w2.heap.size]? = some (.cells #[.slice none 0 0, .slice none 0 0, .slice none 0 0] 42 (0, 0)) := (hb3.block _ aby).trans (heap_alloc_new w2 _)); (try have z30 : w3.cell? ⟨X.heap.size, 0, none⟩ = some (.slice none 0 0) := by simp [World.cell?, hz3]); (try have y30 : w3.frozen? ⟨X.heap.size, 0, none⟩ = false := by simp [World.frozen?, hz3]); (try have z31 : w3.cell? ⟨X.heap.size, 1, none⟩ = some (.slice none 0 0) := by simp [World.cell?, hz3]); (try have y31 : w3.frozen? ⟨X.heap.size, 1, none⟩ = false := by simp [World.frozen?, hz3]); (try have z32 : w3.cell? ⟨X.heap.size, 2, none⟩ = some (.slice none 0 0) := by simp [World.cell?, hz3]); (try have y32 : w3.frozen? ⟨X.heap.size, 2, none⟩ = false := by simp [World.frozen?, hz3]); (try have z40 : w3.cell? ⟨w2.heap.size, 0, none⟩ = some (.slice none 0 0) := by simp [World.cell?, hz4]); (try have y40 : w3.frozen? ⟨w2.heap.size, 0, none⟩ = false := by simp [World.frozen?, hz4]); (try have z41 : w3.cell? ⟨w2.heap.size, 1, none⟩ = some (.slice none 0 0) := by simp [World.cell?, hz4]); (try have y41 : w3.frozen? ⟨w2.heap.size, 1, none⟩ = false := by simp [World.frozen?, hz4]); (try have z42 : w3.cell? ⟨w2.heap.size, 2, none⟩ = some (.slice none 0 0) := by simp [World.cell?, hz4]); (try have y42 : w3.frozen? ⟨w2.heap.size, 2, none⟩ = false := by simp [World.frozen?, hz4])))
  all_goals (go_wp2_with fail; go_meet)
  all_goals first
   | exact ⟨_, _, _, _, rfl, rfl, heap_alloc_new _ _, hR.below ((Below.refl _ _).alloc (Nat.le_refl _) _), EX.below ((Below.refl _ _).alloc (Nat.le_refl _) _), Below.alloc hk3 hs3 _⟩
   | exact ⟨_, _, _, _, rfl, rfl, (gX hz4 hN aby hR EX _ rfl).1, (gX hz4 hN aby hR EX _ rfl).2.1, (gX hz4 hN aby hR EX _ rfl).2.2, Below.setCell (Below.setCell (Below.setCell hk3 hs2 _) hs2 _) hs2 _⟩
   | exact ⟨_, _, _, _, rfl, rfl, (gX hz3 hN (ag hz2) hR EX _ rfl).1, (gX hz3 hN (ag hz2) hR EX _ rfl).2.1, (gX hz3 hN (ag hz2) hR EX _ rfl).2.2, Below.setCell (Below.setCell (Below.setCell hk3 (Nat.le_refl _) _) (Nat.le_refl _) _) (Nat.le_refl _) _⟩
 case rest =>
  obtain ⟨b4, rv, iv, dv, rfl, rfl, k4, hR, EX, Oj⟩ := hcut
  obtain ⟨Y, hY⟩ : ∃ Y : World, Y = wc := ⟨_, rfl⟩
  subst hY
  have y0 : Y.cell? ⟨b1, 0, none⟩ = _ := (Oj.cell (p := ⟨b1, 0, none⟩) lb1).trans x0
  have y1 : Y.cell? ⟨b1, 1, none⟩ = _ := (Oj.cell (p := ⟨b1, 1, none⟩) lb1).trans x1
  have lY1 : b1 < Y.heap.size := Nat.lt_of_lt_of_le lb1 Oj.size
  have Tj : b4 < Y.heap.size := ag k4
  obtain ⟨⟨RA, vG, JY, -, -, VU⟩, ⟨IA, vS, hiv, -, -, Wd⟩⟩ := id hR
  obtain ⟨DA, tV, Oc, -⟩ := id EX
  obtain ⟨rq, ro, rfl, N6, hrc⟩ := VU abr
  obtain ⟨iq, io, rfl, Wc, hic⟩ := Wd abr
  obtain rfl : rv = .slice (some ⟨rq, ro, none⟩) 2 vG := JY
  obtain rfl : iv = .slice (some ⟨iq, io, none⟩) 2 vS := hiv
  obtain rfl : dv = .slice DA 0 tV := Oc
  have y40 : Y.cell? ⟨b4, 0, none⟩ = some (.slice (some ⟨rq, ro, none⟩) 2 vG) := by simp [World.cell?, k4]
  have y41 : Y.cell? ⟨b4, 1, none⟩ = some (.slice (some ⟨iq, io, none⟩) 2 vS) := by simp [World.cell?, k4]
  have y42 : Y.cell? ⟨b4, 2, none⟩ = some (.slice DA 0 tV) := by simp [World.cell?, k4]
  have yr1 : Y.cell? ⟨rq, ro + 1, none⟩ = some (.bool true) := hrc 1 abr
  have yi0 : Y.cell? ⟨iq, io + 52, none⟩ = some (.int .i32 0) := hic 1 abr 20 _ rfl
  have yi1 : Y.cell? ⟨iq, io + 53, none⟩ = some (.int .i32 2147483647) := hic 1 abr 21 _ rfl
  have QZ := acD (HG.out.below Oj)
  have AP := acD (II.out.below Oj)
  have Ss := acD hR
  have BY := acD (BX.out.trans (Oj.mono BX.out.size))
  have K4 := acD k4
  clear hrc hic VU Wd x0 x1 hR EX k4 HG II HP
  obtain ⟨jr, xP⟩ : ∃ r, nL 3 = r := ⟨_, rfl⟩
  have yG := acD (show R16 jr from xP ▸ FK 3 abY)
  have Pr : (aa jr).length = 32 := by rw [ax, yG.out.len]
  have TG : ∀ v ∈ aa jr, v.oneCell' = true := fc jr
  have J6 : (Tryz.prog.info? 56).map (·.size) = some (aa jr).length := by rw [Pr]; kernel_rfl
  have tj := acD (show cM (sO eO qs [true, true] [aq, nL 2147483647] 2) = .tuple #[.agg (aa jr).toArray, .bool true] by rw [Mn, xP]; rfl)
  have HJ := acD xP
  have SU := acD (show ∀ r ∈ [aq, nL 2147483647], R16 r from fun r hr => by
   simp only [List.mem_cons, List.not_mem_nil, or_false] at hr
   rcases hr with rfl | rfl
   ·exact R16.zero
   ·exact FK _ abY)
  have qp := acD (show ∀ x ∈ qs, 0 ≤ x.lo ∧ ∀ a : Nat, x.lo ≤ (a : Int) → (a : Int) < x.hi → a < 4 ∧ (cx (eO a)).2 = 0 ∧ 0 ≤ (aA eO (a : Int)).op from fun x hx => ⟨(y7 x hx).lo, (y7 x hx).RV⟩)
  clear xP
  go_upto_region 3 with fail
  go_cut [6, 7] from 20 to 26 (fun a6 a7 wx => ∃ b6, a6 = .pointer (some ⟨b6, 0, none⟩) ∧ a7 = .bool true ∧ aH wx b6 56 jr ∧ Below Y.heap.size Y wx)
  case first =>
   go_region_held3 (fun w' => (∀ b o, b < Y.heap.size → w'.cell? ⟨b, o, none⟩ = Y.cell? ⟨b, o, none⟩) ∧ Below Y.heap.size Y w') ((exact GM (by (repeat (first | (with_reducible assumption) | (with_reducible exact Below.refl _ _) | (with_reducible refine Below.drew ?_) | (with_reducible refine Below.alloc ?_ abz _) | (with_reducible refine Below.setCell ?_ abq _) | (with_reducible refine Below.aX ?_ abq _ _))))))
    (first | (go_at_call 20; refine (mO _ (AP.out.below (by (repeat (first | (with_reducible assumption) | (with_reducible exact Below.refl _ _) | (with_reducible refine Below.drew ?_) | (with_reducible refine Below.alloc ?_ abz _) | (with_reducible refine Below.setCell ?_ abq _) | (with_reducible refine Below.aX ?_ abq _ _)))))).mono ?_; rintro e w2 ⟨⟨cv2, ev2, A2, ym, rfl, rfl, hrow2, PD⟩, hb2⟩; have hk2 : Below Y.heap.size Y w2 := Below.trans (by (repeat (first | (with_reducible assumption) | (with_reducible exact Below.refl _ _) | (with_reducible refine Below.drew ?_) | (with_reducible refine Below.alloc ?_ abz _) | (with_reducible refine Below.setCell ?_ abq _) | (with_reducible refine Below.aX ?_ abq _ _)))) (Below.mono hb2 abI); have hw2 := jJ hrow2; have hs2 := hk2.size; have ht2 := oO w2; (try have hz2 : aH w2 Y.heap.size 56 aq := (hb2.block _ aby).trans (heap_alloc_new Y.drew _)); clear hb2) | (go_at_call 21; refine (Az _ _ _ _ _ _ _ 0 0 4 eO qs [true, true] [aq, nL 2147483647] 2 _ (AP.out.below (by (repeat (first | (with_reducible assumption) | (with_reducible exact Below.refl _ _) | (with_reducible refine Below.drew ?_) | (with_reducible refine Below.alloc ?_ abz _) | (with_reducible refine Below.setCell ?_ abq _) | (with_reducible refine Below.aX ?_ abq _ _))))) (hw2.below (by (repeat (first | (with_reducible assumption) | (with_reducible exact Below.refl _ _) | (with_reducible refine Below.drew ?_) | (with_reducible refine Below.alloc ?_ abz _) | (with_reducible refine Below.setCell ?_ abq _) | (with_reducible refine Below.aX ?_ abq _ _))))) (QZ.out.below (by (repeat (first | (with_reducible assumption) | (with_reducible exact Below.refl _ _) | (with_reducible refine Below.drew ?_) | (with_reducible refine Below.alloc ?_ abz _) | (with_reducible refine Below.setCell ?_ abq _) | (with_reducible refine Below.aX ?_ abq _ _))))) (Ss.out.below (by (repeat (first | (with_reducible assumption) | (with_reducible exact Below.refl _ _) | (with_reducible refine Below.drew ?_) | (with_reducible refine Below.alloc ?_ abz _) | (with_reducible refine Below.setCell ?_ abq _) | (with_reducible refine Below.aX ?_ abq _ _))))) SU.out qp.out).mono ?_; rintro e w3 ⟨rfl, hb3⟩; rw [tj.out]; have hk3 : Below Y.heap.size Y w3 := Below.trans (by (repeat (first | (with_reducible assumption) | (with_reducible exact Below.refl _ _) | (with_reducible refine Below.drew ?_) | (with_reducible refine Below.alloc ?_ abz _) | (with_reducible refine Below.setCell ?_ abq _) | (with_reducible refine Below.aX ?_ abq _ _)))) (Below.mono hb3 abI); have hs3 := hk3.size; have MT := hb3.size; have ht3 := oO w3; (try have hz3 : aH w3 Y.heap.size 56 aq := (hb3.block _ (by first | exact hz2.lt | (simp; omega))).trans hz2); (try have hz4 : aH w3 w2.heap.size 56 aq := (hb3.block _ aby).trans (heap_alloc_new w2 _)); (try have hy3 : w3.there Y.heap.size 0 32 := fW hz3); (try have hy4 : w3.there w2.heap.size 0 32 := fW hz4)))
   all_goals (go_wp2_with fail; go_meet)
   all_goals first
    | exact ⟨_, rfl, rfl, gS (z := aq) (heap_alloc_new _ _) ak yG.out.len, Below.aX (Below.alloc hk3 hs3 _) hs3 _ _⟩
    | exact ⟨_, rfl, rfl, gS hz4 ak yG.out.len, Below.aX hk3 hs2 _ _⟩
    | exact ⟨_, rfl, rfl, gS hz3 ak yG.out.len, Below.aX hk3 (Nat.le_refl _) _ _⟩
  case rest =>
   obtain ⟨b6, rfl, rfl, k6, LR⟩ := hcut
   obtain ⟨Z, hZ⟩ : ∃ Z : World, Z = wc := ⟨_, rfl⟩
   subst hZ
   have z40 : Z.cell? ⟨b4, 0, none⟩ = _ := (LR.cell (p := ⟨b4, 0, none⟩) Tj).trans y40
   have z41 : Z.cell? ⟨b4, 1, none⟩ = _ := (LR.cell (p := ⟨b4, 1, none⟩) Tj).trans y41
   have z42 : Z.cell? ⟨b4, 2, none⟩ = _ := (LR.cell (p := ⟨b4, 2, none⟩) Tj).trans y42
   have zr1 : Z.cell? ⟨rq, ro + 1, none⟩ = _ := (LR.cell (p := ⟨rq, ro + 1, none⟩) N6).trans yr1
   have zi0 : Z.cell? ⟨iq, io + 52, none⟩ = _ := (LR.cell (p := ⟨iq, io + 52, none⟩) Wc).trans yi0
   have zi1 : Z.cell? ⟨iq, io + 53, none⟩ = _ := (LR.cell (p := ⟨iq, io + 53, none⟩) Wc).trans yi1
   have kk6 : aH Z b6 56 (nL 3) := HJ.out ▸ k6
   have z60 : Z.cell? ⟨b6, 20, none⟩ = some (.int .i32 0) := kk6.lo (k := 10) abr
   have z61 : Z.cell? ⟨b6, 21, none⟩ = some (.int .i32 3) := kk6.hi (k := 10) abr
   have SN := acD (BY.out.trans (LR.mono BY.out.size))
   clear y0 y1 y40 y41 y42 yr1 yi0 yi1 kk6 k6 LR J6 Pr TG
   go_wp2_with fail
   go_ret
   exact ⟨rfl, SN.out⟩
end
end Go.Proofs.YtebklpnkcicpjaaGreatDoor
