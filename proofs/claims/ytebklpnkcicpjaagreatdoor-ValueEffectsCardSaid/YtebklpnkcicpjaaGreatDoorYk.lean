/-
  What is proved here: parts aFix, aVi, aAz0, aSmp, aSa, aAk.
-/
import Derived.Test.YtebklpnkcicpjaaGreatDoorYa
import Derived.Test.YtebklpnkcicpjaaGreatDoorYi
import Derived.Test.YtebklpnkcicpjaaGreatDoorYj
import Derived.BigRegion
import Derived.Deep.RegionHeld3
import Derived.Deep.DeepCutAuto
import Derived.Test.YtebklpnkcicpjaaGreatDoorYe
import Derived.Test.YtebklpnkcicpjaaGreatDoorYb
import Derived.Test.YtebklpnkcicpjaaGreatDoorYh
namespace Go.Proofs.YtebklpnkcicpjaaGreatDoor
set_option linter.unusedVariables false
set_option linter.unusedSimpArgs false
set_option maxRecDepth 100000
set_option maxHeartbeats 8000000
section
open Go.RowKit
def lZ (s : AS) (b : Nat) : RG := s.cJ.getD b []
def zeros : List Int := List.replicate 16 0
structure Fx (n : Nat) (s : AS) : Prop where
 ou : vt n s
 z : ∀ b, b < n → rg (lZ s b) 0 = (0, 0)
 r0 : s.reach.getD 0 false = true
 c0 : Mi zeros (lZ s 0)
 un : ∀ b, b < n → s.reach.getD b false = false → lZ s b = ak
theorem BC {i : bB} {r a : RG} (h0 : 0 ≤ i.op) (hr : R16 r) (h : bQ i r = some a) : rg a 0 = rg r 0 ∧ bk r = true := by
 unfold bQ at h
 split at h
 ·rename_i hv
  refine ⟨?_, hv.2⟩
  obtain ⟨⟨a0, a1⟩, _⟩ := gQ h0 hv.1
  have key : ∀ x, rg (aO r i.a x) 0 = rg r 0 := fun x => by
   rw [tZ a0 (by rw [hr.len]; omega) _ (Int.le_refl _), if_neg TX]
  (repeat' split at h) <;> first | (cases h; exact key _) | (cases h; rfl) | cases h
 ·cases h
theorem oP {i : bB} {r a : RG} {t : Bool} (h0 : 0 ≤ i.op) (hr : R16 r) (h : cU i r t = some a) : rg a 0 = rg r 0 := by
 unfold cU at h
 split at h
 ·rename_i hv
  obtain ⟨⟨a0, a1⟩, _⟩ := gQ h0 hv.1
  have key : ∀ x, rg (aO r i.a x) 0 = rg r 0 := fun x => by
   rw [tZ a0 (by rw [hr.len]; omega) _ (Int.le_refl _), if_neg TX]
  (repeat' split at h) <;> first | (cases h; exact key _) | (cases h; rfl) | cases h
 ·cases h
theorem wN {r m : RG} (hr : R16 r) (hm : R16 m) (h1 : rg r 0 = (0, 0)) (h2 : rg m 0 = (0, 0)) : rg (b7 r m) 0 = (0, 0) := by
 have := xY hr hm (k := 0) TX
 rw [show ((0 : Nat) : Int) = 0 from rfl] at this
 rw [this, h1, h2]
 decide
theorem Em {r m : RG} (hr : R16 r) (hm : R16 m) (h1 : rg r 0 = (0, 0)) (h2 : rg m 0 = (0, 0)) : rg (dM r m) 0 = (0, 0) := by
 have := tY hr hm (k := 0) TX
 rw [show ((0 : Nat) : Int) = 0 from rfl] at this
 rw [this, h1, h2]
 decide
theorem BP : ∀ {l : List bB} {r a : RG}, (∀ i ∈ l, 0 ≤ i.op) → R16 r → dJ l r = some a → rg a 0 = rg r 0
 | [], r, a, _, _, h => by cases h; rfl
 | i :: l, r, a, hl, hr, h => by
  unfold dJ at h
  split at h
  ·cases h
  ·rename_i r' e
   rw [BP (fun j hj => hl j (List.mem_cons_of_mem _ hj)) (gR (hl i (List.mem_cons_self ..)) hr e) h]
   exact (BC (hl i (List.mem_cons_self ..)) hr e).1
theorem Fz {last : bB} {m k : Nat} {r a : RG} (h0 : 0 ≤ last.op) (hr : R16 r) (hz : rg r 0 = (0, 0)) (h : dL last m k r = some a) : rg a 0 = (0, 0) := by
 unfold dL at h
 split at h
 ·cases h; exact hz
 split at h
 ·rw [oP h0 hr h]; exact hz
 ·split at h
  ·rw [oP h0 hr h]; exact hz
  ·rename_i e _
   cases h
   rw [oP h0 hr Um]; exact hz
  ·rename_i e1 e2
   cases h
   exact wN (dF hr e1) (dF hr e2) (by rw [oP h0 hr e1]; exact hz) (by rw [oP h0 hr e2]; exact hz)
theorem yA {x y : Int × Int} (wx : aK x.1 ∧ aK x.2) (h : Sub x y) : Sub x (aJ x y) := by
 unfold aK at wx
 unfold aJ emp Sub at *
 by_cases h1 : x.2 < x.1
 ·exact .inl h1
 ·by_cases h2 : y.2 < y.1
  ·simp [h1, h2]
  ·simp only [h1, h2, decide_false, Bool.false_eq_true, if_false]
   right
   constructor <;> split <;> omega
def newR (s : AS) (t : Nat) (r : RG) : RG := if 2 ≤ s.rep.getD t 0 then dM (s.cJ.getD t []) (b7 (s.cJ.getD t []) r) else b7 (s.cJ.getD t []) r
theorem Ct {n : Nat} {s : AS} (h : vt n s) {t : Nat} (ht : t < n) {r : RG} (hr : R16 r) : R16 (newR s t r) ∧ xR (s.cJ.getD t []) (newR s t r) ∧ (rg (s.cJ.getD t []) 0 = (0, 0) → rg r 0 = (0, 0) → rg (newR s t r) 0 = (0, 0)) := by
 have hg := h.get ht
 have hj := hg.join hr
 unfold newR
 split
 ·refine ⟨hg.tI hj, xR.of (fun k hk => ?_) hg (hg.tI hj), fun e1 e2 => Em hg hj e1 (wN hg hr e1 e2)⟩
  rw [tY hg hj hk]
  exact yA (hg.at_ _) (uz hg hr _)
 ·exact ⟨hj, uz hg hr, fun e1 e2 => wN hg hr e1 e2⟩
theorem Fx.step {n : Nat} {s : AS} (h : Fx n s) {t : Nat} (ht : t < n) {o : Option RG} (ho : ∀ r, o = some r → R16 r ∧ rg r 0 = (0, 0)) : Fx n (dO s t o).1 := by
 have ha := (jK h.ou ht o (fun r hr => (ho r hr).1)).1
 cases o with
 | none => exact h
 | some r =>
  obtain ⟨h16, hz⟩ := ho r rfl
  unfold dO at ha ⊢
  simp only at ha ⊢
  have l1 := h.ou.l1
  have l2 := h.ou.l2
  by_cases h1 : s.reach.getD t false = false
  ·rw [if_pos h1] at ha ⊢
   have ht0 : t ≠ 0 := fun e => by rw [e, h.r0] at h1; cases h1
   refine ⟨ha, fun b hb => ?_, ?_, ?_, fun b hb hrb => ?_⟩
   ·unfold lZ
    simp only
    by_cases e : b = t
    ·subst e; rw [cT TX]; exact hz
    ·rw [bT e]; exact h.z b hb
   ·simp only; rw [bT (Ne.symm ht0)]; exact h.r0
   ·unfold lZ; simp only; rw [bT (Ne.symm ht0)]; exact h.c0
   ·unfold lZ
    simp only at hrb ⊢
    by_cases e : b = t
    ·subst e; rw [cT TX] at hrb; cases hrb
    ·rw [bT e] at hrb ⊢; exact h.un b hb hrb
  ·rw [if_neg h1] at ha ⊢
   by_cases h2 : b7 (s.cJ.getD t []) r = s.cJ.getD t []
   ·rw [if_pos h2]; exact h
   ·rw [if_neg h2] at ha ⊢
    obtain ⟨n1, n2, n3⟩ := Ct h.ou ht h16
    refine ⟨ha, fun b hb => ?_, h.r0, ?_, fun b hb hrb => ?_⟩
    ·unfold lZ
     simp only
     by_cases e : b = t
     ·subst e; rw [cT TX]; exact n3 (h.z b hb) hz
     ·rw [bT e]; exact h.z b hb
    ·unfold lZ
     simp only
     by_cases e : t = 0
     ·subst e; rw [cT TX]; exact h.c0.sub n2
     ·rw [bT (Ne.symm e)]; exact h.c0
    ·unfold lZ
     simp only at hrb ⊢
     by_cases e : b = t
     ·subst e; exact absurd hrb h1
     ·rw [bT e]; exact h.un b hb hrb
theorem Fx.fV {n : Nat} {last : bB} {nx : List Int} {bM : RG} (h0 : 0 ≤ last.op) (ha : R16 bM) (hz : rg bM 0 = (0, 0)) (gy : ∀ t ∈ nx, 0 ≤ t ∧ t < n) {s : AS} (h : Fx n s) : ∀ k, k ≤ nx.length → Fx n (fV last nx bM s k).1
 | 0, _ => h
 | k + 1, hk => by
  simp only [Go.Proofs.YtebklpnkcicpjaaGreatDoor.fV]
  have hm : nx.getD k 0 ∈ nx := by
   rw [show nx.getD k 0 = nx[k]'TX by simp [List.getD, List.getElem?_eq_getElem (show k < nx.length by omega)]]
   exact List.getElem_mem _
  have := gy _ hm
  exact (Fx.fV h0 ha hz gy h k TX).step TX (fun r hr => ⟨mo ha hr, Fz h0 ha hz hr⟩)
structure OC (n : Nat) (b : AB) : Prop where
 ok : IZ n b
 op : 0 ≤ b.last.op
 ops : ∀ i ∈ b.code, 0 ≤ i.op
theorem Fx.gJ {n : Nat} {b : AB} (hb : OC n b) (gy : ∀ t ∈ b.nx, 0 ≤ t ∧ t < n) {s : AS} (h : Fx n s) {k : Nat} (hk : k < n) : Fx n (gJ b k s).1 := by
 unfold Go.Proofs.YtebklpnkcicpjaaGreatDoor.gJ
 split
 ·exact h
 ·rename_i bM e
  have hg := h.ou.get hk
  exact h.fV hb.op (k8 hb.ops hg e) (by rw [BP hb.ops hg e]; exact h.z k hk) gy _ (Nat.le_refl _)
theorem Fx.cK {n : Nat} {B : List AB} (hB : ∀ b ∈ B, OC n b ∧ ∀ t ∈ b.nx, 0 ≤ t ∧ t < n) (hl : B.length = n) {s : AS} (h : Fx n s) : ∀ k, k ≤ n → Fx n (cK B s k).1
 | 0, _ => h
 | k + 1, hk => by
  simp only [Go.Proofs.YtebklpnkcicpjaaGreatDoor.cK]
  have ih := Fx.cK hB hl h k TX
  split
  ·have e : B.getD k ⟨[], []⟩ = B[k]'TX := by simp [List.getD, List.getElem?_eq_getElem (show k < B.length by omega)]
   have hm : B.getD k ⟨[], []⟩ ∈ B := by rw [e]; exact List.getElem_mem _
   exact ih.gJ (hB _ hm).1 (hB _ hm).2 TX
  ·exact ih
end
section
open Go.RowKit
structure OB (n : Nat) (b : AB) : Prop where
 f : OC n b
 ne : b.code ≠ []
 ri : b.nx.length ≤ 1000
 nx : ∀ t ∈ b.nx, 0 ≤ t ∧ t < n
theorem An.nexts {V w : World} {ab cb rb ib pb : Nat} {bv pv : Value} {G : List ew} {B : List AB} {val : Nat → Value} {s : AS} (h : An V w ab cb rb ib pb bv pv G B val s) {k : Nat} {b : AB} (hk : B[k]? = some b) :
  ∃ g off cap nA dY, bv = .slice (some ⟨g, off, none⟩) B.length cap ∧ B.length ≤ cap ∧ cap ≤ 2 ^ 63 - 1 ∧ g < V.heap.size ∧ V.cell? ⟨g, off + k * 3 + 2, none⟩ = some (.slice nA b.nx.length dY) ∧ b.nx.length ≤ dY ∧ dY ≤ 2 ^ 63 - 1 ∧ ∀ j t, b.nx[j]? = some t → ∃ nb gM, nA = some ⟨nb, gM, none⟩ ∧ nb < V.heap.size ∧ V.cell? ⟨nb, gM + j, none⟩ = some (.int .i64 t) := by
 have mV := (List.getElem?_eq_some_iff.1 hk).1
 have Nj := h.lG
 obtain ⟨A, cap, h1, h2, h3, h4⟩ := h.Io
 obtain ⟨g, off, rfl, hg, hc⟩ := h4 TX
 obtain ⟨x, hx⟩ : ∃ x, G[k]? = some x := ⟨_, List.getElem?_eq_getElem TX⟩
 obtain ⟨_, _, nv, c2, hn⟩ := hc k x hx
 have e := h.NU k x b hx hk
 rw [e] at hn
 obtain ⟨nA, dY, rfl, n2, n3, n4⟩ := hn
 rw [Nj] at h1 h2
 refine ⟨g, off, cap, nA, dY, h1, h2, eZ h3, hg, c2, n2, eZ n3, fun j t hj => ?_⟩
 have hl := (List.getElem?_eq_some_iff.1 hj).1
 obtain ⟨nb, gM, ha, hb, hcc⟩ := n4 TX
 refine ⟨nb, gM, ha, hb, ?_⟩
 rw [hcc j hl, show b.nx.getD j 0 = t by simp [List.getD, hj]]
theorem yR (last : bB) (nx : List Int) (bM : RG) (s : AS) (k : Nat) : fV last nx bM s (k + 1) = ((dO (fV last nx bM s k).1 (nx.getD k 0).toNat (dL last nx.length k bM)).1, (fV last nx bM s k).2 || (dO (fV last nx bM s k).1 (nx.getD k 0).toNat (dL last nx.length k bM)).2) := rfl
theorem there_drew {w : World} {b o n : Nat} (h : w.there b o n) : w.drew.there b o n := h
theorem yU {w : World} {b o n c p : Nat} {v : Value} (h : w.there b o n) : (w.setCell ⟨c, p, none⟩ v).there b o n := by
 have := World.there_setCells h c p [v]
 exact this
theorem JS {Y w' : World} {rb ib b10 o : Nat} {cs : List Value} (h1 : b10 < Y.heap.size) (n1 : b10 ≠ rb) (n2 : b10 ≠ ib) (hr : Y.rangeAt b10 0 cs) (hf : Fr (fun k => k = rb ∨ k = ib) Y w') (ht : w'.there ib o 32) :
  (∀ b o, b < Y.heap.size → b ≠ rb → b ≠ ib → w'.cell? ⟨b, o, none⟩ = Y.cell? ⟨b, o, none⟩) ∧ w'.rangeAt b10 0 cs ∧ w'.there ib o 32 ∧ Fr (fun k => k = rb ∨ k = ib) Y w' :=
 ⟨fun b o hb h2 h3 => hf.cell o hb (by simp [h2, h3]), fun j v hv => (hf.cell (0 + j) h1 (by simp [n1, n2])).trans (hr j v hv), ht, hf⟩
theorem dw {P : Program} {ops : Array Oper} {C : World → Prop} {Q : Act → Prop} {a : Act} {op : Oper} {rest : List Oper} (hw : Region.wanted op (yielded ops a.tmps) = true) (ty : TypeId) (x : Operand) (ho : op.op = .load ty x)
  (b o : Nat) (hx : a.eval x = .pointer (some ⟨b, o, none⟩)) (cs : List Value) (d : TypeDesc) (hc : ∀ w, C w → w.rangeAt b o cs)
  (hu : P.underlying ty = some d) (hd : d.isRow = true) (hi : (P.info? ty).map (·.size) = some cs.length) (h : wpQuiet P ops C Q rest (a.put op.dst (.agg cs.toArray))) : wpQuiet P ops C Q (op :: rest) a :=
 BigFrame.wpQuiet_want hw fun K hK => ⟨.agg cs.toArray, fun w hC => by
  unfold Oper.quietAt execOp
  simp only [ho, hx, Instr.loadAt, Instr.sureAddr, Sem.run_bind, Sem.run_pure, Result.andThen_ok, run_loadVar_mid w b o ty cs d (hc w hC) hu hd hi]
  exact ⟨rfl, rfl⟩, hK _ h⟩
theorem mL (W : World) : (W.alloc (.cells Va.toArray 56)).there W.heap.size 0 32 := fun j hj => by
 have h : (W.alloc (.cells Va.toArray 56)).heap[W.heap.size]? = some (.cells (aa ak).toArray 56 (0, 0)) := heap_alloc_new _ _
 have : 0 + j < (aa ak).length := by rw [az]; simp [ak]; omega
 constructor
 ·simp only [World.cell?, h, List.getElem?_toArray, List.getElem?_eq_getElem this]
  rfl
 ·simp only [World.frozen?, h]
  simp
theorem gS {W : World} {g : Nat} {T : TypeId} {z : RG} (h : aC W g T z) : W.there g 0 (z.length * 2) := fun j hj => by
 unfold aC at h
 constructor
 ·have : 0 + j < (aa z).length := by rw [az]; omega
  simp only [World.cell?, h]
  simp only [List.getElem?_toArray, List.getElem?_eq_getElem this]
  rfl
 ·simp [World.frozen?, h]
theorem pq {Y w' : World} {ib b10 o : Nat} {cs ds : List Value} (h1 : b10 < Y.heap.size) (h2 : ib < Y.heap.size) (hr : Y.rangeAt b10 0 cs) (hi : Y.rangeAt ib o ds) (hf : Below Y.heap.size Y w') :
  (∀ b o, b < Y.heap.size → w'.cell? ⟨b, o, none⟩ = Y.cell? ⟨b, o, none⟩) ∧ w'.rangeAt b10 0 cs ∧ w'.rangeAt ib o ds ∧ Below Y.heap.size Y w' :=
 ⟨fun b o hb => hf.cell (p := ⟨b, o, none⟩) hb, fun j v hv => (hf.cell (p := ⟨b10, 0 + j, none⟩) h1).trans (hr j v hv), fun j v hv => (hf.cell (p := ⟨ib, o + j, none⟩) h2).trans (hi j v hv), hf⟩
theorem iZ {W : World} {g : Nat} {T : TypeId} {z r : RG} (h : aC W g T z) (hz : z.length = 16) (hr : r.length = 16) : aC (W.setCells g 0 (aa r)) g T r := by
 have h1 : (aa z).length = 32 := by rw [az, hz]
 have h2 : (aa r).length = 32 := by rw [az, hr]
 unfold aC at *
 rw [eO g T (aa r) 0 W (aa z) h TX, h2, List.drop_eq_nil_of_le TX]
 simp
theorem Below.aS {B : Nat} {w0 w : World} (h : Below B w0 w) {b : Nat} (hb : B ≤ b) (o : Nat) (vs : List Value) : Below B w0 (w.setCells b o vs) := by
 obtain ⟨h1, h2, h3, h4⟩ := gK b vs o w
 exact h.trans ⟨h1, h2, h3, by rw [h4]; exact Nat.le_refl _, fun k hk => cg b vs o w k TX⟩
theorem fG (r : RG) : ∀ v ∈ aa r, v.oneCell' = true := fun v hv => by
 unfold aa at hv
 obtain ⟨x, _, h⟩ := List.mem_flatMap.1 hv
 simp only [List.mem_cons, List.not_mem_nil, or_false] at h
 rcases h with rfl | rfl <;> rfl
theorem yQ {V w : World} {ab cb rb ib pb : Nat} {bv pv : Value} {G : List ew} {B : List AB} {val : Nat → Value} {s : AS} (h : An V w ab cb rb ib pb bv pv G B val s) {k : Nat} {b : AB} (hk : B[k]? = some b) (hb : OB B.length b) (T : fM V) :
  Calls Tryz.prog 25 #[.pointer (some ⟨ab, 0, none⟩), .int .i64 (k : Int)] w fun e w' => e = .returned (.bool (gJ b k s).2) ∧ An V w' ab cb rb ib pb bv pv G B val (gJ b k s).1 ∧ Fr (A6 rb ib pb) w w' := by
 have mV := (List.getElem?_eq_some_iff.1 hk).1
 have vu := h.lB
 have qi := UZ (rM h hk hb.ne hb.f.ops (T.below h.aB))
 rcases hr : dJ b.code (s.cJ.getD k []) with _ | bM
 ·have HV := UZ (show gJ b k s = (s, false) by unfold gJ; rw [hr])
  rw [hr] at qi
  have HA := UZ h
  clear h hr mV vu hk hb T
  go_enter Tryz.func25, Tryz.ntmps25
  go_wp2_with (first | (go_at_call 26; refine qi.out.mono ?_; rintro e w1 ⟨rfl, hb1⟩; unfold cE) | (refine wpList_store_row rfl 56 (.tmp 5) (.tmp 17) rfl w1.heap.size (aa ak).toArray rfl rfl 56 _ (heap_alloc_new _ _) (hi4 ag) (hi6 ag ag) (aj ak) ?_))
  go_ret
  have bb : Below w.heap.size w ((w1.alloc (.cells Va.toArray 56)).setRow w1.heap.size (aa ak).toArray) := below_setRow (hb1.alloc hb1.size _) hb1.size _
  rw [HV.out]
  exact ⟨rfl, HA.out.below bb, Fr.of bb⟩
 have fy := UZ (k8 hb.f.ops (h.ou.get mV) hr)
 have Ob := UZ (show gJ b k s = fV b.last b.nx bM s b.nx.length by unfold gJ; rw [hr])
 rw [hr] at qi
 obtain ⟨g, off, cN, nA, dY, nN, g1, g2, g3, nc, n1, n2, gy⟩ := h.nexts hk
 obtain ⟨n, hn⟩ : ∃ n, B.length = n := ⟨_, rfl⟩
 obtain ⟨u, hu⟩ : ∃ u, b.nx.length = u := ⟨_, rfl⟩
 have dk : (k : Int) < (n : Int) := by omega
 have HA := UZ h
 have DV := UZ gy
 have HN := UZ hn
 have HU := UZ hu
 have HK := UZ hk
 have LA := UZ hb
 have HT := UZ T
 have GN := UZ nN
 have Tz : u ≤ 1000 := by rw [← hu]; exact hb.ri
 rw [hn] at vu g1
 rw [hu] at nc n1
 have SQ := UZ nc
 clear h hr gy hn hu hk hb T nN nc mV
 go_enter Tryz.func25, Tryz.ntmps25
 go_upto_region 2 with (first | (go_at_call 26; refine qi.out.mono ?_; rintro e w1 ⟨rfl, hb1⟩; unfold cE) | (refine wpList_store_row rfl 56 (.tmp 5) (.tmp 17) rfl w1.heap.size (aa bM).toArray rfl rfl 56 _ (heap_alloc_new _ _) (hi4 fy.out.len) (hi6 fy.out.len ag) (aj bM) ?_))
 obtain ⟨X, hX⟩ : ∃ X, (w1.alloc (.cells Va.toArray 56)).setRow w1.heap.size (aa bM).toArray = X := ⟨_, rfl⟩
 rw [hX]
 have bX : Below w.heap.size w X := hX ▸ below_setRow (hb1.alloc hb1.size _) hb1.size _
 have kX : aC X w1.heap.size 56 bM := hX ▸ aC.row (z := ak) (heap_alloc_new _ _)
 obtain ⟨b5, hb5⟩ : ∃ b5, w1.heap.size = b5 := ⟨_, rfl⟩
 have L5 := UZ (show w.heap.size ≤ b5 by rw [← hb5]; exact hb1.size)
 rw [hb5] at kX
 rw [hb5]
 have MA := UZ (HA.out.below bX)
 have uM := MA.out.aB
 have l1 : ab < X.heap.size := MA.out.lt.1
 have lg : g < X.heap.size := by have := uM.size; omega
 have c0 : X.cell? ⟨ab, 0, none⟩ = some (.slice (some ⟨g, off, none⟩) n cN) := by rw [MA.out.cells.1, GN.out, HN.out]
 have c1 : X.cell? ⟨g, off + k * 3 + 2, none⟩ = some (.slice nA u dY) := (uM.cell (p := ⟨g, off + k * 3 + 2, none⟩) g3).trans SQ.out
 have BX := UZ bX
 have KX := UZ kX
 clear hX bX kX hb5 hb1 uM
 go_upto_region 6 with fail
 clear c0 c1 l1 lg
 go_loopw [7, 31] (fun a7 a31 wr => ∃ j : Nat, j ≤ u ∧ a31 = .int .i64 (j : Int) ∧ a7 = .bool (fV b.last b.nx bM s j).2 ∧ An V wr ab cb rb ib pb bv pv G B val (fV b.last b.nx bM s j).1 ∧ Fr (A6 rb ib pb) w wr ∧ aC wr b5 56 bM) (fun _ a31 _ => u - (intOf a31).toNat)
 case atStart => exact ⟨0, by omega, rfl, rfl, MA.out, Fr.of BX.out, KX.out⟩
 case round =>
  obtain ⟨j, hj, rfl, rfl, Jf, PK, hkb⟩ := hrel
  have IQ := UZ PK
  have KB := UZ hkb
  have fR := UZ hkb.range
  clear PK hkb
  by_cases hlt : j < u
  ·have dl : decide ((j : Int) < (u : Int)) = true := decide_eq_true TX
   obtain ⟨t, ht⟩ : ∃ t, b.nx[j]? = some t := ⟨_, List.getElem?_eq_getElem (by rw [HU.out]; exact hlt)⟩
   obtain ⟨nb, gM, rfl, hnb, Gr⟩ := DV.out j t ht
   have htb := LA.out.nx t (List.mem_of_getElem? ht)
   rw [HN.out] at htb
   obtain ⟨tn, rfl⟩ : ∃ tn : Nat, t = (tn : Int) := ⟨t.toNat, by omega⟩
   have htn : tn < n := by omega
   have dt : (tn : Int) < (n : Int) := by omega
   have hD := UZ (show (b.nx.getD j 0).toNat = tn by simp [List.getD, ht])
   have uM := Jf.aB
   have MP : nb < wr.heap.size := by have := uM.size; omega
   have x0 : wr.cell? ⟨nb, gM + j, none⟩ = some (.int .i64 (tn : Int)) := (uM.cell (p := ⟨nb, gM + j, none⟩) hnb).trans Gr
   obtain ⟨sj, hsj⟩ : ∃ sj, fV b.last b.nx bM s j = sj := ⟨_, rfl⟩
   have TU := UZ hsj
   rw [hsj] at Jf
   rw [hsj]
   have s9 := UZ (uS Jf HK.out LA.out.ne LA.out.ri LA.out.f.op j bM fy.out (HT.out.below uM))
   have GQ := UZ Jf
   have hst := yR b.last b.nx bM s j
   rw [hsj, hD.out] at hst
   have OM : w.heap.size ≤ wr.heap.size := IQ.out.size
   clear ht Gr htb uM Jf hsj
   rcases he : dL b.last b.nx.length j bM with _ | r
   ·rw [he] at s9 hst
    have HST := UZ hst
    clear he hst
    go_wp2_with (first | (refine wpList_load_mid rfl _ _ rfl _ _ rfl (aa bM) _ fR.out Tryz.underlying56 rfl (hi3 fy.out.len) ?_) | (go_at_call 27; refine s9.out.mono ?_; rintro e w2 ⟨rfl, hb2⟩; unfold cE) | (refine wpList_store_row rfl 56 (.tmp 10) (.tmp 42) rfl w2.heap.size (aa ak).toArray rfl rfl 56 _ (heap_alloc_new _ _) (hi4 ag) (hi6 ag ag) (aj ak) ?_))
    go_roundw
    case rel =>
     have bb : Below wr.heap.size wr ((w2.alloc (.cells Va.toArray 56)).setRow w2.heap.size (aa ak).toArray) := below_setRow (hb2.alloc hb2.size _) hb2.size _
     refine ⟨j + 1, by omega, by go_num, ?_, ?_, IQ.out.trans (Fr.of bb), KB.out.keep bb⟩
     ·rw [HST.out]; simp [dO]
     ·rw [HST.out]; exact GQ.out.below bb
    case measure => simp [intOf]; omega
   ·rw [he] at s9 hst
    have HST := UZ hst
    have R16 := UZ (mo fy.out he)
    clear he hst
    go_upto_region 10 with (first | (refine wpList_load_mid rfl _ _ rfl _ _ rfl (aa bM) _ fR.out Tryz.underlying56 rfl (hi3 fy.out.len) ?_) | (go_at_call 27; refine s9.out.mono ?_; rintro e w2 ⟨rfl, hb2⟩; unfold cE) | (refine wpList_store_row rfl 56 (.tmp 10) (.tmp 42) rfl w2.heap.size (aa r).toArray rfl rfl 56 _ (heap_alloc_new _ _) (hi4 R16.out.len) (hi6 R16.out.len ag) (aj r) ?_))
    obtain ⟨Y, hY⟩ : ∃ Y, (w2.alloc (.cells Va.toArray 56)).setRow w2.heap.size (aa r).toArray = Y := ⟨_, rfl⟩
    rw [hY]
    have bY : Below wr.heap.size wr Y := hY ▸ below_setRow (hb2.alloc hb2.size _) hb2.size _
    have kY : aC Y w2.heap.size 56 r := hY ▸ aC.row (z := ak) (heap_alloc_new _ _)
    obtain ⟨b10, Fj⟩ : ∃ b10, w2.heap.size = b10 := ⟨_, rfl⟩
    rw [Fj] at kY
    rw [Fj]
    have Qb := UZ (show wr.heap.size ≤ b10 by rw [← Fj]; exact hb2.size)
    have KR := UZ kY
    have tE := UZ (GQ.out.below bY)
    have BY := UZ bY
    obtain ⟨y1, y2, y3, y4, y5⟩ := tE.out.lt
    obtain ⟨-, -, v2, v3, v4⟩ := tE.out.cells
    rw [HN.out] at v2 v3 v4
    obtain ⟨v5, OD⟩ := tE.out.og (t := tn) Uf
    have l10 : b10 < Y.heap.size := kY.lt
    clear hY bY kY Fj hb2 x0
    rcases tj : sj.1.reach.getD tn false with _ | _
    ·rw [tj] at v5
     have DU := UZ tj
     clear tj
     go_upto_region 11 with fail
     obtain ⟨ne1, ne2, ne3, -, -, -, ne7, ne8, ne9⟩ := tE.out.ne
     have hq := GQ.out.lt
     have nb1 : b10 ≠ rb := by have := Qb.out; omega
     have nb2 : b10 ≠ ib := by have := Qb.out; omega
     have jy := KR.out.range
     have Gi := tE.out.there (t := tn) Uf
     have CU := Tryz.underlying56
     have Af : (Tryz.prog.info? 56).map (·.size) = some (aa r).length := hi3 R16.out.len
     have E9 : (aa r).length = 32 := by rw [az, R16.out.len]
     have CZ := fG r
     go_cut [5] from 54 to 66 (fun a5 wx => a5 = .pointer (some ⟨b5, 0, none⟩) ∧ ∃ wy, Below Y.heap.size Y wy ∧ wx = (wy.setCell ⟨rb, tn, none⟩ (.bool true)).setCells ib (tn * 32) (aa r))
     case first =>
      go_region_held3 (fun w' => (∀ b o, b < Y.heap.size → b ≠ rb → b ≠ ib → w'.cell? ⟨b, o, none⟩ = Y.cell? ⟨b, o, none⟩) ∧ w'.rangeAt b10 0 (aa r) ∧ w'.there ib (tn * 32) 32 ∧ Fr (fun k => k = rb ∨ k = ib) Y w') ((exact JS l10 nb1 nb2 jy (by (repeat (first | (with_reducible exact Fr.refl _ _) | (with_reducible refine Fr.drew ?_) | (with_reducible refine Fr.set ?_ _ (.inl T4)) | (with_reducible refine Fr.setCells ?_ _ (.inl T4))))) (by (repeat (first | (with_reducible exact Gi) | (with_reducible refine there_drew ?_) | (with_reducible refine yU ?_) | (with_reducible refine World.there_setCells ?_ _ _ _)))))) (fail)
      all_goals (go_wp2_with fail; go_meet)
      case rel => exact ⟨rfl, Y.drew, Below.drew (Below.refl _ _), rfl⟩
     case rest =>
      obtain ⟨rfl, wy, hby, OV⟩ := hcut
      obtain ⟨hA1, L6⟩ := tE.out.first hby Uf R16.out DU.out
      rw [← OV] at hA1 L6
      obtain ⟨W3, hW3⟩ : ∃ W3 : World, W3 = wc := ⟨_, rfl⟩
      subst hW3
      have OA := UZ hA1
      have S4 := UZ L6
      have Sv := UZ (show aC W3 b5 56 bM from (L6.block b5 (by have := (KB.out.keep BY.out).lt; exact this) UG).trans (KB.out.keep BY.out))
      clear OV hby hA1 L6 jy Gi CU Af E9 CZ hq v2 v3 v4 v5 OD
      go_wp2_with fail
      go_roundw
      case rel =>
       have e2 : (dO sj.1 tn (some r)).2 = true := by unfold dO; simp only; rw [if_pos DU.out]
       refine ⟨j + 1, by omega, by go_num, ?_, ?_, (IQ.out.trans (Fr.of BY.out)).trans S4.out, Sv.out⟩
       ·rw [HST.out, e2]; simp
       ·rw [HST.out]; exact OA.out
      case measure => simp [intOf]; omega
    ·rw [tj] at v5
     have DU := UZ tj
     clear tj
     go_upto_region 13 with fail
     obtain ⟨ne1, ne2, ne3, -, -, -, ne7, ne8, ne9⟩ := tE.out.ne
     obtain ⟨cur, Ff⟩ : ∃ cur, sj.1.cJ.getD tn [] = cur := ⟨_, rfl⟩
     have c16 : Go.Proofs.YtebklpnkcicpjaaGreatDoor.R16 cur := by rw [← Ff]; exact tE.out.ou.get Uf
     have mU := tE.out.lZ (t := tn) Uf
     rw [Ff] at mU
     have IX := UZ c16
     have DZ := UZ Ff
     have jy := KR.out.range
     have Gh : ∀ W : World, (W.alloc (.cells Va.toArray 56)).there W.heap.size 0 32 := mL
     obtain ⟨jr, Fa⟩ : ∃ jr, List.zipWith bR cur r = jr := ⟨_, rfl⟩
     have j16 : Go.Proofs.YtebklpnkcicpjaaGreatDoor.R16 jr := by rw [← Fa]; exact c16.join R16.out
     have HJ := UZ (show b7 cur r = jr from Fa)
     have vz := UZ j16
     have Nw := fun W => gG 64 bR (fun _ _ => by kernel_rfl) pz cur r c16.len R16.out.len W
     rw [Fa] at Nw
     have Ju := UZ Nw
     have CU := Tryz.underlying56
     have Af : (Tryz.prog.info? 56).map (·.size) = some (aa r).length := hi3 R16.out.len
     have Kc : (Tryz.prog.info? 56).map (·.size) = some (aa cur).length := hi3 c16.len
     have Fb : (Tryz.prog.info? 56).map (·.size) = some (aa jr).length := hi3 j16.len
     have E9 : (aa jr).length = 32 := by rw [az, j16.len]
     have CZ := fG jr
     clear Ff c16 Fa j16 Nw
     go_cut [12] from 67 to 75 (fun a12 wx => ∃ g, a12 = .pointer (some ⟨g, 0, none⟩) ∧ Y.heap.size ≤ g ∧ aC wx g 56 jr ∧ Below Y.heap.size Y wx)
     case first =>
      refine wp_region_held_drew (S := fun w' => (∀ b o, b < Y.heap.size → w'.cell? ⟨b, o, none⟩ = Y.cell? ⟨b, o, none⟩) ∧ w'.rangeAt b10 0 (aa r) ∧ w'.rangeAt ib (tn * 32) (aa cur) ∧ Below Y.heap.size Y w') TY ?_ (fun hHeld => ?_)
      ·exact pq l10 y4 jy mU (by (repeat (first | (with_reducible assumption) | (with_reducible exact Below.refl _ _) | (with_reducible refine Below.drew ?_) | (with_reducible refine Below.alloc ?_ UC _) | (with_reducible refine Below.aS ?_ TZ _ _))))
      refine wpAnyH_take (i := 0) (oi := _) (v := ?_) rfl TY TY TY (fun _ _ _ h => h) (Or.inl ⟨by rfl, ?_⟩) hHeld ?_
      rotate_left
      ·intro w hSw
       (try dsimp only at hSw)
       go_simp
       (try with_reducible rfl)
      (try simp only [U0, U3, U4, Act.put, U5, U6, U7])
      refine wpAnyH_take (i := 1) (oi := _) (v := ?_) rfl TY TY TY (fun _ _ _ h => h) (Or.inl ⟨by rfl, ?_⟩) hHeld ?_
      rotate_left
      ·intro w hSw
       (try dsimp only at hSw)
       go_simp
       (try with_reducible rfl)
      (try simp only [U0, U3, U4, Act.put, U5, U6, U7])
      refine wpAnyH_take (i := 2) (oi := _) (v := ?_) rfl TY TY TY (fun _ _ _ h => h) (Or.inl ⟨by rfl, ?_⟩) hHeld ?_
      rotate_left
      ·intro w hSw
       (try dsimp only at hSw)
       go_simp
       (try with_reducible rfl)
      (try simp only [U0, U3, U4, Act.put, U5, U6, U7])
      refine wpAnyH_take (i := 3) (oi := _) (v := ?_) rfl TY TY TY (fun _ _ _ h => h) (Or.inl ⟨by rfl, ?_⟩) hHeld ?_
      rotate_left
      ·intro w hSw
       (try dsimp only at hSw)
       go_simp
       (try with_reducible rfl)
      (try simp only [U0, U3, U4, Act.put, U5, U6, U7])
      refine wpAnyH_take (i := 4) (oi := _) (v := ?_) rfl TY TY TY (fun _ _ _ h => h) (Or.inl ⟨by rfl, ?_⟩) hHeld ?_
      rotate_left
      ·intro w hSw
       (try dsimp only at hSw)
       go_simp
       (try with_reducible rfl)
      (try simp only [U0, U3, U4, Act.put, U5, U6, U7])
      refine wpAnyH_take (i := 5) (oi := _) (v := ?_) rfl TY TY TY (fun _ _ _ h => h) (Or.inl ⟨by rfl, ?_⟩) hHeld ?_
      rotate_left
      ·intro w hSw
       (try dsimp only at hSw)
       go_simp
       (try with_reducible rfl)
      (try simp only [U0, U3, U4, Act.put, U5, U6, U7])
      refine wpAnyH_take (i := 6) (oi := _) (v := _) rfl TY TY TY (fun _ _ _ h => h) (yieldsIf_load_mid (by rfl) _ _ rfl _ _ rfl (aa cur) _ (fun w hSw => hSw.2.2.1) CU rfl Kc) hHeld ?_
      (try simp only [U0, U3, U4, Act.put, U5, U6, U7])
      refine wpAnyH_take (i := 7) (oi := _) (v := _) rfl TY TY TY (fun _ _ _ h => h) (yieldsIf_load_mid (by rfl) _ _ rfl _ _ rfl (aa r) _ (fun w hSw => hSw.2.1) CU rfl Af) hHeld ?_
      (try simp only [U0, U3, U4, Act.put, U5, U6, U7])
      have Gj : (aa jr).toArray.size = 32 := by rw [List.size_toArray]; exact E9
      have Kb : (Tryz.prog.info? 56).map (·.size) = some (aa jr).toArray.size := by rw [List.size_toArray]; exact Fb
      refine wpAnyH_ready (rs := [8, 9]) TY T4 ?_
      refine AllReadyH.cons (o := _) rfl (fun K hK => ?_) ?_
      ·go_simp
       go_at_call 63
       refine (Ju.out _).mono ?_
       rintro e w3 ⟨rfl, hb3⟩
       have hk3 : Below Y.heap.size Y w3 := Below.trans (Below.drew (Below.refl _ _)) (Below.mono hb3 (Nat.le_refl _))
       refine hK.out _ _ (pq l10 y4 jy mU hk3) (fun hHeld => ?_)
       clear hK K
       (try simp only [U0, U3, U4, Act.put, U5, U6, U7])
       refine wpAnyH_ready (rs := [9]) TY T4 ?_
       refine AllReadyH.cons (o := _) rfl (fun K hK => ?_) AllReadyH.nil
       go_simp
       refine hK.out _ _ (pq l10 y4 jy mU (hk3.alloc hk3.size _)) (fun hHeld => ?_)
       clear hK K
       (try simp only [U0, U3, U4, Act.put, U5, U6, U7])
       refine wpAnyH_ready (rs := [10]) TY T4 ?_
       refine AllReadyH.cons (o := _) rfl (fun K hK => ?_) AllReadyH.nil
       rw [if_pos (by rfl)]
       refine wp_store_mid _ _ _ rfl _ _ (aa jr).toArray rfl rfl (by rw [Gj]; exact Gh w3) Kb (all_oneCell_toArray CZ) ?_
       refine hK.out _ _ (pq l10 y4 jy mU (Below.aS (hk3.alloc hk3.size _) hk3.size _ _)) (fun hHeld => ?_)
       clear hK K
       (try simp only [U0, U3, U4, Act.put, U5, U6, U7])
       refine wpAnyH_done TY ?_ _
       go_wp2_with fail
       go_meet
       case rel => exact ⟨_, rfl, hk3.size, iZ (z := ak) (heap_alloc_new _ _) ag vz.out.len, Below.aS (hk3.alloc hk3.size _) hk3.size _ _⟩
      refine AllReadyH.cons (o := _) rfl (fun K hK => ?_) AllReadyH.nil
      go_simp
      have hk2 : Below Y.heap.size Y (Y.drew.alloc (.cells Va.toArray 56)) := (Below.drew (Below.refl _ _)).alloc (Nat.le_refl _) _
      refine hK.out _ _ (pq l10 y4 jy mU hk2) (fun hHeld => ?_)
      clear hK K
      (try simp only [U0, U3, U4, Act.put, U5, U6, U7])
      refine wpAnyH_ready (rs := [8]) TY T4 ?_
      refine AllReadyH.cons (o := _) rfl (fun K hK => ?_) AllReadyH.nil
      go_simp
      go_at_call 63
      refine (Ju.out _).mono ?_
      rintro e w3 ⟨rfl, hb3⟩
      have hk3 : Below Y.heap.size Y w3 := hk2.trans (hb3.mono hk2.size)
      have hz3 : aC w3 Y.heap.size 56 ak := (hb3.block _ T4).trans (heap_alloc_new Y.drew _)
      refine hK.out _ _ (pq l10 y4 jy mU hk3) (fun hHeld => ?_)
      clear hK K
      (try simp only [U0, U3, U4, Act.put, U5, U6, U7])
      refine wpAnyH_ready (rs := [10]) TY T4 ?_
      refine AllReadyH.cons (o := _) rfl (fun K hK => ?_) AllReadyH.nil
      rw [if_pos (by rfl)]
      refine wp_store_mid _ _ _ rfl _ _ (aa jr).toArray rfl rfl (by rw [Gj]; exact gS hz3) Kb (all_oneCell_toArray CZ) ?_
      refine hK.out _ _ (pq l10 y4 jy mU (Below.aS hk3 (Nat.le_refl _) _ _)) (fun hHeld => ?_)
      clear hK K
      (try simp only [U0, U3, U4, Act.put, U5, U6, U7])
      refine wpAnyH_done TY ?_ _
      go_wp2_with fail
      go_meet
      case rel => exact ⟨_, rfl, Nat.le_refl _, iZ hz3 ag vz.out.len, Below.aS hk3 (Nat.le_refl _) _ _⟩
     obtain ⟨g2, rfl, hg2, kg2, bg2⟩ := hcut
     obtain ⟨W4, RT⟩ : ∃ W4 : World, W4 = wc := ⟨_, rfl⟩
     subst RT
     clear jy mU Gh CU Af Kc Fb E9 CZ
     have LH := UZ (tE.out.below bg2)
     obtain ⟨q1, q2, q3, q4, q5⟩ := LH.out.lt
     obtain ⟨-, -, p2, p3, p4⟩ := LH.out.cells
     rw [HN.out] at p2 p3 p4
     have mU := LH.out.lZ (t := tn) Uf
     rw [DZ.out] at mU
     have KG := UZ kg2
     have BG := UZ bg2
     have tu := UZ mU
     have N8 := UZ (show ∀ w', (∃ x : Ext W4, w' = x.w) → w'.rangeAt g2 0 (aa jr) from by rintro _ ⟨x, rfl⟩; exact (KG.out.keep x.h).range)
     have N7 := UZ (show ∀ w', (∃ x : Ext W4, w' = x.w) → w'.rangeAt ib (tn * 32) (aa cur) from by rintro _ ⟨x, rfl⟩; exact fun j v hv => (x.h.cell (p := ⟨ib, tn * 32 + j, none⟩) q4).trans (tu.out j v hv))
     clear kg2 bg2 mU v2 v3 v4 v5 OD
     go_upto_region 14 with fail
     by_cases Gn : jr = cur
     ·have heq : ∀ w, (binOp .eql 56 (.agg (aa jr).toArray) (.agg (aa cur).toArray)).run Tryz.prog w = .ok (.bool true) w := fun w => by
       have := oq vz.out.len IX.out.len w
       rwa [show decide (jr = cur) = true from decide_eq_true Gn] at this
      have HE := UZ (show dO sj.1 tn (some r) = (sj.1, false) by
       unfold dO
       simp only
       rw [if_neg (by rw [DU.out]; simp), if_pos (by rw [DZ.out, HJ.out]; exact Gn)])
      clear Gn
      refine ay TY TY ?_
      repeat (first | (refine dw T8 _ _ rfl _ _ rfl (aa jr) _ N8.out Tryz.underlying56 rfl (hi3 vz.out.len) ?_; (try simp only [U0, U3, U4, Act.put, U5, U6, U7])) | (refine dw T8 _ _ rfl _ _ rfl (aa cur) _ N7.out Tryz.underlying56 rfl (hi3 IX.out.len) ?_; (try simp only [U0, U3, U4, Act.put, U5, U6, U7])) | (go_big_quiet_step (fail)))
      refine wpQuiet_nil ?_
      rintro _ ⟨x2, rfl⟩
      go_wp2_with fail
      go_roundw
      case rel =>
       have bb : Below wr.heap.size wr x2.w := BY.out.trans ((BG.out.trans (x2.h.mono BG.out.size)).mono BY.out.size)
       refine ⟨j + 1, by omega, by go_num, ?_, ?_, IQ.out.trans (Fr.of bb), KB.out.keep bb⟩
       ·rw [HST.out, HE.out]; simp
       ·rw [HST.out, HE.out]; exact GQ.out.below bb
      case measure => simp [intOf]; omega
     ·have heq : ∀ w, (binOp .eql 56 (.agg (aa jr).toArray) (.agg (aa cur).toArray)).run Tryz.prog w = .ok (.bool false) w := fun w => by
       have := oq vz.out.len IX.out.len w
       rwa [show decide (jr = cur) = false from decide_eq_false Gn] at this
      have xU := UZ (show b7 (sj.1.cJ.getD tn []) r ≠ sj.1.cJ.getD tn [] by rw [DZ.out, HJ.out]; exact Gn)
      clear Gn
      refine ay TY TY ?_
      repeat (first | (refine dw T8 _ _ rfl _ _ rfl (aa jr) _ N8.out Tryz.underlying56 rfl (hi3 vz.out.len) ?_; (try simp only [U0, U3, U4, Act.put, U5, U6, U7])) | (refine dw T8 _ _ rfl _ _ rfl (aa cur) _ N7.out Tryz.underlying56 rfl (hi3 IX.out.len) ?_; (try simp only [U0, U3, U4, Act.put, U5, U6, U7])) | (go_big_quiet_step (fail)))
      refine wpQuiet_nil ?_
      rintro _ ⟨x2, rfl⟩
      obtain ⟨p6, OJ⟩ := LH.out.qQ (t := tn) Uf
      have CV := LH.out.ou.qQ (t := tn) Uf
      obtain ⟨rp, M9⟩ : ∃ rp, sj.1.rep.getD tn 0 = rp := ⟨_, rfl⟩
      rw [M9] at p6 CV
      have Jp := UZ M9
      have Rq : rp ≤ 70000000 := by rw [HN.out] at CV; omega
      have Rp : 0 ≤ rp := CV.1
      have Tj : IntKind.i64.wrap (rp + 1) = rp + 1 := IntWalk.i64_in _ TX
      clear M9 CV
      by_cases hge : 2 ≤ rp
      ·have NW : decide (2 ≤ rp) = true := decide_eq_true hge
       obtain ⟨nr, E6⟩ : ∃ nr, List.zipWith aJ cur jr = nr := ⟨_, rfl⟩
       have n16 : Go.Proofs.YtebklpnkcicpjaaGreatDoor.R16 nr := by rw [← E6]; exact IX.out.tI vz.out
       have hcw := fun W => gG 65 aJ (fun _ _ => by kernel_rfl) yB cur jr IX.out.len vz.out.len W
       rw [E6] at hcw
       have dV := UZ hcw
       have FO := UZ n16
       have Oj := UZ (show (if 2 ≤ sj.1.rep.getD tn 0 then dM (sj.1.cJ.getD tn []) (b7 (sj.1.cJ.getD tn []) r) else b7 (sj.1.cJ.getD tn []) r) = nr by rw [Jp.out, if_pos hge, DZ.out, HJ.out]; exact E6)
       clear hcw n16 E6 hge
       go_upto_region 16 with fail
       refine aT 9 TY TY ?_
       simp only [U8, List.take_zero, U9, List.drop_zero]
       repeat (first | (refine dw T8 _ _ rfl _ _ rfl (aa jr) _ N8.out Tryz.underlying56 rfl (hi3 vz.out.len) ?_; (try simp only [U0, U3, U4, Act.put, U5, U6, U7])) | (refine dw T8 _ _ rfl _ _ rfl (aa cur) _ N7.out Tryz.underlying56 rfl (hi3 IX.out.len) ?_; (try simp only [U0, U3, U4, Act.put, U5, U6, U7])) | (go_big_quiet_step (exact Calls.au (dV.out _))))
       refine wpQuiet_nil ?_
       rintro _ ⟨x3, rfl⟩
       go_upto_region 17 with (refine wpList_store_row rfl 56 (.tmp 12) (.tmp 101) rfl g2 (aa nr).toArray rfl rfl 56 _ (KG.out.keep x3.h) (hi4 FO.out.len) (hi6 FO.out.len vz.out.len) (aj nr) ?_)
       obtain ⟨Z1, Fo⟩ : ∃ Z1, x3.w.setRow g2 (aa nr).toArray = Z1 := ⟨_, rfl⟩
       rw [Fo]
       (try simp only [Act.put])
       have Iu : Below Y.heap.size Y Z1 := Fo ▸ below_setRow (BG.out.trans (x3.h.mono BG.out.size)) hg2 _
       have Hg : aC Z1 g2 56 nr := Fo ▸ aC.row (KG.out.keep x3.h)
       clear Fo heq NW
       have DK := UZ (tE.out.below Iu)
       obtain ⟨r1, r2, r3, r4, r5⟩ := DK.out.lt
       obtain ⟨-, -, -, s3, s4⟩ := DK.out.cells
       rw [HN.out] at s3 s4
       have IE := UZ Hg
       have LN := UZ Iu
       have lg2 : g2 < Z1.heap.size := Hg.lt
       have N6 := UZ (show ∀ w', (∃ x : Ext Z1, w' = x.w) → w'.rangeAt g2 0 (aa nr) from by rintro _ ⟨x, rfl⟩; exact (IE.out.keep x.h).range)
       clear Hg Iu p2 p3 p4 p6 OJ q1 q2 q3 q4 q5
       refine aD 6 TY TY ?_
       simp only [U8, List.take_zero, U9, List.drop_zero]
       repeat (first | (refine dw T8 _ _ rfl _ _ rfl (aa nr) _ N6.out Tryz.underlying56 rfl (hi3 FO.out.len) ?_; (try simp only [U0, U3, U4, Act.put, U5, U6, U7])) | (go_big_quiet_step (fail)))
       refine wpQuiet_nil ?_
       rintro _ ⟨x4, rfl⟩
       have Od := UZ (show x4.w.there ib (tn * 32) (aa nr).toArray.size by
        rw [List.size_toArray, az, FO.out.len]
        exact ((DK.out.below x4.h).there Uf))
       go_upto_region 18 with (refine wpList_store_mid rfl 56 (.tmp 108) (.tmp 107) rfl ib (tn * 32) (aa nr).toArray rfl rfl Od.out (hi4 FO.out.len) (aj nr) ?_)
       (try simp only [Act.put])
       have bx4 : Below Y.heap.size Y x4.w := LN.out.trans (x4.h.mono LN.out.size)
       obtain ⟨Db, Fs⟩ := tE.out.again bx4 Uf R16.out DU.out xU.out
       rw [Oj.out, Jp.out] at Db Fs
       obtain ⟨Z2, Fl⟩ : ∃ Z2, x4.w.setCells ib (tn * 32) (aa nr) = Z2 := ⟨_, rfl⟩
       rw [Fl] at Db Fs
       have f2 : Fr (fun k => k = ib) Z1 Z2 := Fl ▸ (Fr.of x4.h).setCells _ (.inl rfl)
       rw [show x4.w.setCells ib (tn * 32) (aa nr).toArray.toList = Z2 from Fl]
       obtain ⟨m1, m2, m3, -, -, -, m7, m8, m9⟩ := DK.out.ne
       have t4 : Z2.cell? ⟨ab, 5, none⟩ = _ := (f2.cell 5 r1 m2).trans s4
       obtain ⟨p7, G4⟩ := DK.out.qQ (t := tn) Uf
       rw [Jp.out] at p7
       have t6 : Z2.cell? ⟨pb, tn, none⟩ = some (.int .i64 rp) := (f2.cell tn r5 (fun e => m9 e.symm)).trans p7
       have t7 : Z2.frozen? ⟨pb, tn, none⟩ = false := by
        have e := f2.block pb r5 (fun e => m9 e.symm)
        unfold World.frozen? at G4 ⊢
        rw [e]; exact G4
       have u1 : ab < Z2.heap.size := by have := f2.size; omega
       have u5 : pb < Z2.heap.size := by have := f2.size; omega
       have Oz := UZ Db
       have Lu := UZ Fs
       have La := UZ (KB.out.keep BY.out)
       clear Fl Db Fs f2 bx4 s3 s4 p7 G4
       go_wp2_with fail
       go_roundw
       case rel =>
        have e2 : (dO sj.1 tn (some r)).2 = true := by unfold dO; simp only; rw [if_neg (by rw [DU.out]; simp), if_neg xU.out]
        refine ⟨j + 1, by omega, by go_num, ?_, ?_, (IQ.out.trans (Fr.of BY.out)).trans Lu.out, (Lu.out.block b5 La.out.lt UG).trans La.out⟩
        ·rw [HST.out, e2]; simp
        ·rw [HST.out]; exact Oz.out
       case measure => simp [intOf]; omega
      ·have NW : decide (2 ≤ rp) = false := decide_eq_false hge
       obtain ⟨nr, E6⟩ : ∃ nr, jr = nr := ⟨_, rfl⟩
       have FO := UZ (show Go.Proofs.YtebklpnkcicpjaaGreatDoor.R16 nr from E6 ▸ vz.out)
       have Oj := UZ (show (if 2 ≤ sj.1.rep.getD tn 0 then dM (sj.1.cJ.getD tn []) (b7 (sj.1.cJ.getD tn []) r) else b7 (sj.1.cJ.getD tn []) r) = nr by rw [Jp.out, if_neg hge, DZ.out, HJ.out]; exact E6)
       have JT : aC x2.w g2 56 nr := E6 ▸ KG.out.keep x2.h
       clear E6 hge
       go_upto_region 17 with fail
       obtain ⟨Z1, Fo⟩ : ∃ Z1, x2.w = Z1 := ⟨_, rfl⟩
       rw [Fo]
       have Iu : Below Y.heap.size Y Z1 := Fo ▸ (BG.out.trans (x2.h.mono BG.out.size))
       have Hg : aC Z1 g2 56 nr := Fo ▸ JT
       clear Fo JT heq NW
       have DK := UZ (tE.out.below Iu)
       obtain ⟨r1, r2, r3, r4, r5⟩ := DK.out.lt
       obtain ⟨-, -, -, s3, s4⟩ := DK.out.cells
       rw [HN.out] at s3 s4
       have IE := UZ Hg
       have LN := UZ Iu
       have lg2 : g2 < Z1.heap.size := Hg.lt
       have N6 := UZ (show ∀ w', (∃ x : Ext Z1, w' = x.w) → w'.rangeAt g2 0 (aa nr) from by rintro _ ⟨x, rfl⟩; exact (IE.out.keep x.h).range)
       clear Hg Iu p2 p3 p4 p6 OJ q1 q2 q3 q4 q5
       refine aD 6 TY TY ?_
       simp only [U8, List.take_zero, U9, List.drop_zero]
       repeat (first | (refine dw T8 _ _ rfl _ _ rfl (aa nr) _ N6.out Tryz.underlying56 rfl (hi3 FO.out.len) ?_; (try simp only [U0, U3, U4, Act.put, U5, U6, U7])) | (go_big_quiet_step (fail)))
       refine wpQuiet_nil ?_
       rintro _ ⟨x4, rfl⟩
       have Od := UZ (show x4.w.there ib (tn * 32) (aa nr).toArray.size by
        rw [List.size_toArray, az, FO.out.len]
        exact ((DK.out.below x4.h).there Uf))
       go_upto_region 18 with (refine wpList_store_mid rfl 56 (.tmp 108) (.tmp 107) rfl ib (tn * 32) (aa nr).toArray rfl rfl Od.out (hi4 FO.out.len) (aj nr) ?_)
       (try simp only [Act.put])
       have bx4 : Below Y.heap.size Y x4.w := LN.out.trans (x4.h.mono LN.out.size)
       obtain ⟨Db, Fs⟩ := tE.out.again bx4 Uf R16.out DU.out xU.out
       rw [Oj.out, Jp.out] at Db Fs
       obtain ⟨Z2, Fl⟩ : ∃ Z2, x4.w.setCells ib (tn * 32) (aa nr) = Z2 := ⟨_, rfl⟩
       rw [Fl] at Db Fs
       have f2 : Fr (fun k => k = ib) Z1 Z2 := Fl ▸ (Fr.of x4.h).setCells _ (.inl rfl)
       rw [show x4.w.setCells ib (tn * 32) (aa nr).toArray.toList = Z2 from Fl]
       obtain ⟨m1, m2, m3, -, -, -, m7, m8, m9⟩ := DK.out.ne
       have t4 : Z2.cell? ⟨ab, 5, none⟩ = _ := (f2.cell 5 r1 m2).trans s4
       obtain ⟨p7, G4⟩ := DK.out.qQ (t := tn) Uf
       rw [Jp.out] at p7
       have t6 : Z2.cell? ⟨pb, tn, none⟩ = some (.int .i64 rp) := (f2.cell tn r5 (fun e => m9 e.symm)).trans p7
       have t7 : Z2.frozen? ⟨pb, tn, none⟩ = false := by
        have e := f2.block pb r5 (fun e => m9 e.symm)
        unfold World.frozen? at G4 ⊢
        rw [e]; exact G4
       have u1 : ab < Z2.heap.size := by have := f2.size; omega
       have u5 : pb < Z2.heap.size := by have := f2.size; omega
       have Oz := UZ Db
       have Lu := UZ Fs
       have La := UZ (KB.out.keep BY.out)
       clear Fl Db Fs f2 bx4 s3 s4 p7 G4
       go_wp2_with fail
       go_roundw
       case rel =>
        have e2 : (dO sj.1 tn (some r)).2 = true := by unfold dO; simp only; rw [if_neg (by rw [DU.out]; simp), if_neg xU.out]
        refine ⟨j + 1, by omega, by go_num, ?_, ?_, (IQ.out.trans (Fr.of BY.out)).trans Lu.out, (Lu.out.block b5 La.out.lt UG).trans La.out⟩
        ·rw [HST.out, e2]; simp
        ·rw [HST.out]; exact Oz.out
       case measure => simp [intOf]; omega
  ·obtain rfl : j = u := by omega
   have dl : decide ((j : Int) < (j : Int)) = false := by simp
   go_wp2_with fail
   go_ret
   have e := Ob.out
   rw [HU.out] at e
   rw [e]
   exact ⟨rfl, Jf, IQ.out⟩
end
section
open Go.RowKit
def bu (cd : Nat → Int) (G : List ew) : List AB := G.map fun x => ⟨codeFrom cd x.lo (x.hi - x.lo).toNat, x.nx⟩
structure LI (n : Nat) (cd : Nat → Int) (G : List ew) (x : ew) : Prop where
 lo : 0 ≤ x.lo
 lt : x.lo < x.hi
 ri : x.nx.length ≤ 1000
 nx : ∀ t ∈ x.nx, 0 ≤ t ∧ t < (G.length : Int)
 NZ : ∀ a : Nat, x.lo ≤ (a : Int) → (a : Int) < x.hi → a < n ∧ (cZ (cd a)).2 = 0 ∧ 0 ≤ (aF cd (a : Int)).op
theorem fQ (cd : Nat → Int) (lo : Int) (m : Nat) : (codeFrom cd lo m).length = m := by simp [codeFrom]
theorem rN (cd : Nat → Int) (G : List ew) : (bu cd G).length = G.length := by simp [bu]
theorem mC {cd : Nat → Int} {G : List ew} {k : Nat} {b : AB} (h : (bu cd G)[k]? = some b) : ∃ x, G[k]? = some x ∧ b = ⟨codeFrom cd x.lo (x.hi - x.lo).toNat, x.nx⟩ := by
 unfold bu at h
 rw [List.getElem?_map] at h
 cases hx : G[k]? with
 | none => rw [hx] at h; cases h
 | some x => rw [hx] at h; cases h; exact ⟨x, rfl, rfl⟩
theorem LI.Si {n : Nat} {cd : Nat → Int} {G : List ew} {x : ew} (h : LI n cd G x) : OB G.length ⟨codeFrom cd x.lo (x.hi - x.lo).toNat, x.nx⟩ := by
 have hm : 0 < (x.hi - x.lo).toNat := by have := h.lt; omega
 have Ad : ∀ i ∈ codeFrom cd x.lo (x.hi - x.lo).toNat, 0 ≤ i.op := fun i hi => by
  unfold codeFrom at hi
  obtain ⟨j, hj, rfl⟩ := List.mem_map.1 hi
  have hj := List.mem_range.1 hj
  have h0 := h.lo
  have := (h.NZ (x.lo.toNat + j) TX TX).2.2
  rwa [show ((x.lo.toNat + j : Nat) : Int) = x.lo + (j : Int) by omega] at this
 have hne : codeFrom cd x.lo (x.hi - x.lo).toNat ≠ [] := by
  intro e
  have := fQ cd x.lo (x.hi - x.lo).toNat
  rw [e] at this
  simp at this
  omega
 refine ⟨⟨⟨Ad, h.nx⟩, ?_, Ad⟩, hne, h.ri, h.nx⟩
 unfold AB.last
 have hl : (codeFrom cd x.lo (x.hi - x.lo).toNat).length - 1 < (codeFrom cd x.lo (x.hi - x.lo).toNat).length := by rw [fQ]; omega
 have e : (codeFrom cd x.lo (x.hi - x.lo).toNat).getD ((codeFrom cd x.lo (x.hi - x.lo).toNat).length - 1) ⟨0, 0, 0, 0, 0⟩ = (codeFrom cd x.lo (x.hi - x.lo).toNat)[(codeFrom cd x.lo (x.hi - x.lo).toNat).length - 1] := by simp [List.getD, List.getElem?_eq_getElem hl]
 show 0 ≤ ((codeFrom cd x.lo (x.hi - x.lo).toNat).getD ((codeFrom cd x.lo (x.hi - x.lo).toNat).length - 1) ⟨0, 0, 0, 0, 0⟩).op
 rw [e]
 exact Ad _ (List.getElem_mem _)
theorem CN {X w' : World} (hf : Below X.heap.size X w') : (∀ b o, b < X.heap.size → w'.cell? ⟨b, o, none⟩ = X.cell? ⟨b, o, none⟩) ∧ Below X.heap.size X w' := ⟨fun b o hb => hf.cell (p := ⟨b, o, none⟩) hb, hf⟩
theorem xC (w : World) (a b c d e : Value) (t : TypeId) : ∀ j u, [a, b, c, d, e][j]? = some u → (w.alloc (.cells #[a, b, c, d, e] t)).cell? ((⟨w.heap.size, 0, none⟩ : Addr).add j) = some u := by
 intro j u h
 have e : (⟨w.heap.size, 0, none⟩ : Addr).add j = ⟨w.heap.size, j, none⟩ := by cases j <;> simp [Addr.add]
 rw [e]
 unfold World.cell?
 rw [heap_alloc_new]
 simpa using h
theorem JF {w : World} {rb k : Nat} {T : TypeId} (h : w.heap[rb]? = some (.cells ((List.replicate k false).map Value.bool).toArray T (0, 0))) (hk : 0 < k) : w.cell? ⟨rb, 0, none⟩ = some (.bool false) ∧ w.frozen? ⟨rb, 0, none⟩ = false := by
 constructor
 ·unfold World.cell?
  simp only [h]
  rw [List.getElem?_toArray, List.getElem?_map, List.getElem?_replicate, if_pos hk]
  rfl
 ·simp [World.frozen?, h]
def ID (B : Nat) (rv iv dv : Value) : Prop := ∀ q, (rv.ownBlock = some q ∨ iv.ownBlock = some q ∨ dv.ownBlock = some q) → B ≤ q
def j6 (f : Nat → List bB) (k : Nat) (l : List bB) : Nat → List bB := fun i => if i < k then f i else if i = k then l else []
theorem AA (f : Nat → List bB) : j6 f 0 [] = fun _ => [] := by funext i; simp [j6]
theorem mZ (f : Nat → List bB) (k : Nat) (l : List bB) : j6 f k l k = l := by unfold j6; rw [if_neg TX, if_pos rfl]
theorem Dq (f : Nat → List bB) (k : Nat) (l l' : List bB) : upd (j6 f k l) k l' = j6 f k l' := by
 funext i
 unfold upd j6
 by_cases h : i = k
 ·rw [if_pos h, if_neg TX, if_pos h]
 ·rw [if_neg h, if_neg h, if_neg h]
theorem AD (f : Nat → List bB) (k : Nat) : j6 f k (f k) = j6 f (k + 1) [] := by
 funext i
 unfold j6
 by_cases h1 : i < k
 ·rw [if_pos h1, if_pos TX]
 ·rw [if_neg h1]
  by_cases h2 : i = k
  ·rw [if_pos h2, if_pos TX, h2]
  ·rw [if_neg h2, if_neg TX]
   split <;> rfl
def nH (cd : Nat → Int) (G : List ew) (k : Nat) : List bB := codeFrom cd (G.getD k ⟨0, 0, []⟩).lo ((G.getD k ⟨0, 0, []⟩).hi - (G.getD k ⟨0, 0, []⟩).lo).toNat
theorem Hq : (Tryz.prog.info? 64).map (fun i => (i.zero, i.size, i.bytes)) = some (some (.agg #[.int .u8 0, .int .i64 0, .int .i64 0, .int .i64 0, .int .i64 0]), 5, 40) := by kernel_rfl
theorem Hr : (Tryz.prog.info? 4).map (fun i => (i.zero, i.size, i.bytes)) = some (some (.bool false), 1, 1) := by kernel_rfl
theorem Hp : (Tryz.prog.info? 3).map (fun i => (i.zero, i.size, i.bytes)) = some (some (.int .i64 0), 1, 8) := by kernel_rfl
theorem Hl : (Tryz.prog.info? 50).map (fun i => (i.zero, i.size, i.bytes)) = some (some (.slice none 0 0), 1, 24) := by kernel_rfl
theorem Ho : (Tryz.prog.info? 56).map (fun i => (i.zero, i.size, i.bytes)) = some (some (.agg (aa ak).toArray), 32, 128) := by kernel_rfl
def yz : Prop := ∀ (cv ev bv pv : Value) (sh lk : Int) (n : Nat) (cd : Nat → Int) (G : List ew) (P : List (List Int)) (w : World) (T : fM w) (HW : Words w cv n cd) (HG : jH w bv G) (HP : vw w pv P) (hv : p5 G P) (hg0 : 0 < G.length) (hg1 : G.length ≤ 1000) (hok : ∀ x ∈ G, LI n cd G x),
  Calls Tryz.prog 7 #[.agg #[cv, ev, .int .i64 sh, .int .i64 lk], .agg #[bv, pv]] w fun e w' => (∃ s rv iv dv, Ends (bu cd G) (cX G.length) s ∧ e = .returned (.tuple #[.agg #[rv, iv, dv], .int .i64 0]) ∧ mD w' rv iv s.reach s.cJ ∧ FN w' dv (eE (bu cd G) s G.length) ∧ ID w.heap.size rv iv dv) ∧ Below w.heap.size w w'
end
section
open Go.RowKit
def vT : List bB := [⟨14, 10, 0, 0, 0⟩, ⟨25, 10, 0, 0, 4⟩, ⟨15, 10, 10, 0, 1⟩, ⟨24, 0, 0, 0, -3⟩]
def MK : List Int := vT.map fun i => (jn i).1
def dU (i : Nat) : Int := MK.getD i 0
theorem JD : ∀ x ∈ MK, 0 ≤ x ∧ x < 4294967296 := by decide +kernel
theorem sm0 : cZ (dU 0) = (⟨14, 10, 0, 0, 0⟩, 0) := by decide +kernel
theorem sm1 : cZ (dU 1) = (⟨25, 10, 0, 0, 4⟩, 0) := by decide +kernel
theorem sm2 : cZ (dU 2) = (⟨15, 10, 10, 0, 1⟩, 0) := by decide +kernel
theorem sm3 : cZ (dU 3) = (⟨24, 0, 0, 0, -3⟩, 0) := by decide +kernel
theorem Et : aF dU 0 = ⟨14, 10, 0, 0, 0⟩ := by show (cZ (dU 0)).1 = _; rw [sm0]
theorem BD : aF dU 1 = ⟨25, 10, 0, 0, 4⟩ := by show (cZ (dU 1)).1 = _; rw [sm1]
theorem Es : aF dU 2 = ⟨15, 10, 10, 0, 1⟩ := by show (cZ (dU 2)).1 = _; rw [sm2]
theorem Er : aF dU 3 = ⟨24, 0, 0, 0, -3⟩ := by show (cZ (dU 3)).1 = _; rw [sm3]
theorem Eu : nJ 4 dU [⟨js, 0, 4, 0⟩] 0 0 := by
 refine ⟨by omega, by simp, by omega, by omega, by simp, fun e he => ?_, ⟨rfl, by simp, rfl⟩, fun e he k h1 h2 => ?_⟩
 ·simp at he; subst he
  show 1 ≤ js.size ∧ js.size ≤ 12
  decide
 ·simp at he; subst he
  simp only at h1 h2
  obtain rfl | rfl | rfl | rfl : k = 0 ∨ k = 1 ∨ k = 2 ∨ k = 3 := by omega
  ·refine ⟨by show (cZ (dU 0)).2 = 0; rw [sm0], fun h => ?_, fun h => ?_⟩
   ·have : eA (aF dU 0).op = true := h
    rw [Et] at this; simp [eA] at this
   ·have : (aF dU 0).op = 28 ∨ (aF dU 0).op = 29 := h
    rw [Et] at this; simp at this
  ·refine ⟨by show (cZ (dU 1)).2 = 0; rw [sm1], fun h => ?_, fun h => ?_⟩
   ·have : eA (aF dU 1).op = true := h
    rw [BD] at this; simp [eA] at this
   ·have : (aF dU 1).op = 28 ∨ (aF dU 1).op = 29 := h
    rw [BD] at this; simp at this
  ·refine ⟨by show (cZ (dU 2)).2 = 0; rw [sm2], fun h => ?_, fun h => ?_⟩
   ·have : eA (aF dU 2).op = true := h
    rw [Es] at this; simp [eA] at this
   ·have : (aF dU 2).op = 28 ∨ (aF dU 2).op = 29 := h
    rw [Es] at this; simp at this
  ·refine ⟨by show (cZ (dU 3)).2 = 0; rw [sm3], fun _ => ?_, fun h => ?_⟩
   ·show (0 : Int) ≤ 3 + 1 + (aF dU 3).aR ∧ 3 + 1 + (aF dU 3).aR < 4
    rw [Er]; decide
   ·have : (aF dU 3).op = 28 ∨ (aF dU 3).op = 29 := h
    rw [Er] at this; simp at this
theorem F0 : cx (aF dU 0) 0 = [1] := by rw [Et]; decide
theorem FZ : cx (aF dU 1) 1 = [2] := by rw [BD]; decide
theorem FY : cx (aF dU 2) 2 = [3] := by rw [Es]; decide
theorem JA : cx (aF dU 3) 3 = [1] := by rw [Er]; decide
theorem BH (x : Int) : nU (aF dU) 0 4 x ↔ x ∈ [(0 : Int), 1, 2, 3] := by
 constructor
 ·intro h
  have := h.range _ _ _ TX
  simp; omega
 ·intro h
  have r0 : nU (aF dU) 0 4 0 := nU.start
  have r1 : nU (aF dU) 0 4 1 := nU.step r0 (by rw [F0]; simp) TX TX
  have r2 : nU (aF dU) 0 4 2 := nU.step r1 (by rw [FZ]; simp) TX TX
  have r3 : nU (aF dU) 0 4 3 := nU.step r2 (by rw [FY]; simp) TX TX
  simp at h
  rcases h with rfl | rfl | rfl | rfl
  ·exact r0
  ·exact r1
  ·exact r2
  ·exact r3
theorem Ex (x : Int) (h : x ∈ [(0 : Int), 1, 2, 3]) : ¬ nX (aF dU) 0 4 x := by
 rintro ⟨t, ht, hn⟩
 simp at h
 rcases h with rfl | rfl | rfl | rfl
 ·rw [F0] at ht; simp at ht; omega
 ·rw [FZ] at ht; simp at ht; omega
 ·rw [FY] at ht; simp at ht; omega
 ·rw [JA] at ht; simp at ht; omega
def ML : List (Int × Int) := [(0, 1), (1, 4)]
theorem GY : blk (aF dU) 0 [0, 1, 2, 3] 4 = ML := by decide +kernel
def nY : List ew := [⟨0, 1, [1]⟩, ⟨1, 4, [1]⟩]
theorem JC : dS (aF dU) ML = nY := by decide +kernel
theorem JB : gD (aF dU) ML = [[], [0, 1]] := by decide +kernel
theorem BF : p5 nY [[], [0, 1]] := by
 refine ⟨by simp [nY], rfl, ⟨4, ⟨by simp, by simp, by simp, by simp [nY], by simp [nY]⟩, ⟨by simp, by simp, by simp, by simp [nY], by simp [nY]⟩, rfl⟩, by decide⟩
theorem GX {r : Mf} (h : Out (aF dU) 0 4 r) : r = ⟨nY, [[], [0, 1]], -1, 0⟩ := by
 cases h with
 | bad D bad hb hR =>
  rcases hR.b with h | h
  ·omega
  ·exact absurd h.2.1 (Ex _ ((BH _).1 (hR.dr _ h.1)))
 | ok D hR =>
  have hm : ∀ x, x ∈ D ↔ x ∈ [(0 : Int), 1, 2, 3] := fun x => (hR.mem T4 x).trans (BH x)
  rw [show ((4 : Int) - 0).toNat = 4 from rfl, ng _ _ hm, GY, JC, JB]
def smA : List AB := [⟨[⟨14, 10, 0, 0, 0⟩], [1]⟩, ⟨[⟨25, 10, 0, 0, 4⟩, ⟨15, 10, 10, 0, 1⟩, ⟨24, 0, 0, 0, -3⟩], [1]⟩]
def k5 (h : Int) : RG := ak.set 10 (0, h)
theorem F7 : cK smA (cX 2) 2 = (⟨[true, true], [ak, k5 1], [0, 1]⟩, true) := by kernel_rfl
theorem F6 : cK smA ⟨[true, true], [ak, k5 1], [0, 1]⟩ 2 = (⟨[true, true], [ak, k5 2], [0, 2]⟩, true) := by kernel_rfl
theorem F5 : cK smA ⟨[true, true], [ak, k5 2], [0, 2]⟩ 2 = (⟨[true, true], [ak, k5 2147483647], [0, 3]⟩, true) := by kernel_rfl
theorem F4 : cK smA ⟨[true, true], [ak, k5 2147483647], [0, 3]⟩ 2 = (⟨[true, true], [ak, k5 2147483647], [0, 3]⟩, false) := by kernel_rfl
theorem Ev : Ends smA (cX 2) ⟨[true, true], [ak, k5 2147483647], [0, 3]⟩ := by
 have hl : smA.length = 2 := rfl
 have e4 : Ends smA ⟨[true, true], [ak, k5 2147483647], [0, 3]⟩ ⟨[true, true], [ak, k5 2147483647], [0, 3]⟩ := by
  have := Ends.done (B := smA) (s := ⟨[true, true], [ak, k5 2147483647], [0, 3]⟩) (by rw [hl, F4])
  rwa [hl, F4] at this
 have e3 : Ends smA ⟨[true, true], [ak, k5 2], [0, 2]⟩ ⟨[true, true], [ak, k5 2147483647], [0, 3]⟩ := Ends.more (by rw [hl, F5]) (by rw [hl, F5]; exact e4)
 have e2 : Ends smA ⟨[true, true], [ak, k5 1], [0, 1]⟩ ⟨[true, true], [ak, k5 2147483647], [0, 3]⟩ := Ends.more (by rw [hl, F6]) (by rw [hl, F6]; exact e3)
 exact Ends.more (by rw [hl, F7]) (by rw [hl, F7]; exact e2)
theorem Ew : eE smA ⟨[true, true], [ak, k5 2147483647], [0, 3]⟩ 2 = [] := by kernel_rfl
theorem yV : dJ [⟨25, 10, 0, 0, 4⟩] (k5 2147483647) = some (k5 3) := by kernel_rfl
end
section
open Go.RowKit
theorem kF (w : World) (T : fM w) :
  Calls Tryz.prog 20 #[] w fun e w' => (∃ cv ev A cap, e = .returned (.agg #[cv, ev, .int .i64 0, .int .i64 0]) ∧ cv = .slice A 4 cap ∧ w'.ownsRow w.heap.size 96 1 cv 4 (GU (vT.map fun i => (jn i).1)) ∧ td w' ev [⟨js, 0, 4, 0⟩]) ∧ Below w.heap.size w w' := by
 have HT := UZ T
 have qL := UZ (show ∀ x ∈ vT, 0 ≤ x.op by decide)
 clear T
 obtain ⟨iW, Rz, hW0, hW1, hW2⟩ := info_parts JW
 go_enter Tryz.func20, Tryz.ntmps20
 go_upto_region 3 with fail
 obtain ⟨V, hV, kr, ke, ki, ks, bV, Tl⟩ := pJ w #[.slice none 0 0, .slice none 0 0, .int .i64 0, .int .i64 0] #[.string { data := #[116, 97] }, .int .i64 0, .int .i64 4, .int .i64 0] #[.slice none 0 0, .slice (some ⟨w.heap.size + 1, 0, none⟩) 1 1, .int .i64 0, .int .i64 0] #[.int .u8 14, .int .i64 10, .int .i64 0, .int .i64 0, .int .i64 0, .int .u8 25, .int .i64 10, .int .i64 0, .int .i64 0, .int .i64 4, .int .u8 15, .int .i64 10, .int .i64 10, .int .i64 0, .int .i64 1, .int .u8 24, .int .i64 0, .int .i64 0, .int .i64 0, .int .i64 (-3)] 25 115 25 64
 have sV : V.heap.size = w.heap.size + 4 := by rw [← hV]; simp
 have Mt := UZ (show IG V V (w.heap.size + 1 + 1) (.slice none 0 0) (.slice (some ⟨w.heap.size + 1, 0, none⟩) 1 1) [] from ⟨by omega, rfl, rfl, rfl, Nat.le_refl _, fun _ _ _ => rfl, ki, World.ownsRow_nil _ _ _ _⟩)
 have hin : ∀ j i, vT[j]? = some i → V.cell? ⟨w.heap.size + 1 + 1 + 1, j * 5, none⟩ = some (.int .u8 i.op) ∧ V.cell? ⟨w.heap.size + 1 + 1 + 1, j * 5 + 1, none⟩ = some (.int .i64 i.a) ∧ V.cell? ⟨w.heap.size + 1 + 1 + 1, j * 5 + 2, none⟩ = some (.int .i64 i.b) ∧ V.cell? ⟨w.heap.size + 1 + 1 + 1, j * 5 + 3, none⟩ = some (.int .i64 i.c) ∧ V.cell? ⟨w.heap.size + 1 + 1 + 1, j * 5 + 4, none⟩ = some (.int .i64 i.aR) := fun j i hj => by
  have hl := (List.getElem?_eq_some_iff.1 hj).1
  have hl4 : j < 4 := hl
  obtain rfl | rfl | rfl | rfl : j = 0 ∨ j = 1 ∨ j = 2 ∨ j = 3 := by omega
  all_goals
   simp [vT] at hj
   subst hj
   simp [World.cell?, ks]
 rw [hV]
 obtain ⟨ib, hib⟩ : ∃ ib, w.heap.size + 1 + 1 = ib := ⟨_, rfl⟩
 obtain ⟨sb, Hx⟩ : ∃ sb, w.heap.size + 1 + 1 + 1 = sb := ⟨_, rfl⟩
 rw [Hx] at hin ⊢
 rw [hib] at Mt ⊢
 obtain ⟨eb, Nt⟩ : ∃ eb, w.heap.size + 1 = eb := ⟨_, rfl⟩
 rw [Nt] at Mt ke ⊢
 have BV := UZ bV
 have KR := UZ kr
 have KE := UZ ke
 have tv := UZ hin
 clear hV ki kr ke bV ks hin
 go_loopw [3, 4, 5, 15] (fun a3 a4 a5 a15 wr => ∃ (j : Nat) (cv : Value), j ≤ 4 ∧ a15 = .int .i64 (j : Int) ∧ IG V wr ib cv (.slice (some ⟨eb, 0, none⟩) 1 1) ((vT.take j).map fun i => (jn i).1)) (fun _ _ _ a15 _ => 4 - (intOf a15).toNat)
 case atStart => exact ⟨0, _, Nat.zero_le _, rfl, Mt.out⟩
 case round =>
  obtain ⟨j, cv, hj, rfl, hG⟩ := hrel
  clear Mt
  have HG := UZ hG
  have BW := UZ (hG.base BV.out TX)
  have sB := BW.out.size
  have Q8 := hG.sz
  clear hG
  by_cases hlt : j < 4
  ·obtain ⟨i, hx⟩ : ∃ i, vT[j]? = some i := ⟨_, List.getElem?_eq_getElem (show j < vT.length from hlt)⟩
   obtain ⟨c0, c1, c2, c3, c4⟩ := tv.out j i hx
   have x0 : wr.cell? ⟨sb, j * 5, none⟩ = some (.int .u8 i.op) := (World.cell?_of_block (HG.out.blk sb TX TX)).trans c0
   have x1 : wr.cell? ⟨sb, j * 5 + 1, none⟩ = some (.int .i64 i.a) := (World.cell?_of_block (HG.out.blk sb TX TX)).trans c1
   have x2 : wr.cell? ⟨sb, j * 5 + 2, none⟩ = some (.int .i64 i.b) := (World.cell?_of_block (HG.out.blk sb TX TX)).trans c2
   have x3 : wr.cell? ⟨sb, j * 5 + 3, none⟩ = some (.int .i64 i.c) := (World.cell?_of_block (HG.out.blk sb TX TX)).trans c3
   have x4 : wr.cell? ⟨sb, j * 5 + 4, none⟩ = some (.int .i64 i.aR) := (World.cell?_of_block (HG.out.blk sb TX TX)).trans c4
   have Mk := UZ (show (vT.take (j + 1)).map (fun i => (jn i).1) = (vT.take j).map (fun i => (jn i).1) ++ [(jn i).1] by rw [cu hx]; simp)
   have hop := qL.out i (List.mem_of_getElem? hx)
   have dl : decide ((j : Int) < (4 : Int)) = true := decide_eq_true TX
   have eD : sb < wr.heap.size := by omega
   obtain ⟨X, hX⟩ : ∃ X, wr.alloc (.cells #[.int .u8 i.op, .int .i64 i.a, .int .i64 i.b, .int .i64 i.c, .int .i64 i.aR] 64) = X := ⟨_, rfl⟩
   have bX : Below wr.heap.size wr X := hX ▸ (Below.refl _ _).alloc (Nat.le_refl _) _
   have kX : X.heap[wr.heap.size]? = some (.cells #[.int .u8 i.op, .int .i64 i.a, .int .i64 i.b, .int .i64 i.c, .int .i64 i.aR] 64) := hX ▸ heap_alloc_new _ _
   have IU := UZ (pL i hop X (HT.out.below (BW.out.trans (bX.mono sB))))
   obtain ⟨ec, er, Po⟩ : ∃ ec er, jn i = (ec, er) := ⟨_, _, rfl⟩
   rw [Po] at IU Mk
   simp only at IU Mk
   obtain ⟨ws, M4⟩ : ∃ ws, (vT.take j).map (fun i => (jn i).1) = ws := ⟨_, rfl⟩
   have hwl : ws.length = j := by rw [← M4, List.length_map, List.length_take]; show min j 4 = j; omega
   rw [M4] at HG Mk
   have Sz := UZ hwl
   have o0 : X.cell? ⟨wr.heap.size, 0, none⟩ = some (.int .u8 i.op) := by simp [World.cell?, kX]
   have o1 : X.cell? ⟨wr.heap.size, 1, none⟩ = some (.int .i64 i.a) := by simp [World.cell?, kX]
   have o2 : X.cell? ⟨wr.heap.size, 2, none⟩ = some (.int .i64 i.b) := by simp [World.cell?, kX]
   have o3 : X.cell? ⟨wr.heap.size, 3, none⟩ = some (.int .i64 i.c) := by simp [World.cell?, kX]
   have o4 : X.cell? ⟨wr.heap.size, 4, none⟩ = some (.int .i64 i.aR) := by simp [World.cell?, kX]
   have QG := UZ (HG.out.below bX)
   clear c0 c1 c2 c3 c4 hx Po M4 hwl kX bX hop
   go_upto_region 5 with fail
   clear hX x0 x1 x2 x3 x4
   go_upto_region 6 with (go_at_call 58; refine IU.out.mono ?_; rintro e Y ⟨rfl, Pu⟩)
   have Ee := QG.out.below Pu
   obtain ⟨cA, fH, rfl⟩ : ∃ cA fH, cv = .slice cA ws.length fH := by
    rcases Ee.row.2 with ⟨h, h'⟩ | ⟨g, cap', cur, h, _⟩
    ·exact ⟨_, _, by rw [h, h']⟩
    ·exact ⟨_, _, h⟩
   have i0 : Y.cell? ⟨ib, 0, none⟩ = some (.slice cA ws.length fH) := by simp [World.cell?, Ee.im]
   have f0 : Y.frozen? ⟨ib, 0, none⟩ = false := by simp [World.frozen?, Ee.im]
   have Ls := UZ Ee
   have Lg := UZ (show some ib ≠ Value.ownBlock (.slice cA ws.length fH) from fun e' => by have := (Ee.row.lt ib e'.symm).1; have := Ee.ib1; omega)
   have TJ : ib < Y.heap.size := by have := Ee.sz; have := Ee.ib1; omega
   have TL := Ee.sz
   have hw5 : ws.length ≤ 1000 := by have := Sz.out; omega
   clear Ee Pu o0 o1 o2 o3 o4 IU QG
   go_upto_region 7 with (at_builtin; refine wpList_append_own_at _ rfl (.tmp 25) (.tmp 27) 22 rfl V.heap.size 96 iW (.int .u32 0) 1 4 Tryz.underlying22 Rz hW0 hW1 hW2 rfl T1 (.slice cA ws.length fH) _ _ rfl (Ls.out.row.alloc _) ⟨Y.heap.size, 0, none⟩ 1 1 [.int .u32 ec] rfl rfl (cell_one_new _ _ _) T2 T3 TX Uc ?_; intro v' W' hown' hgrow _ rD; obtain ⟨g', cap', rfl⟩ := ownsRow_succ hown'; have hc1 := hgrow.cell (a := ⟨ib, 0, none⟩) (v := .slice cA ws.length fH) Ug Lg.out; have hf1 : W'.frozen? ⟨ib, 0, none⟩ = false := (World.frozen?_of_block (hgrow.block ib T9 Lg.out)).trans Ug)
   have HA := UZ (Ls.out.app (x := ec) ((Below.refl Y.heap.size Y).alloc (Nat.le_refl _) _) hgrow (by simpa [GU] using hown'))
   clear hc1 hf1 rD hgrow hown' i0 f0 Ls Lg
   go_wp2_with fail
   go_roundw
   case rel =>
    refine ⟨j + 1, .slice (some ⟨g', 0, none⟩) (ws.length + 1) cap', by omega, by go_num, ?_⟩
    rw [Mk.out]
    exact HA.out
   case measure => simp [intOf]; omega
  ·obtain rfl : j = 4 := by omega
   have dl : decide ((4 : Int) < (4 : Int)) = false := by simp
   rw [show vT.take 4 = vT from rfl] at HG
   have hwl : (vT.map fun i => (jn i).1).length = 4 := rfl
   have hrw := HG.out.row
   rw [hwl] at hrw
   obtain ⟨cA, fH, rfl⟩ : ∃ cA fH, cv = .slice cA 4 fH := by
    rcases hrw.2 with ⟨h, h'⟩ | ⟨g, cap', cur, h, _⟩
    ·exact ⟨_, _, by rw [h, h']⟩
    ·exact ⟨_, _, h⟩
   have i0 : wr.cell? ⟨ib, 0, none⟩ = some (.slice cA 4 fH) := by simp [World.cell?, HG.out.im]
   have i1 : wr.cell? ⟨ib, 1, none⟩ = some (.slice (some ⟨eb, 0, none⟩) 1 1) := by simp [World.cell?, HG.out.im]
   have i2 : wr.cell? ⟨ib, 2, none⟩ = some (.int .i64 0) := by simp [World.cell?, HG.out.im]
   have i3 : wr.cell? ⟨ib, 3, none⟩ = some (.int .i64 0) := by simp [World.cell?, HG.out.im]
   have kr := (HG.out.blk w.heap.size TX TX).trans KR.out
   have ke := (HG.out.blk eb TX TX).trans KE.out
   have r0 : wr.cell? ⟨w.heap.size, 0, none⟩ = some (.slice none 0 0) := by simp [World.cell?, kr]
   have r1 : wr.cell? ⟨w.heap.size, 1, none⟩ = some (.slice none 0 0) := by simp [World.cell?, kr]
   have r2 : wr.cell? ⟨w.heap.size, 2, none⟩ = some (.int .i64 0) := by simp [World.cell?, kr]
   have r3 : wr.cell? ⟨w.heap.size, 3, none⟩ = some (.int .i64 0) := by simp [World.cell?, kr]
   have f0 : wr.frozen? ⟨w.heap.size, 0, none⟩ = false := by simp [World.frozen?, kr]
   have f1 : wr.frozen? ⟨w.heap.size, 1, none⟩ = false := by simp [World.frozen?, kr]
   have f2 : wr.frozen? ⟨w.heap.size, 2, none⟩ = false := by simp [World.frozen?, kr]
   have f3 : wr.frozen? ⟨w.heap.size, 3, none⟩ = false := by simp [World.frozen?, kr]
   have Qp := UZ hrw
   have Ss := UZ ke
   clear hrw kr ke hwl
   go_wp2_with fail
   refine bodyPost_ret (v := .agg #[.slice cA 4 fH, .slice (some ⟨eb, 0, none⟩) 1 1, .int .i64 0, .int .i64 0]) (by simp [results, Tryz.results20, go_sem, *]) rfl ⟨⟨_, _, _, _, rfl, rfl, ?_, ?_⟩, ?_⟩
   ·refine ownsRow_base (base := V.heap.size) ?_ TX
    have hne : ∀ q, (Value.slice cA 4 fH).ownBlock = some q → q ≠ w.heap.size := fun q hq => by have := (Qp.out.lt q hq).1; omega
    refine ownsRow_setCell_other (ownsRow_setCell_other (ownsRow_setCell_other (ownsRow_setCell_other Qp.out ?_ _) ?_ _) ?_ _) ?_ _ <;> exact fun e => hne _ e rfl
   ·refine ⟨fun e he => by simp at he; subst he; show js.size ≤ maxLen; unfold maxLen; decide, _, 1, rfl, Nat.le_refl _, by unfold maxLen; omega, fun _ => ⟨eb, 0, rfl, by simp; omega, fun i x hx => ?_⟩⟩
    obtain ⟨rfl, rfl⟩ : i = 0 ∧ x = ⟨js, 0, 4, 0⟩ := by
     cases i with
     | zero => simp at hx; exact ⟨rfl, hx.symm⟩
     | succ i => simp at hx
    have hb : ((((wr.setCell ⟨w.heap.size, 0, none⟩ (.slice cA 4 fH)).setCell ⟨w.heap.size, 1, none⟩ (.slice (some ⟨eb, 0, none⟩) 1 1)).setCell ⟨w.heap.size, 2, none⟩ (.int .i64 0)).setCell ⟨w.heap.size, 3, none⟩ (.int .i64 0)).heap[eb]? = wr.heap[eb]? := by
     have : eb ≠ w.heap.size := by omega
     rw [Below.heap_setCell _ _ _ _ this, Below.heap_setCell _ _ _ _ this, Below.heap_setCell _ _ _ _ this, Below.heap_setCell _ _ _ _ this]
    have hb2 := hb.trans Ss.out
    refine ⟨?_, ?_, ?_, ?_⟩ <;> simp [World.cell?, hb2, js]
   ·refine Below.setCell (Below.setCell (Below.setCell (Below.setCell BW.out ?_ _) ?_ _) ?_ _) ?_ _ <;> exact Nat.le_refl _
end
section
open Go.RowKit
theorem vS : ∀ x ∈ nY, LI 4 dU nY x := by
 have key : ∀ a : Nat, a < 4 → a < 4 ∧ (cZ (dU a)).2 = 0 ∧ 0 ≤ (aF dU (a : Int)).op := fun a ha => by
  obtain rfl | rfl | rfl | rfl : a = 0 ∨ a = 1 ∨ a = 2 ∨ a = 3 := by omega
  ·exact ⟨by omega, by rw [sm0], by show 0 ≤ (cZ (dU 0)).1.op; rw [sm0]; decide⟩
  ·exact ⟨by omega, by rw [sm1], by show 0 ≤ (cZ (dU 1)).1.op; rw [sm1]; decide⟩
  ·exact ⟨by omega, by rw [sm2], by show 0 ≤ (cZ (dU 2)).1.op; rw [sm2]; decide⟩
  ·exact ⟨by omega, by rw [sm3], by show 0 ≤ (cZ (dU 3)).1.op; rw [sm3]; decide⟩
 intro x hx
 simp only [nY, List.mem_cons, List.not_mem_nil, or_false] at hx
 rcases hx with rfl | rfl
 ·exact ⟨by decide, by decide, by simp, by simp [nY], fun a h1 h2 => key a (by simp only at h2; omega)⟩
 ·exact ⟨by decide, by decide, by simp, by simp [nY], fun a h1 h2 => key a (by simp only at h2; omega)⟩
theorem BK : bu dU nY = smA := by
 have h0 : codeFrom dU 0 1 = [⟨14, 10, 0, 0, 0⟩] := by
  show [aF dU (0 + 0)] = _
  rw [show ((0 : Int) + 0) = 0 by omega, Et]
 have h1 : codeFrom dU 1 3 = [⟨25, 10, 0, 0, 4⟩, ⟨15, 10, 10, 0, 1⟩, ⟨24, 0, 0, 0, -3⟩] := by
  show [aF dU (1 + 0), aF dU (1 + 1), aF dU (1 + 2)] = _
  rw [show ((1 : Int) + 0) = 1 by omega, show ((1 : Int) + 1) = 2 by omega, show ((1 : Int) + 2) = 3 by omega, BD, Es, Er]
 show [AB.mk (codeFrom dU 0 1) [1], AB.mk (codeFrom dU 1 3) [1]] = smA
 rw [h0, h1]
 rfl
def OE : AS := ⟨[true, true], [ak, k5 2147483647], [0, 3]⟩
theorem BI {s : AS} (h : Ends (bu dU nY) (cX nY.length) s) : s = OE := by
 rw [BK] at h
 exact Ends.Gu h Ev
theorem BJ : eE (bu dU nY) OE nY.length = [] := by rw [BK]; exact Ew
theorem GZ : pY dU nY [true, true] [ak, k5 2147483647] 2 = some (k5 3) := by
 have h : codeFrom dU 1 1 = [⟨25, 10, 0, 0, 4⟩] := by
  show [aF dU (1 + 0)] = _
  rw [show ((1 : Int) + 0) = 1 by omega, BD]
 have hf : jl nY 2 = some 1 := by decide
 unfold pY
 rw [if_pos ⟨rfl, rfl⟩, hf]
 show (if true = true then dJ (codeFrom dU 1 1) (k5 2147483647) else none) = _
 rw [if_pos rfl, h]
 exact yV
theorem BL (v : Int) (h : aK v) : R16 (k5 v) := R16.zero.set _ ⟨by unfold aK; simp, h⟩
theorem iK {w : World} {B : Nat} {A : Option Addr} {cap : Nat} (h : w.ownsRow B 96 1 (.slice A 4 cap) 4 (GU (vT.map fun i => (jn i).1))) : Words w (.slice A 4 cap) 4 dU :=
 zJ (ws := MK) h T1 JD
theorem fS {w : World} {b B : Nat} {rv iv dv : Value} {rl : List Bool} {il : List RG} {L : List (Int × Int)} (hz : w.heap[b]? = some (.cells #[.slice none 0 0, .slice none 0 0, .slice none 0 0] 42 (0, 0))) (hN : ID B rv iv dv) (hb : b < B) (hR : mD w rv iv rl il) (hP : FN w dv L) (w' : World) (hw : w' = ((w.setCell ⟨b, 0, none⟩ rv).setCell ⟨b, 1, none⟩ iv).setCell ⟨b, 2, none⟩ dv) :
  w'.heap[b]? = some (.cells #[rv, iv, dv] 42 (0, 0)) ∧ mD w' rv iv rl il ∧ FN w' dv L := by
 subst hw
 have h1 := heap_setCell_same _ b 0 _ _ rv hz
 have h2 := heap_setCell_same _ b 1 _ _ iv h1
 have h3 := heap_setCell_same _ b 2 _ _ dv h2
 have LQ : ∀ q, q ≠ b → (((w.setCell ⟨b, 0, none⟩ rv).setCell ⟨b, 1, none⟩ iv).setCell ⟨b, 2, none⟩ dv).heap[q]? = w.heap[q]? := fun q hq => by
  rw [Below.heap_setCell _ _ _ _ hq, Below.heap_setCell _ _ _ _ hq, Below.heap_setCell _ _ _ _ hq]
 have hs : (((w.setCell ⟨b, 0, none⟩ rv).setCell ⟨b, 1, none⟩ iv).setCell ⟨b, 2, none⟩ dv).heap.size = w.heap.size := by simp
 refine ⟨h3, ?_, ?_⟩
 ·obtain ⟨⟨A, cap, e1, e2, e3, e4⟩, ⟨A', cap', f1, f2, f3, f4⟩⟩ := hR
  refine ⟨⟨A, cap, e1, e2, e3, fun h0 => ?_⟩, ⟨A', cap', f1, f2, f3, fun h0 => ?_⟩⟩
  ·obtain ⟨q, off, ha, hq, hc⟩ := e4 h0
   have hne : q ≠ b := by have := hN q (.inl (by rw [e1, ha]; rfl)); omega
   exact ⟨q, off, ha, by omega, fun k hk => (World.cell?_of_block (LQ q hne)).trans (hc k hk)⟩
  ·obtain ⟨q, off, ha, hq, hc⟩ := f4 h0
   have hne : q ≠ b := by have := hN q (.inr (.inl (by rw [f1, ha]; rfl))); omega
   exact ⟨q, off, ha, by omega, fun k hk j v hv => (World.cell?_of_block (LQ q hne)).trans (hc k hk j v hv)⟩
 ·obtain ⟨A, cap, e1, e2, e3, e4⟩ := hP
  refine ⟨A, cap, e1, e2, e3, fun h0 => ?_⟩
  obtain ⟨q, off, ha, hq, hc⟩ := e4 h0
  have hne : q ≠ b := by have := hN q (.inr (.inr (by rw [e1, ha]; rfl))); omega
  exact ⟨q, off, ha, by omega, fun i p hp => ⟨(World.cell?_of_block (LQ q hne)).trans (hc i p hp).1, (World.cell?_of_block (LQ q hne)).trans (hc i p hp).2⟩⟩
theorem vO (jF : yz) (w : World) (T : fM w) : Calls Tryz.prog 5 #[] w fun e w' => e = .returned (.bool true) ∧ Below w.heap.size w w' := by
 have HT := UZ T
 clear T
 go_enter Tryz.func5, Tryz.ntmps5
 go_upto_region 2 with (first | (go_at_call 20; refine (kF w HT.out).mono ?_; rintro e W1 ⟨⟨cv, ev, cA, fH, rfl, rfl, hrow, hent⟩, hb1⟩; have hw1 := iK hrow) | (go_at_call 19; refine (AE _ _ 0 0 4 dU [⟨js, 0, 4, 0⟩] 0 _ W1 (HT.out.below hb1) hw1 hent Eu rfl).mono ?_; rintro e W2 ⟨r, bv, pv, hout, rfl, hG, hP, hb2⟩; obtain rfl := GX hout; obtain ⟨GA, cN, nN, -, -, -⟩ := id hG; obtain ⟨PA, eW, Nb, -, -, -⟩ := id hP; obtain rfl : bv = .slice GA 2 cN := nN; obtain rfl : pv = .slice PA 2 eW := Nb))
 obtain ⟨b1, Ia⟩ : ∃ b1, W2.heap.size = b1 := ⟨_, rfl⟩
 obtain ⟨X, hX⟩ : ∃ X, W2.alloc (.cells #[.slice GA 2 cN, .slice PA 2 eW] 30) = X := ⟨_, rfl⟩
 rw [hX]
 have Mb : Below W2.heap.size W2 X := hX ▸ (Below.refl _ _).alloc (Nat.le_refl _) _
 have kX : X.heap[b1]? = some (.cells #[.slice GA 2 cN, .slice PA 2 eW] 30 (0, 0)) := by rw [← Ia, ← hX]; exact heap_alloc_new _ _
 rw [Ia]
 have Ie : Below w.heap.size w W2 := hb1.trans (hb2.mono hb1.size)
 have BX := UZ (Ie.trans (Mb.mono Ie.size))
 have x0 : X.cell? ⟨b1, 0, none⟩ = some (.slice GA 2 cN) := by simp [World.cell?, kX]
 have x1 : X.cell? ⟨b1, 1, none⟩ = some (.slice PA 2 eW) := by simp [World.cell?, kX]
 have lb1 : b1 < X.heap.size := ax kX
 have HG := UZ (hG.below Mb)
 have HP := UZ (hP.below Mb)
 have GH := UZ (HT.out.below BX.out)
 have KX := UZ kX
 clear hX kX Ie hb1 hb2 Mb hG hP hent hrow hw1 Ia hout
 go_cut [4, 5] from 14 to 19 (fun a4 a5 wx => ∃ b4 rv iv dv, a4 = .pointer (some ⟨b4, 0, none⟩) ∧ a5 = .int .i64 0 ∧ wx.heap[b4]? = some (.cells #[rv, iv, dv] 42 (0, 0)) ∧ mD wx rv iv [true, true] [ak, k5 2147483647] ∧ FN wx dv [] ∧ Below X.heap.size X wx)
 case first =>
  go_region_held3 (fun w' => (∀ b o, b < X.heap.size → w'.cell? ⟨b, o, none⟩ = X.cell? ⟨b, o, none⟩) ∧ Below X.heap.size X w') ((exact CN (by (repeat (first | (with_reducible assumption) | (with_reducible exact Below.refl _ _) | (with_reducible refine Below.drew ?_) | (with_reducible refine Below.alloc ?_ T7 _) | (with_reducible refine Below.setCell ?_ TZ _) | (with_reducible refine Below.aS ?_ TZ _ _))))))
   (first | (go_at_call 20; refine (kF _ (GH.out.below (by (repeat (first | (with_reducible assumption) | (with_reducible exact Below.refl _ _) | (with_reducible refine Below.drew ?_) | (with_reducible refine Below.alloc ?_ T7 _) | (with_reducible refine Below.setCell ?_ TZ _) | (with_reducible refine Below.aS ?_ TZ _ _)))))).mono ?_; rintro e w2 ⟨⟨cv2, ev2, A2, uY, rfl, rfl, hrow2, Ke⟩, hb2⟩; have hk2 : Below X.heap.size X w2 := Below.trans (by (repeat (first | (with_reducible assumption) | (with_reducible exact Below.refl _ _) | (with_reducible refine Below.drew ?_) | (with_reducible refine Below.alloc ?_ T7 _) | (with_reducible refine Below.setCell ?_ TZ _) | (with_reducible refine Below.aS ?_ TZ _ _)))) (Below.mono hb2 Uj); have hw2 := iK hrow2; have hs2 := hk2.size; (try have hz2 : w2.heap[X.heap.size]? = some (.cells #[.slice none 0 0, .slice none 0 0, .slice none 0 0] 42 (0, 0)) := (hb2.block _ T4).trans (heap_alloc_new X.drew _)); clear hb2) | (go_at_call 7; refine (jF _ _ _ _ 0 0 4 dU nY [[], [0, 1]] _ (GH.out.below (by (repeat (first | (with_reducible assumption) | (with_reducible exact Below.refl _ _) | (with_reducible refine Below.drew ?_) | (with_reducible refine Below.alloc ?_ T7 _) | (with_reducible refine Below.setCell ?_ TZ _) | (with_reducible refine Below.aS ?_ TZ _ _))))) (hw2.below (by (repeat (first | (with_reducible assumption) | (with_reducible exact Below.refl _ _) | (with_reducible refine Below.drew ?_) | (with_reducible refine Below.alloc ?_ T7 _) | (with_reducible refine Below.setCell ?_ TZ _) | (with_reducible refine Below.aS ?_ TZ _ _))))) (HG.out.below (by (repeat (first | (with_reducible assumption) | (with_reducible exact Below.refl _ _) | (with_reducible refine Below.drew ?_) | (with_reducible refine Below.alloc ?_ T7 _) | (with_reducible refine Below.setCell ?_ TZ _) | (with_reducible refine Below.aS ?_ TZ _ _))))) (HP.out.below (by (repeat (first | (with_reducible assumption) | (with_reducible exact Below.refl _ _) | (with_reducible refine Below.drew ?_) | (with_reducible refine Below.alloc ?_ T7 _) | (with_reducible refine Below.setCell ?_ TZ _) | (with_reducible refine Below.aS ?_ TZ _ _))))) BF T1 T1 vS).mono ?_; rintro e w3 ⟨⟨s3, rv, iv, dv, hE, rfl, hR, A9, hN⟩, hb3⟩; obtain rfl := BI hE; rw [BJ] at A9; obtain ⟨⟨RA, Cc, I7, -⟩, ⟨IA, CS, hiv, -⟩⟩ := id hR; obtain ⟨DA, FA, Nu, -⟩ := id A9; obtain rfl : rv = .slice RA 2 Cc := I7; obtain rfl : iv = .slice IA 2 CS := hiv; obtain rfl : dv = .slice DA 0 FA := Nu; have hk3 : Below X.heap.size X w3 := Below.trans (by (repeat (first | (with_reducible assumption) | (with_reducible exact Below.refl _ _) | (with_reducible refine Below.drew ?_) | (with_reducible refine Below.alloc ?_ T7 _) | (with_reducible refine Below.setCell ?_ TZ _) | (with_reducible refine Below.aS ?_ TZ _ _)))) (Below.mono hb3 Uj); have hs3 := hk3.size; have Hx := hb3.size; (try have hz3 : w3.heap[X.heap.size]? = some (.cells #[.slice none 0 0, .slice none 0 0, .slice none 0 0] 42 (0, 0)) := (hb3.block _ (by first | exact ax hz2 | (simp; omega))).trans hz2); (try have hz4 : w3.heap[w2.heap.size]? = some (.cells #[.slice none 0 0, .slice none 0 0, .slice none 0 0] 42 (0, 0)) := (hb3.block _ T4).trans (heap_alloc_new w2 _)); (try have z30 : w3.cell? ⟨X.heap.size, 0, none⟩ = some (.slice none 0 0) := by simp [World.cell?, hz3]); (try have y30 : w3.frozen? ⟨X.heap.size, 0, none⟩ = false := by simp [World.frozen?, hz3]); (try have z31 : w3.cell? ⟨X.heap.size, 1, none⟩ = some (.slice none 0 0) := by simp [World.cell?, hz3]); (try have y31 : w3.frozen? ⟨X.heap.size, 1, none⟩ = false := by simp [World.frozen?, hz3]); (try have z32 : w3.cell? ⟨X.heap.size, 2, none⟩ = some (.slice none 0 0) := by simp [World.cell?, hz3]); (try have y32 : w3.frozen? ⟨X.heap.size, 2, none⟩ = false := by simp [World.frozen?, hz3]); (try have z40 : w3.cell? ⟨w2.heap.size, 0, none⟩ = some (.slice none 0 0) := by simp [World.cell?, hz4]); (try have y40 : w3.frozen? ⟨w2.heap.size, 0, none⟩ = false := by simp [World.frozen?, hz4]); (try have z41 : w3.cell? ⟨w2.heap.size, 1, none⟩ = some (.slice none 0 0) := by simp [World.cell?, hz4]); (try have y41 : w3.frozen? ⟨w2.heap.size, 1, none⟩ = false := by simp [World.frozen?, hz4]); (try have z42 : w3.cell? ⟨w2.heap.size, 2, none⟩ = some (.slice none 0 0) := by simp [World.cell?, hz4]); (try have y42 : w3.frozen? ⟨w2.heap.size, 2, none⟩ = false := by simp [World.frozen?, hz4])))
  all_goals (go_wp2_with fail; go_meet)
  all_goals first
   | exact ⟨_, _, _, _, rfl, rfl, heap_alloc_new _ _, hR.below ((Below.refl _ _).alloc (Nat.le_refl _) _), A9.below ((Below.refl _ _).alloc (Nat.le_refl _) _), Below.alloc hk3 hs3 _⟩
   | exact ⟨_, _, _, _, rfl, rfl, (fS hz4 hN T4 hR A9 _ rfl).1, (fS hz4 hN T4 hR A9 _ rfl).2.1, (fS hz4 hN T4 hR A9 _ rfl).2.2, Below.setCell (Below.setCell (Below.setCell hk3 hs2 _) hs2 _) hs2 _⟩
   | exact ⟨_, _, _, _, rfl, rfl, (fS hz3 hN (ax hz2) hR A9 _ rfl).1, (fS hz3 hN (ax hz2) hR A9 _ rfl).2.1, (fS hz3 hN (ax hz2) hR A9 _ rfl).2.2, Below.setCell (Below.setCell (Below.setCell hk3 (Nat.le_refl _) _) (Nat.le_refl _) _) (Nat.le_refl _) _⟩
 case rest =>
  obtain ⟨b4, rv, iv, dv, rfl, rfl, k4, hR, A9, Jj⟩ := hcut
  obtain ⟨Y, hY⟩ : ∃ Y : World, Y = wc := ⟨_, rfl⟩
  subst hY
  have y0 : Y.cell? ⟨b1, 0, none⟩ = _ := (Jj.cell (p := ⟨b1, 0, none⟩) lb1).trans x0
  have y1 : Y.cell? ⟨b1, 1, none⟩ = _ := (Jj.cell (p := ⟨b1, 1, none⟩) lb1).trans x1
  have Tt : b1 < Y.heap.size := Nat.lt_of_lt_of_le lb1 Jj.size
  have MQ : b4 < Y.heap.size := ax k4
  obtain ⟨⟨RA, Cc, I7, -, -, O0⟩, ⟨IA, CS, hiv, -, -, Pc⟩⟩ := id hR
  obtain ⟨DA, FA, Nu, -⟩ := id A9
  obtain ⟨rq, ro, rfl, Ro, hrc⟩ := O0 T1
  obtain ⟨iq, io, rfl, Pb, hic⟩ := Pc T1
  obtain rfl : rv = .slice (some ⟨rq, ro, none⟩) 2 Cc := I7
  obtain rfl : iv = .slice (some ⟨iq, io, none⟩) 2 CS := hiv
  obtain rfl : dv = .slice DA 0 FA := Nu
  have y40 : Y.cell? ⟨b4, 0, none⟩ = some (.slice (some ⟨rq, ro, none⟩) 2 Cc) := by simp [World.cell?, k4]
  have y41 : Y.cell? ⟨b4, 1, none⟩ = some (.slice (some ⟨iq, io, none⟩) 2 CS) := by simp [World.cell?, k4]
  have y42 : Y.cell? ⟨b4, 2, none⟩ = some (.slice DA 0 FA) := by simp [World.cell?, k4]
  have yr1 : Y.cell? ⟨rq, ro + 1, none⟩ = some (.bool true) := hrc 1 T1
  have yi0 : Y.cell? ⟨iq, io + 52, none⟩ = some (.int .i32 0) := hic 1 T1 20 _ rfl
  have yi1 : Y.cell? ⟨iq, io + 53, none⟩ = some (.int .i32 2147483647) := hic 1 T1 21 _ rfl
  have Ls := UZ (HG.out.below Jj)
  have xT := UZ (GH.out.below Jj)
  have SG := UZ hR
  have BY := UZ (BX.out.trans (Jj.mono BX.out.size))
  have K4 := UZ k4
  clear hrc hic O0 Pc x0 x1 hR A9 k4 HG GH HP
  obtain ⟨jr, Fa⟩ : ∃ r, k5 3 = r := ⟨_, rfl⟩
  have vz := UZ (show R16 jr from Fa ▸ BL 3 Uv)
  have J7 : (aa jr).length = 32 := by rw [az, vz.out.len]
  have Ng : ∀ v ∈ aa jr, v.oneCell' = true := fG jr
  have Fb : (Tryz.prog.info? 56).map (·.size) = some (aa jr).length := by rw [J7]; kernel_rfl
  have qb := UZ (show cE (pY dU nY [true, true] [ak, k5 2147483647] 2) = .tuple #[.agg (aa jr).toArray, .bool true] by rw [GZ, Fa]; rfl)
  have HJ := UZ Fa
  have Te := UZ (show ∀ r ∈ [ak, k5 2147483647], R16 r from fun r hr => by
   simp only [List.mem_cons, List.not_mem_nil, or_false] at hr
   rcases hr with rfl | rfl
   ·exact R16.zero
   ·exact BL _ Uv)
  have rP := UZ (show ∀ x ∈ nY, 0 ≤ x.lo ∧ ∀ a : Nat, x.lo ≤ (a : Int) → (a : Int) < x.hi → a < 4 ∧ (cZ (dU a)).2 = 0 ∧ 0 ≤ (aF dU (a : Int)).op from fun x hx => ⟨(vS x hx).lo, (vS x hx).NZ⟩)
  clear Fa
  go_upto_region 3 with fail
  go_cut [6, 7] from 20 to 26 (fun a6 a7 wx => ∃ b6, a6 = .pointer (some ⟨b6, 0, none⟩) ∧ a7 = .bool true ∧ aC wx b6 56 jr ∧ Below Y.heap.size Y wx)
  case first =>
   go_region_held3 (fun w' => (∀ b o, b < Y.heap.size → w'.cell? ⟨b, o, none⟩ = Y.cell? ⟨b, o, none⟩) ∧ Below Y.heap.size Y w') ((exact CN (by (repeat (first | (with_reducible assumption) | (with_reducible exact Below.refl _ _) | (with_reducible refine Below.drew ?_) | (with_reducible refine Below.alloc ?_ T7 _) | (with_reducible refine Below.setCell ?_ TZ _) | (with_reducible refine Below.aS ?_ TZ _ _))))))
    (first | (go_at_call 20; refine (kF _ (xT.out.below (by (repeat (first | (with_reducible assumption) | (with_reducible exact Below.refl _ _) | (with_reducible refine Below.drew ?_) | (with_reducible refine Below.alloc ?_ T7 _) | (with_reducible refine Below.setCell ?_ TZ _) | (with_reducible refine Below.aS ?_ TZ _ _)))))).mono ?_; rintro e w2 ⟨⟨cv2, ev2, A2, uY, rfl, rfl, hrow2, Ke⟩, hb2⟩; have hk2 : Below Y.heap.size Y w2 := Below.trans (by (repeat (first | (with_reducible assumption) | (with_reducible exact Below.refl _ _) | (with_reducible refine Below.drew ?_) | (with_reducible refine Below.alloc ?_ T7 _) | (with_reducible refine Below.setCell ?_ TZ _) | (with_reducible refine Below.aS ?_ TZ _ _)))) (Below.mono hb2 Uj); have hw2 := iK hrow2; have hs2 := hk2.size; have ht2 := mL w2; (try have hz2 : aC w2 Y.heap.size 56 ak := (hb2.block _ T4).trans (heap_alloc_new Y.drew _)); clear hb2) | (go_at_call 21; refine (xG _ _ _ _ _ _ _ 0 0 4 dU nY [true, true] [ak, k5 2147483647] 2 _ (xT.out.below (by (repeat (first | (with_reducible assumption) | (with_reducible exact Below.refl _ _) | (with_reducible refine Below.drew ?_) | (with_reducible refine Below.alloc ?_ T7 _) | (with_reducible refine Below.setCell ?_ TZ _) | (with_reducible refine Below.aS ?_ TZ _ _))))) (hw2.below (by (repeat (first | (with_reducible assumption) | (with_reducible exact Below.refl _ _) | (with_reducible refine Below.drew ?_) | (with_reducible refine Below.alloc ?_ T7 _) | (with_reducible refine Below.setCell ?_ TZ _) | (with_reducible refine Below.aS ?_ TZ _ _))))) (Ls.out.below (by (repeat (first | (with_reducible assumption) | (with_reducible exact Below.refl _ _) | (with_reducible refine Below.drew ?_) | (with_reducible refine Below.alloc ?_ T7 _) | (with_reducible refine Below.setCell ?_ TZ _) | (with_reducible refine Below.aS ?_ TZ _ _))))) (SG.out.below (by (repeat (first | (with_reducible assumption) | (with_reducible exact Below.refl _ _) | (with_reducible refine Below.drew ?_) | (with_reducible refine Below.alloc ?_ T7 _) | (with_reducible refine Below.setCell ?_ TZ _) | (with_reducible refine Below.aS ?_ TZ _ _))))) Te.out rP.out).mono ?_; rintro e w3 ⟨rfl, hb3⟩; rw [qb.out]; have hk3 : Below Y.heap.size Y w3 := Below.trans (by (repeat (first | (with_reducible assumption) | (with_reducible exact Below.refl _ _) | (with_reducible refine Below.drew ?_) | (with_reducible refine Below.alloc ?_ T7 _) | (with_reducible refine Below.setCell ?_ TZ _) | (with_reducible refine Below.aS ?_ TZ _ _)))) (Below.mono hb3 Uj); have hs3 := hk3.size; have Hx := hb3.size; have ht3 := mL w3; (try have hz3 : aC w3 Y.heap.size 56 ak := (hb3.block _ (by first | exact hz2.lt | (simp; omega))).trans hz2); (try have hz4 : aC w3 w2.heap.size 56 ak := (hb3.block _ T4).trans (heap_alloc_new w2 _)); (try have hy3 : w3.there Y.heap.size 0 32 := gS hz3); (try have hy4 : w3.there w2.heap.size 0 32 := gS hz4)))
   all_goals (go_wp2_with fail; go_meet)
   all_goals first
    | exact ⟨_, rfl, rfl, iZ (z := ak) (heap_alloc_new _ _) ag vz.out.len, Below.aS (Below.alloc hk3 hs3 _) hs3 _ _⟩
    | exact ⟨_, rfl, rfl, iZ hz4 ag vz.out.len, Below.aS hk3 hs2 _ _⟩
    | exact ⟨_, rfl, rfl, iZ hz3 ag vz.out.len, Below.aS hk3 (Nat.le_refl _) _ _⟩
  case rest =>
   obtain ⟨b6, rfl, rfl, k6, Gw⟩ := hcut
   obtain ⟨Z, hZ⟩ : ∃ Z : World, Z = wc := ⟨_, rfl⟩
   subst hZ
   have z40 : Z.cell? ⟨b4, 0, none⟩ = _ := (Gw.cell (p := ⟨b4, 0, none⟩) MQ).trans y40
   have z41 : Z.cell? ⟨b4, 1, none⟩ = _ := (Gw.cell (p := ⟨b4, 1, none⟩) MQ).trans y41
   have z42 : Z.cell? ⟨b4, 2, none⟩ = _ := (Gw.cell (p := ⟨b4, 2, none⟩) MQ).trans y42
   have zr1 : Z.cell? ⟨rq, ro + 1, none⟩ = _ := (Gw.cell (p := ⟨rq, ro + 1, none⟩) Ro).trans yr1
   have zi0 : Z.cell? ⟨iq, io + 52, none⟩ = _ := (Gw.cell (p := ⟨iq, io + 52, none⟩) Pb).trans yi0
   have zi1 : Z.cell? ⟨iq, io + 53, none⟩ = _ := (Gw.cell (p := ⟨iq, io + 53, none⟩) Pb).trans yi1
   have kk6 : aC Z b6 56 (k5 3) := HJ.out ▸ k6
   have z60 : Z.cell? ⟨b6, 20, none⟩ = some (.int .i32 0) := kk6.lo (k := 10) T1
   have z61 : Z.cell? ⟨b6, 21, none⟩ = some (.int .i32 3) := kk6.hi (k := 10) T1
   have Tb := UZ (BY.out.trans (Gw.mono BY.out.size))
   clear y0 y1 y40 y41 y42 yr1 yi0 yi1 kk6 k6 Gw Fb J7 Ng
   go_wp2_with fail
   go_ret
   exact ⟨rfl, Tb.out⟩
end
end Go.Proofs.YtebklpnkcicpjaaGreatDoor
