/-
  What is proved here: parts aMono, aFix, aVi, aAz0.
-/
import Derived.Test.YtlmgkipmfgijiaaGreatDoorXa
import Derived.Test.YtlmgkipmfgijiaaGreatDoorXi
import Derived.Test.YtlmgkipmfgijiaaGreatDoorXh
import Derived.Test.YtlmgkipmfgijiaaGreatDoorXk
import Derived.Test.YtlmgkipmfgijiaaGreatDoorXj
import Derived.BigRegion
import Derived.Deep.RegionHeld3
import Derived.Deep.DeepCutAuto
import Derived.Test.YtlmgkipmfgijiaaGreatDoorXd
import Derived.Test.YtlmgkipmfgijiaaGreatDoorXb
namespace Go.Proofs.YtlmgkipmfgijiaaGreatDoor
set_option linter.unusedVariables false
set_option linter.unusedSimpArgs false
set_option maxRecDepth 100000
set_option maxHeartbeats 8000000
section
open Go.RowKit
def Bt (r m : RG) : Prop := ∀ k : Int, Sub (rg r k) (rg m k)
theorem Gj {r : RG} {k : Int} (h : r.length ≤ k.toNat) : rg r k = (0, 0) := by
 unfold rg
 simp [List.getD, List.getElem?_eq_none h]
theorem xM {r : RG} {k : Int} {x : Int × Int} (h0 : 0 ≤ k) (hl : k.toNat < r.length) (j : Int) (hj : 0 ≤ j) : rg (cL r k x) j = if k ≠ 0 ∧ j = k then x else rg r j := by
 unfold cL
 by_cases e : k = 0
 ·rw [if_pos e, if_neg ahU]
 ·rw [if_neg e]
  unfold rg
  by_cases e2 : j = k
  ·subst e2
   rw [if_pos ⟨e, rfl⟩]
   simp [List.getD, hl]
  ·rw [if_neg ahU]
   have : k.toNat ≠ j.toNat := by omega
   simp [List.getD, List.getElem?_set, this]
theorem Gk {r : RG} {k : Int} (h : k < 0) : rg r k = rg r 0 := by
 unfold rg
 rw [show k.toNat = 0 by omega, show (0 : Int).toNat = 0 from rfl]
theorem Bt.of {r m : RG} (h : ∀ k : Nat, k < 16 → Sub (rg r (k : Int)) (rg m (k : Int))) (hr : R16 r) (hm : R16 m) : Bt r m := fun k => by
 by_cases h1 : k < 0
 ·rw [Gk h1, Gk h1]; exact h 0 ahU
 ·by_cases h2 : k.toNat < 16
  ·have := h k.toNat h2
   rwa [show ((k.toNat : Nat) : Int) = k by omega] at this
  ·rw [Gj (by rw [hr.len]; omega), Gj (by rw [hm.len]; omega)]
   exact .inr ⟨Int.le_refl _, Int.le_refl _⟩
theorem BO {r m : RG} (hr : R16 r) (hm : R16 m) {k : Nat} (hk : k < 16) : rg (bO r m) (k : Int) = bH (rg r (k : Int)) (rg m (k : Int)) := by
 have h1 : k < r.length := by rw [hr.len]; exact hk
 have h2 : k < m.length := by rw [hm.len]; exact hk
 unfold rg bO
 simp [List.getD, List.getElem?_zipWith, List.getElem?_eq_getElem h1, List.getElem?_eq_getElem h2]
theorem xL {r m : RG} (hr : R16 r) (hm : R16 m) {k : Nat} (hk : k < 16) : rg (dX r m) (k : Int) = aL (rg r (k : Int)) (rg m (k : Int)) := by
 have h1 : k < r.length := by rw [hr.len]; exact hk
 have h2 : k < m.length := by rw [hm.len]; exact hk
 unfold rg dX
 simp [List.getD, List.getElem?_zipWith, List.getElem?_eq_getElem h1, List.getElem?_eq_getElem h2]
theorem yg {r m : RG} (hr : R16 r) (hm : R16 m) : Bt r (bO r m) := Bt.of (fun k hk => by
 rw [BO hr hm hk]
 exact (within_iff _ _).1 (Eh _ _)) hr (hr.join hm)
theorem Ku : ∀ k, k < 30 → (eV k).Mn ≤ 15 ∧ (eV k).Mj ≤ 15 ∧ (eV k).J7 ≤ 15 ∧ -131072 ≤ mS k ∧ mU k ≤ 131071 := by decide
theorem xx {i : Ins} (h0 : 0 ≤ i.op) (hv : aT i = true) : (0 ≤ i.a ∧ i.a ≤ 15) ∧ (0 ≤ i.b ∧ i.b ≤ 15) ∧ (0 ≤ i.c ∧ i.c ≤ 15) ∧ -131072 ≤ i.aP ∧ i.aP ≤ 131071 := by
 obtain ⟨k, g1, g2, ⟨a1, a2⟩, ⟨b1, b2⟩, ⟨c1, c2⟩, i1, i2⟩ := (eR (i := i) h0).1 hv
 obtain ⟨s1, s2, s3, s4, s5⟩ := Ku k g2
 omega
def We (v : List Int) (r : RG) : Prop := ∀ k : Nat, k < 16 → Mem (v.getD k 0) (rg r (k : Int))
theorem We.sub {v : List Int} {r m : RG} (h : We v r) (hs : Bt r m) : We v m := fun k hk => by
 have h1 := h k hk
 have h2 := hs (k : Int)
 unfold Mem at *
 unfold Sub at h2
 omega
end
section
open Go.RowKit
def mK (s : AS) (b : Nat) : RG := s.bC.getD b []
def zeros : List Int := List.replicate 16 0
structure Fx (n : Nat) (s : AS) : Prop where
 qu : zg n s
 z : ∀ b, b < n → rg (mK s b) 0 = (0, 0)
 r0 : s.reach.getD 0 false = true
 c0 : We zeros (mK s 0)
 un : ∀ b, b < n → s.reach.getD b false = false → mK s b = aA
theorem F5 {i : Ins} {r a : RG} (h0 : 0 ≤ i.op) (hr : R16 r) (h : eT i r = some a) : rg a 0 = rg r 0 ∧ cu r = true := by
 unfold eT at h
 split at h
 ·rename_i hv
  refine ⟨?_, hv.2⟩
  obtain ⟨⟨a0, a1⟩, _⟩ := xx h0 hv.1
  have key : ∀ x, rg (cL r i.a x) 0 = rg r 0 := fun x => by
   rw [xM a0 (by rw [hr.len]; omega) _ (Int.le_refl _), if_neg ahU]
  (repeat' split at h) <;> first | (cases h; exact key _) | (cases h; rfl) | cases h
 ·cases h
theorem rG {i : Ins} {r a : RG} {t : Bool} (h0 : 0 ≤ i.op) (hr : R16 r) (h : fu i r t = some a) : rg a 0 = rg r 0 := by
 unfold fu at h
 split at h
 ·rename_i hv
  obtain ⟨⟨a0, a1⟩, _⟩ := xx h0 hv.1
  have key : ∀ x, rg (cL r i.a x) 0 = rg r 0 := fun x => by
   rw [xM a0 (by rw [hr.len]; omega) _ (Int.le_refl _), if_neg ahU]
  (repeat' split at h) <;> first | (cases h; exact key _) | (cases h; rfl) | cases h
 ·cases h
theorem Al {r m : RG} (hr : R16 r) (hm : R16 m) (h1 : rg r 0 = (0, 0)) (h2 : rg m 0 = (0, 0)) : rg (bO r m) 0 = (0, 0) := by
 have := BO hr hm (k := 0) ahU
 rw [show ((0 : Nat) : Int) = 0 from rfl] at this
 rw [this, h1, h2]
 decide
theorem Kr {r m : RG} (hr : R16 r) (hm : R16 m) (h1 : rg r 0 = (0, 0)) (h2 : rg m 0 = (0, 0)) : rg (dX r m) 0 = (0, 0) := by
 have := xL hr hm (k := 0) ahU
 rw [show ((0 : Nat) : Int) = 0 from rfl] at this
 rw [this, h1, h2]
 decide
theorem Gg : ∀ {l : List Ins} {r a : RG}, (∀ i ∈ l, 0 ≤ i.op) → R16 r → gS l r = some a → rg a 0 = rg r 0
 | [], r, a, _, _, h => by cases h; rfl
 | i :: l, r, a, hl, hr, h => by
  unfold gS at h
  split at h
  ·cases h
  ·rename_i r' e
   rw [Gg (fun j hj => hl j (List.mem_cons_of_mem _ hj)) (oQ (hl i (List.mem_cons_self ..)) hr e) h]
   exact (F5 (hl i (List.mem_cons_self ..)) hr e).1
theorem LK {last : Ins} {m k : Nat} {r a : RG} (h0 : 0 ≤ last.op) (hr : R16 r) (hz : rg r 0 = (0, 0)) (h : dW last m k r = some a) : rg a 0 = (0, 0) := by
 unfold dW at h
 split at h
 ·cases h; exact hz
 split at h
 ·rw [rG h0 hr h]; exact hz
 ·split at h
  ·rw [rG h0 hr h]; exact hz
  ·rename_i e _
   cases h
   rw [rG h0 hr (by assumption)]; exact hz
  ·rename_i e1 e2
   cases h
   exact Al (dY hr e1) (dY hr e2) (by rw [rG h0 hr e1]; exact hz) (by rw [rG h0 hr e2]; exact hz)
theorem CY {x y : Int × Int} (wx : bg x.1 ∧ bg x.2) (h : Sub x y) : Sub x (aL x y) := by
 unfold bg at wx
 unfold aL emp Sub at *
 by_cases h1 : x.2 < x.1
 ·exact .inl h1
 ·by_cases h2 : y.2 < y.1
  ·simp [h1, h2]
  ·simp only [h1, h2, decide_false, Bool.false_eq_true, if_false]
   right
   constructor <;> split <;> omega
def newR (s : AS) (t : Nat) (r : RG) : RG := if 2 ≤ s.rep.getD t 0 then dX (s.bC.getD t []) (bO (s.bC.getD t []) r) else bO (s.bC.getD t []) r
theorem Gw {n : Nat} {s : AS} (h : zg n s) {t : Nat} (ht : t < n) {r : RG} (hr : R16 r) : R16 (newR s t r) ∧ Bt (s.bC.getD t []) (newR s t r) ∧ (rg (s.bC.getD t []) 0 = (0, 0) → rg r 0 = (0, 0) → rg (newR s t r) 0 = (0, 0)) := by
 have hg := h.get ht
 have hj := hg.join hr
 unfold newR
 split
 ·refine ⟨hg.xp hj, Bt.of (fun k hk => ?_) hg (hg.xp hj), fun e1 e2 => Kr hg hj e1 (Al hg hr e1 e2)⟩
  rw [xL hg hj hk]
  exact CY (hg.at_ _) (yg hg hr _)
 ·exact ⟨hj, yg hg hr, fun e1 e2 => Al hg hr e1 e2⟩
theorem Fx.step {n : Nat} {s : AS} (h : Fx n s) {t : Nat} (ht : t < n) {o : Option RG} (ho : ∀ r, o = some r → R16 r ∧ rg r 0 = (0, 0)) : Fx n (eA s t o).1 := by
 have ha := (mm h.qu ht o (fun r hr => (ho r hr).1)).1
 cases o with
 | none => exact h
 | some r =>
  obtain ⟨h16, hz⟩ := ho r rfl
  unfold eA at ha ⊢
  simp only at ha ⊢
  have l1 := h.qu.l1
  have l2 := h.qu.l2
  by_cases h1 : s.reach.getD t false = false
  ·rw [if_pos h1] at ha ⊢
   have ht0 : t ≠ 0 := fun e => by rw [e, h.r0] at h1; cases h1
   refine ⟨ha, fun b hb => ?_, ?_, ?_, fun b hb hrb => ?_⟩
   ·unfold mK
    simp only
    by_cases e : b = t
    ·subst e; rw [cY ahU]; exact hz
    ·rw [bJ e]; exact h.z b hb
   ·simp only; rw [bJ (Ne.symm ht0)]; exact h.r0
   ·unfold mK; simp only; rw [bJ (Ne.symm ht0)]; exact h.c0
   ·unfold mK
    simp only at hrb ⊢
    by_cases e : b = t
    ·subst e; rw [cY ahU] at hrb; cases hrb
    ·rw [bJ e] at hrb ⊢; exact h.un b hb hrb
  ·rw [if_neg h1] at ha ⊢
   by_cases h2 : bO (s.bC.getD t []) r = s.bC.getD t []
   ·rw [if_pos h2]; exact h
   ·rw [if_neg h2] at ha ⊢
    obtain ⟨n1, n2, n3⟩ := Gw h.qu ht h16
    refine ⟨ha, fun b hb => ?_, h.r0, ?_, fun b hb hrb => ?_⟩
    ·unfold mK
     simp only
     by_cases e : b = t
     ·subst e; rw [cY ahU]; exact n3 (h.z b hb) hz
     ·rw [bJ e]; exact h.z b hb
    ·unfold mK
     simp only
     by_cases e : t = 0
     ·subst e; rw [cY ahU]; exact h.c0.sub n2
     ·rw [bJ (Ne.symm e)]; exact h.c0
    ·unfold mK
     simp only at hrb ⊢
     by_cases e : b = t
     ·subst e; exact absurd hrb h1
     ·rw [bJ e]; exact h.un b hb hrb
theorem Fx.iM {n : Nat} {last : Ins} {nx : List Int} {bz : RG} (h0 : 0 ≤ last.op) (ha : R16 bz) (hz : rg bz 0 = (0, 0)) (fc : ∀ t ∈ nx, 0 ≤ t ∧ t < n) {s : AS} (h : Fx n s) : ∀ k, k ≤ nx.length → Fx n (iM last nx bz s k).1
 | 0, _ => h
 | k + 1, hk => by
  simp only [Go.Proofs.YtlmgkipmfgijiaaGreatDoor.iM]
  have hm : nx.getD k 0 ∈ nx := by
   rw [show nx.getD k 0 = nx[k]'ahU by simp [List.getD, List.getElem?_eq_getElem (show k < nx.length by omega)]]
   exact List.getElem_mem _
  have := fc _ hm
  exact (Fx.iM h0 ha hz fc h k ahU).step ahU (fun r hr => ⟨oC ha hr, LK h0 ha hz hr⟩)
structure Xh (n : Nat) (b : AB) : Prop where
 ok : Qz n b
 op : 0 ≤ b.last.op
 ops : ∀ i ∈ b.code, 0 ≤ i.op
theorem Fx.jv {n : Nat} {b : AB} (hb : Xh n b) (fc : ∀ t ∈ b.nx, 0 ≤ t ∧ t < n) {s : AS} (h : Fx n s) {k : Nat} (hk : k < n) : Fx n (jv b k s).1 := by
 unfold Go.Proofs.YtlmgkipmfgijiaaGreatDoor.jv
 split
 ·exact h
 ·rename_i bz e
  have hg := h.qu.get hk
  exact h.iM hb.op (nR hb.ops hg e) (by rw [Gg hb.ops hg e]; exact h.z k hk) fc _ (Nat.le_refl _)
theorem Fx.cF {n : Nat} {B : List AB} (hB : ∀ b ∈ B, Xh n b ∧ ∀ t ∈ b.nx, 0 ≤ t ∧ t < n) (hl : B.length = n) {s : AS} (h : Fx n s) : ∀ k, k ≤ n → Fx n (cF B s k).1
 | 0, _ => h
 | k + 1, hk => by
  simp only [Go.Proofs.YtlmgkipmfgijiaaGreatDoor.cF]
  have ih := Fx.cF hB hl h k ahU
  split
  ·have e : B.getD k ⟨[], []⟩ = B[k]'ahU := by simp [List.getD, List.getElem?_eq_getElem (show k < B.length by omega)]
   have hm : B.getD k ⟨[], []⟩ ∈ B := by rw [e]; exact List.getElem_mem _
   exact ih.jv (hB _ hm).1 (hB _ hm).2 ahU
  ·exact ih
theorem Ends.fx {B : List AB} {s s' : AS} (hB : ∀ b ∈ B, Xh B.length b ∧ ∀ t ∈ b.nx, 0 ≤ t ∧ t < B.length) (h : Ends B s s') : Fx B.length s → Fx B.length s' := by
 induction h with
 | done _ => exact fun hs => hs.cF hB rfl _ (Nat.le_refl _)
 | more _ _ ih => exact fun hs => ih (hs.cF hB rfl _ (Nat.le_refl _))
theorem Ih {n : Nat} (hn : 0 < n) : Fx n (cg n) := by
 have hin : ∀ b, b < n → mK (cg n) b = aA := fun b hb => by simp [mK, cg, List.getD, hb]
 refine ⟨rB n, fun b hb => by rw [hin b hb]; rfl, by simp [cg, List.getD, hn], ?_, fun b hb _ => hin b hb⟩
 rw [hin 0 hn]
 intro k hk
 have h1 : ∀ k : Nat, k < 16 → rg aA (k : Int) = (0, 0) ∧ zeros.getD k 0 = 0 := by decide
 obtain ⟨e1, e2⟩ := h1 k hk
 rw [e1, e2]
 unfold Mem
 simp
end
section
open Go.RowKit
structure ABw (n : Nat) (b : AB) : Prop where
 f : Xh n b
 ne : b.code ≠ []
 rQ : b.nx.length ≤ 1000
 nx : ∀ t ∈ b.nx, 0 ≤ t ∧ t < n
theorem An.nexts {V w : World} {ab cb rb ib pb : Nat} {bv pv : Value} {G : List aU} {B : List AB} {val : Nat → Value} {s : AS} (h : An V w ab cb rb ib pb bv pv G B val s) {k : Nat} {b : AB} (hk : B[k]? = some b) :
  ∃ g off cap nA di, bv = .slice (some ⟨g, off, none⟩) B.length cap ∧ B.length ≤ cap ∧ cap ≤ 2 ^ 63 - 1 ∧ g < V.heap.size ∧ V.cell? ⟨g, off + k * 3 + 2, none⟩ = some (.slice nA b.nx.length di) ∧ b.nx.length ≤ di ∧ di ≤ 2 ^ 63 - 1 ∧ ∀ j t, b.nx[j]? = some t → ∃ nb ie, nA = some ⟨nb, ie, none⟩ ∧ nb < V.heap.size ∧ V.cell? ⟨nb, ie + j, none⟩ = some (.int .i64 t) := by
 have hkl := (List.getElem?_eq_some_iff.1 hk).1
 have X9 := h.lG
 obtain ⟨A, cap, h1, h2, h3, h4⟩ := h.PT
 obtain ⟨g, off, rfl, hg, hc⟩ := h4 ahU
 obtain ⟨x, hx⟩ : ∃ x, G[k]? = some x := ⟨_, List.getElem?_eq_getElem ahU⟩
 obtain ⟨_, _, nv, c2, hn⟩ := hc k x hx
 have e := h.YF k x b hx hk
 rw [e] at hn
 obtain ⟨nA, di, rfl, n2, n3, n4⟩ := hn
 rw [X9] at h1 h2
 refine ⟨g, off, cap, nA, di, h1, h2, ep h3, hg, c2, n2, ep n3, fun j t hj => ?_⟩
 have hl := (List.getElem?_eq_some_iff.1 hj).1
 obtain ⟨nb, ie, ha, hb, hcc⟩ := n4 ahU
 refine ⟨nb, ie, ha, hb, ?_⟩
 rw [hcc j hl, show b.nx.getD j 0 = t by simp [List.getD, hj]]
theorem Dk (last : Ins) (nx : List Int) (bz : RG) (s : AS) (k : Nat) : iM last nx bz s (k + 1) = ((eA (iM last nx bz s k).1 (nx.getD k 0).toNat (dW last nx.length k bz)).1, (iM last nx bz s k).2 || (eA (iM last nx bz s k).1 (nx.getD k 0).toNat (dW last nx.length k bz)).2) := rfl
theorem there_drew {w : World} {b o n : Nat} (h : w.there b o n) : w.drew.there b o n := h
theorem Dm {w : World} {b o n c p : Nat} {v : Value} (h : w.there b o n) : (w.setCell ⟨c, p, none⟩ v).there b o n := by
 have := World.there_setCells h c p [v]
 exact this
theorem Sr {Y w' : World} {rb ib b10 o : Nat} {cs : List Value} (h1 : b10 < Y.heap.size) (n1 : b10 ≠ rb) (n2 : b10 ≠ ib) (hr : Y.rangeAt b10 0 cs) (hf : Fr (fun k => k = rb ∨ k = ib) Y w') (ht : w'.there ib o 32) :
  (∀ b o, b < Y.heap.size → b ≠ rb → b ≠ ib → w'.cell? ⟨b, o, none⟩ = Y.cell? ⟨b, o, none⟩) ∧ w'.rangeAt b10 0 cs ∧ w'.there ib o 32 ∧ Fr (fun k => k = rb ∨ k = ib) Y w' :=
 ⟨fun b o hb h2 h3 => hf.cell o hb (by simp [h2, h3]), fun j v hv => (hf.cell (0 + j) h1 (by simp [n1, n2])).trans (hr j v hv), ht, hf⟩
theorem dH {P : Program} {ops : Array Oper} {C : World → Prop} {Q : Act → Prop} {a : Act} {op : Oper} {rest : List Oper} (hw : Region.wanted op (yielded ops a.tmps) = true) (ty : TypeId) (x : Operand) (ho : op.op = .load ty x)
  (b o : Nat) (hx : a.eval x = .pointer (some ⟨b, o, none⟩)) (cs : List Value) (d : TypeDesc) (hc : ∀ w, C w → w.rangeAt b o cs)
  (hu : P.underlying ty = some d) (hd : d.isRow = true) (hi : (P.info? ty).map (·.size) = some cs.length) (h : wpQuiet P ops C Q rest (a.put op.dst (.agg cs.toArray))) : wpQuiet P ops C Q (op :: rest) a :=
 BigFrame.wpQuiet_want hw fun K hK => ⟨.agg cs.toArray, fun w hC => by
  unfold Oper.quietAt execOp
  simp only [ho, hx, Instr.loadAt, Instr.sureAddr, Sem.run_bind, Sem.run_pure, Result.andThen_ok, run_loadVar_mid w b o ty cs d (hc w hC) hu hd hi]
  exact ⟨rfl, rfl⟩, hK _ h⟩
theorem Dn (W : World) : (W.alloc (.cells ai3.toArray 174)).there W.heap.size 0 32 := fun j hj => by
 have h : (W.alloc (.cells ai3.toArray 174)).heap[W.heap.size]? = some (.cells (aa aA).toArray 174 (0, 0)) := heap_alloc_new _ _
 have : 0 + j < (aa aA).length := by rw [az]; simp [aA]; omega
 constructor
 ·simp only [World.cell?, h, List.getElem?_toArray, List.getElem?_eq_getElem this]
  rfl
 ·simp only [World.frozen?, h]
  simp
theorem Dp {W : World} {g : Nat} {T : TypeId} {z : RG} (h : aN W g T z) : W.there g 0 (z.length * 2) := fun j hj => by
 unfold aN at h
 constructor
 ·have : 0 + j < (aa z).length := by rw [az]; omega
  simp only [World.cell?, h]
  simp only [List.getElem?_toArray, List.getElem?_eq_getElem this]
  rfl
 ·simp [World.frozen?, h]
theorem rZ {Y w' : World} {ib b10 o : Nat} {cs ds : List Value} (h1 : b10 < Y.heap.size) (h2 : ib < Y.heap.size) (hr : Y.rangeAt b10 0 cs) (hi : Y.rangeAt ib o ds) (hf : Below Y.heap.size Y w') :
  (∀ b o, b < Y.heap.size → w'.cell? ⟨b, o, none⟩ = Y.cell? ⟨b, o, none⟩) ∧ w'.rangeAt b10 0 cs ∧ w'.rangeAt ib o ds ∧ Below Y.heap.size Y w' :=
 ⟨fun b o hb => hf.cell (p := ⟨b, o, none⟩) hb, fun j v hv => (hf.cell (p := ⟨b10, 0 + j, none⟩) h1).trans (hr j v hv), fun j v hv => (hf.cell (p := ⟨ib, o + j, none⟩) h2).trans (hi j v hv), hf⟩
theorem CD {W : World} {g : Nat} {T : TypeId} {z r : RG} (h : aN W g T z) (hz : z.length = 16) (hr : r.length = 16) : aN (W.setCells g 0 (aa r)) g T r := by
 have h1 : (aa z).length = 32 := by rw [az, hz]
 have h2 : (aa r).length = 32 := by rw [az, hr]
 unfold aN at *
 rw [fP g T (aa r) 0 W (aa z) h ahU, h2, List.drop_eq_nil_of_le ahU]
 simp
theorem Below.jE {B : Nat} {w0 w : World} (h : Below B w0 w) {b : Nat} (hb : B ≤ b) (o : Nat) (vs : List Value) : Below B w0 (w.setCells b o vs) := by
 obtain ⟨h1, h2, h3, h4⟩ := jw b vs o w
 exact h.trans ⟨h1, h2, h3, by rw [h4]; exact Nat.le_refl _, fun k hk => heap_setCells_other b vs o w k ahU⟩
theorem qq (r : RG) : ∀ v ∈ aa r, v.oneCell' = true := fun v hv => by
 unfold aa at hv
 obtain ⟨x, _, h⟩ := List.mem_flatMap.1 hv
 simp only [List.mem_cons, List.not_mem_nil, or_false] at h
 rcases h with rfl | rfl <;> rfl
theorem Dj {V w : World} {ab cb rb ib pb : Nat} {bv pv : Value} {G : List aU} {B : List AB} {val : Nat → Value} {s : AS} (h : An V w ab cb rb ib pb bv pv G B val s) {k : Nat} {b : AB} (hk : B[k]? = some b) (hb : ABw B.length b) (T : gZ V) :
  Calls Tryz.prog 86 #[.pointer (some ⟨ab, 0, none⟩), .int .i64 (k : Int)] w fun e w' => e = .returned (.bool (jv b k s).2) ∧ An V w' ab cb rb ib pb bv pv G B val (jv b k s).1 ∧ Fr (Fg rb ib pb) w w' := by
 have hkl := (List.getElem?_eq_some_iff.1 hk).1
 have zm := h.lB
 have tO := aiU (vq h hk hb.ne hb.f.ops (T.below h.aD))
 rcases hr : gS b.code (s.bC.getD k []) with _ | bz
 ·have HV := aiU (show jv b k s = (s, false) by unfold jv; rw [hr])
  rw [hr] at tO
  have HA := aiU h
  clear h hr hkl zm hk hb T
  go_enter Tryz.func86, Tryz.ntmps86
  go_wp2_with (first | (go_at_call 87; refine tO.out.mono ?_; rintro e w1 ⟨rfl, hb1⟩; unfold dB) | (refine wpList_store_row rfl 174 (.tmp 5) (.tmp 17) rfl w1.heap.size (aa aA).toArray rfl rfl 174 _ (heap_alloc_new _ _) (hi4 aF) (hi6 aF aF) (ay aA) ?_))
  go_ret
  have bb : Below w.heap.size w ((w1.alloc (.cells ai3.toArray 174)).setRow w1.heap.size (aa aA).toArray) := below_setRow (hb1.alloc hb1.size _) hb1.size _
  rw [HV.out]
  exact ⟨rfl, HA.out.below bb, Fr.of bb⟩
 have gJ := aiU (nR hb.f.ops (h.qu.get hkl) hr)
 have HVR := aiU (show jv b k s = iM b.last b.nx bz s b.nx.length by unfold jv; rw [hr])
 rw [hr] at tO
 obtain ⟨g, off, aY, nA, di, mV, g1, g2, g3, nc, n1, n2, fc⟩ := h.nexts hk
 obtain ⟨n, hn⟩ : ∃ n, B.length = n := ⟨_, rfl⟩
 obtain ⟨u, hu⟩ : ∃ u, b.nx.length = u := ⟨_, rfl⟩
 have dk : (k : Int) < (n : Int) := by omega
 have HA := aiU h
 have mY := aiU fc
 have HN := aiU hn
 have HU := aiU hu
 have HK := aiU hk
 have Qw := aiU hb
 have HT := aiU T
 have vt := aiU mV
 have hul : u ≤ 1000 := by rw [← hu]; exact hb.rQ
 rw [hn] at zm g1
 rw [hu] at nc n1
 have N0 := aiU nc
 clear h hr fc hn hu hk hb T mV nc hkl
 go_enter Tryz.func86, Tryz.ntmps86
 go_upto_region 2 with (first | (go_at_call 87; refine tO.out.mono ?_; rintro e w1 ⟨rfl, hb1⟩; unfold dB) | (refine wpList_store_row rfl 174 (.tmp 5) (.tmp 17) rfl w1.heap.size (aa bz).toArray rfl rfl 174 _ (heap_alloc_new _ _) (hi4 gJ.out.len) (hi6 gJ.out.len aF) (ay bz) ?_))
 obtain ⟨X, hX⟩ : ∃ X, (w1.alloc (.cells ai3.toArray 174)).setRow w1.heap.size (aa bz).toArray = X := ⟨_, rfl⟩
 rw [hX]
 have bX : Below w.heap.size w X := hX ▸ below_setRow (hb1.alloc hb1.size _) hb1.size _
 have kX : aN X w1.heap.size 174 bz := hX ▸ aN.row (z := aA) (heap_alloc_new _ _)
 obtain ⟨b5, hb5⟩ : ∃ b5, w1.heap.size = b5 := ⟨_, rfl⟩
 have L5 := aiU (show w.heap.size ≤ b5 by rw [← hb5]; exact hb1.size)
 rw [hb5] at kX
 rw [hb5]
 have WU := aiU (HA.out.below bX)
 have vW := WU.out.aD
 have l1 : ab < X.heap.size := WU.out.lt.1
 have lg : g < X.heap.size := by have := vW.size; omega
 have c0 : X.cell? ⟨ab, 0, none⟩ = some (.slice (some ⟨g, off, none⟩) n aY) := by rw [WU.out.cells.1, vt.out, HN.out]
 have c1 : X.cell? ⟨g, off + k * 3 + 2, none⟩ = some (.slice nA u di) := (vW.cell (p := ⟨g, off + k * 3 + 2, none⟩) g3).trans N0.out
 have BX := aiU bX
 have KX := aiU kX
 clear hX bX kX hb5 hb1 vW
 go_upto_region 6 with fail
 clear c0 c1 l1 lg
 go_loopw [7, 31] (fun a7 a31 wr => ∃ j : Nat, j ≤ u ∧ a31 = .int .i64 (j : Int) ∧ a7 = .bool (iM b.last b.nx bz s j).2 ∧ An V wr ab cb rb ib pb bv pv G B val (iM b.last b.nx bz s j).1 ∧ Fr (Fg rb ib pb) w wr ∧ aN wr b5 174 bz) (fun _ a31 _ => u - (intOf a31).toNat)
 case atStart => exact ⟨0, by omega, rfl, rfl, WU.out, Fr.of BX.out, KX.out⟩
 case round =>
  obtain ⟨j, hj, rfl, rfl, QZ, hFr, hkb⟩ := hrel
  have Qq := aiU hFr
  have KB := aiU hkb
  have lF := aiU hkb.range
  clear hFr hkb
  by_cases hlt : j < u
  ·have dl : decide ((j : Int) < (u : Int)) = true := decide_eq_true ahU
   obtain ⟨t, ht⟩ : ∃ t, b.nx[j]? = some t := ⟨_, List.getElem?_eq_getElem (by rw [HU.out]; exact hlt)⟩
   obtain ⟨nb, ie, rfl, hnb, Fp⟩ := mY.out j t ht
   have htb := Qw.out.nx t (List.mem_of_getElem? ht)
   rw [HN.out] at htb
   obtain ⟨tn, rfl⟩ : ∃ tn : Nat, t = (tn : Int) := ⟨t.toNat, by omega⟩
   have htn : tn < n := by omega
   have dt : (tn : Int) < (n : Int) := by omega
   have hD := aiU (show (b.nx.getD j 0).toNat = tn by simp [List.getD, ht])
   have vW := QZ.aD
   have Xt : nb < wr.heap.size := by have := vW.size; omega
   have x0 : wr.cell? ⟨nb, ie + j, none⟩ = some (.int .i64 (tn : Int)) := (vW.cell (p := ⟨nb, ie + j, none⟩) hnb).trans Fp
   obtain ⟨sj, hsj⟩ : ∃ sj, iM b.last b.nx bz s j = sj := ⟨_, rfl⟩
   have Zl := aiU hsj
   rw [hsj] at QZ
   rw [hsj]
   have tN := aiU (yI QZ HK.out Qw.out.ne Qw.out.rQ Qw.out.f.op j bz gJ.out (HT.out.below vW))
   have JN := aiU QZ
   have hst := Dk b.last b.nx bz s j
   rw [hsj, hD.out] at hst
   have lwr : w.heap.size ≤ wr.heap.size := Qq.out.size
   clear ht Fp htb vW QZ hsj
   rcases he : dW b.last b.nx.length j bz with _ | r
   ·rw [he] at tN hst
    have HST := aiU hst
    clear he hst
    go_wp2_with (first | (refine wpList_load_mid rfl _ _ rfl _ _ rfl (aa bz) _ lF.out Tryz.underlying174 rfl (hi3 gJ.out.len) ?_) | (go_at_call 88; refine tN.out.mono ?_; rintro e w2 ⟨rfl, hb2⟩; unfold dB) | (refine wpList_store_row rfl 174 (.tmp 10) (.tmp 42) rfl w2.heap.size (aa aA).toArray rfl rfl 174 _ (heap_alloc_new _ _) (hi4 aF) (hi6 aF aF) (ay aA) ?_))
    go_roundw
    case rel =>
     have bb : Below wr.heap.size wr ((w2.alloc (.cells ai3.toArray 174)).setRow w2.heap.size (aa aA).toArray) := below_setRow (hb2.alloc hb2.size _) hb2.size _
     refine ⟨j + 1, by omega, by go_num, ?_, ?_, Qq.out.trans (Fr.of bb), KB.out.keep bb⟩
     ·rw [HST.out]; simp [eA]
     ·rw [HST.out]; exact JN.out.below bb
    case measure => simp [intOf]; omega
   ·rw [he] at tN hst
    have HST := aiU hst
    have R16 := aiU (oC gJ.out he)
    clear he hst
    go_upto_region 10 with (first | (refine wpList_load_mid rfl _ _ rfl _ _ rfl (aa bz) _ lF.out Tryz.underlying174 rfl (hi3 gJ.out.len) ?_) | (go_at_call 88; refine tN.out.mono ?_; rintro e w2 ⟨rfl, hb2⟩; unfold dB) | (refine wpList_store_row rfl 174 (.tmp 10) (.tmp 42) rfl w2.heap.size (aa r).toArray rfl rfl 174 _ (heap_alloc_new _ _) (hi4 R16.out.len) (hi6 R16.out.len aF) (ay r) ?_))
    obtain ⟨Y, hY⟩ : ∃ Y, (w2.alloc (.cells ai3.toArray 174)).setRow w2.heap.size (aa r).toArray = Y := ⟨_, rfl⟩
    rw [hY]
    have bY : Below wr.heap.size wr Y := hY ▸ below_setRow (hb2.alloc hb2.size _) hb2.size _
    have kY : aN Y w2.heap.size 174 r := hY ▸ aN.row (z := aA) (heap_alloc_new _ _)
    obtain ⟨b10, yC⟩ : ∃ b10, w2.heap.size = b10 := ⟨_, rfl⟩
    rw [yC] at kY
    rw [yC]
    have L10 := aiU (show wr.heap.size ≤ b10 by rw [← yC]; exact hb2.size)
    have KR := aiU kY
    have xg := aiU (JN.out.below bY)
    have BY := aiU bY
    obtain ⟨y1, y2, y3, y4, y5⟩ := xg.out.lt
    obtain ⟨-, -, v2, v3, v4⟩ := xg.out.cells
    rw [HN.out] at v2 v3 v4
    obtain ⟨v5, v5f⟩ := xg.out.qJ (t := tn) ah9
    have l10 : b10 < Y.heap.size := kY.lt
    clear hY bY kY yC hb2 x0
    rcases wX : sj.1.reach.getD tn false with _ | _
    ·rw [wX] at v5
     have w9 := aiU wX
     clear wX
     go_upto_region 11 with fail
     obtain ⟨ne1, ne2, ne3, -, -, -, ne7, ne8, ne9⟩ := xg.out.ne
     have hq := JN.out.lt
     have nb1 : b10 ≠ rb := by have := L10.out; omega
     have nb2 : b10 ≠ ib := by have := L10.out; omega
     have lW := KR.out.range
     have JY := xg.out.there (t := tn) ah9
     have Hj := Tryz.underlying174
     have Ep : (Tryz.prog.info? 174).map (·.size) = some (aa r).length := hi3 R16.out.len
     have Ln : (aa r).length = 32 := by rw [az, R16.out.len]
     have Hu := qq r
     go_cut [5] from 54 to 66 (fun a5 wx => a5 = .pointer (some ⟨b5, 0, none⟩) ∧ ∃ wy, Below Y.heap.size Y wy ∧ wx = (wy.setCell ⟨rb, tn, none⟩ (.bool true)).setCells ib (tn * 32) (aa r))
     case first =>
      go_region_held3 (fun w' => (∀ b o, b < Y.heap.size → b ≠ rb → b ≠ ib → w'.cell? ⟨b, o, none⟩ = Y.cell? ⟨b, o, none⟩) ∧ w'.rangeAt b10 0 (aa r) ∧ w'.there ib (tn * 32) 32 ∧ Fr (fun k => k = rb ∨ k = ib) Y w') ((exact Sr l10 nb1 nb2 lW (by (repeat (first | (with_reducible exact Fr.refl _ _) | (with_reducible refine Fr.drew ?_) | (with_reducible refine Fr.set ?_ _ (.inl ahZ)) | (with_reducible refine Fr.setCells ?_ _ (.inl ahZ))))) (by (repeat (first | (with_reducible exact JY) | (with_reducible refine there_drew ?_) | (with_reducible refine Dm ?_) | (with_reducible refine World.there_setCells ?_ _ _ _)))))) (fail)
      all_goals (go_wp2_with fail; go_meet)
      case rel => exact ⟨rfl, Y.drew, Below.drew (Below.refl _ _), rfl⟩
     case rest =>
      obtain ⟨rfl, wy, hby, hwy⟩ := hcut
      obtain ⟨hA1, VY⟩ := xg.out.first hby ah9 R16.out w9.out
      rw [← hwy] at hA1 VY
      obtain ⟨W3, hW3⟩ : ∃ W3 : World, W3 = wc := ⟨_, rfl⟩
      subst hW3
      have HA1 := aiU hA1
      have WL := aiU VY
      have KB3 := aiU (show aN W3 b5 174 bz from (VY.block b5 (by have := (KB.out.keep BY.out).lt; exact this) aiB).trans (KB.out.keep BY.out))
      clear hwy hby hA1 VY lW JY Hj Ep Ln Hu hq v2 v3 v4 v5 v5f
      go_wp2_with fail
      go_roundw
      case rel =>
       have e2 : (eA sj.1 tn (some r)).2 = true := by unfold eA; simp only; rw [if_pos w9.out]
       refine ⟨j + 1, by omega, by go_num, ?_, ?_, (Qq.out.trans (Fr.of BY.out)).trans WL.out, KB3.out⟩
       ·rw [HST.out, e2]; simp
       ·rw [HST.out]; exact HA1.out
      case measure => simp [intOf]; omega
    ·rw [wX] at v5
     have w9 := aiU wX
     clear wX
     go_upto_region 13 with fail
     obtain ⟨ne1, ne2, ne3, -, -, -, ne7, ne8, ne9⟩ := xg.out.ne
     obtain ⟨cur, Ls⟩ : ∃ cur, sj.1.bC.getD tn [] = cur := ⟨_, rfl⟩
     have c16 : Go.Proofs.YtlmgkipmfgijiaaGreatDoor.R16 cur := by rw [← Ls]; exact xg.out.qu.get ah9
     have pE := xg.out.mK (t := tn) ah9
     rw [Ls] at pE
     have Qy := aiU c16
     have JL := aiU Ls
     have lW := KR.out.range
     have MZ : ∀ W : World, (W.alloc (.cells ai3.toArray 174)).there W.heap.size 0 32 := Dn
     obtain ⟨jr, QL⟩ : ∃ jr, List.zipWith bH cur r = jr := ⟨_, rfl⟩
     have j16 : Go.Proofs.YtlmgkipmfgijiaaGreatDoor.R16 jr := by rw [← QL]; exact c16.join R16.out
     have HJ := aiU (show bO cur r = jr from QL)
     have Jt := aiU j16
     have QO := fun W => jo 105 bH (fun _ _ => by kernel_rfl) r7 cur r c16.len R16.out.len W
     rw [QL] at QO
     have N4 := aiU QO
     have Hj := Tryz.underlying174
     have Ep : (Tryz.prog.info? 174).map (·.size) = some (aa r).length := hi3 R16.out.len
     have Tc : (Tryz.prog.info? 174).map (·.size) = some (aa cur).length := hi3 c16.len
     have Tb : (Tryz.prog.info? 174).map (·.size) = some (aa jr).length := hi3 j16.len
     have Ln : (aa jr).length = 32 := by rw [az, j16.len]
     have Hu := qq jr
     clear Ls c16 QL j16 QO
     go_cut [12] from 67 to 75 (fun a12 wx => ∃ g, a12 = .pointer (some ⟨g, 0, none⟩) ∧ Y.heap.size ≤ g ∧ aN wx g 174 jr ∧ Below Y.heap.size Y wx)
     case first =>
      refine wp_region_held_drew (S := fun w' => (∀ b o, b < Y.heap.size → w'.cell? ⟨b, o, none⟩ = Y.cell? ⟨b, o, none⟩) ∧ w'.rangeAt b10 0 (aa r) ∧ w'.rangeAt ib (tn * 32) (aa cur) ∧ Below Y.heap.size Y w') ahV ?_ (fun hHeld => ?_)
      ·exact rZ l10 y4 lW pE (by (repeat (first | (with_reducible assumption) | (with_reducible exact Below.refl _ _) | (with_reducible refine Below.drew ?_) | (with_reducible refine Below.alloc ?_ aie _) | (with_reducible refine Below.jE ?_ (by first | exact Nat.le_refl _ | omega | (simp; done) | (simp; omega)) _ _))))
      refine wpAnyH_take (i := 0) (oi := _) (v := ?_) rfl ahV ahV ahV (fun _ _ _ h => h) (Or.inl ⟨by rfl, ?_⟩) hHeld ?_
      rotate_left
      ·intro w hSw
       (try dsimp only at hSw)
       go_simp
       (try with_reducible rfl)
      (try simp only [aiV, aiW, aiX, Act.put, aiY, aiZ, ai0])
      refine wpAnyH_take (i := 1) (oi := _) (v := ?_) rfl ahV ahV ahV (fun _ _ _ h => h) (Or.inl ⟨by rfl, ?_⟩) hHeld ?_
      rotate_left
      ·intro w hSw
       (try dsimp only at hSw)
       go_simp
       (try with_reducible rfl)
      (try simp only [aiV, aiW, aiX, Act.put, aiY, aiZ, ai0])
      refine wpAnyH_take (i := 2) (oi := _) (v := ?_) rfl ahV ahV ahV (fun _ _ _ h => h) (Or.inl ⟨by rfl, ?_⟩) hHeld ?_
      rotate_left
      ·intro w hSw
       (try dsimp only at hSw)
       go_simp
       (try with_reducible rfl)
      (try simp only [aiV, aiW, aiX, Act.put, aiY, aiZ, ai0])
      refine wpAnyH_take (i := 3) (oi := _) (v := ?_) rfl ahV ahV ahV (fun _ _ _ h => h) (Or.inl ⟨by rfl, ?_⟩) hHeld ?_
      rotate_left
      ·intro w hSw
       (try dsimp only at hSw)
       go_simp
       (try with_reducible rfl)
      (try simp only [aiV, aiW, aiX, Act.put, aiY, aiZ, ai0])
      refine wpAnyH_take (i := 4) (oi := _) (v := ?_) rfl ahV ahV ahV (fun _ _ _ h => h) (Or.inl ⟨by rfl, ?_⟩) hHeld ?_
      rotate_left
      ·intro w hSw
       (try dsimp only at hSw)
       go_simp
       (try with_reducible rfl)
      (try simp only [aiV, aiW, aiX, Act.put, aiY, aiZ, ai0])
      refine wpAnyH_take (i := 5) (oi := _) (v := ?_) rfl ahV ahV ahV (fun _ _ _ h => h) (Or.inl ⟨by rfl, ?_⟩) hHeld ?_
      rotate_left
      ·intro w hSw
       (try dsimp only at hSw)
       go_simp
       (try with_reducible rfl)
      (try simp only [aiV, aiW, aiX, Act.put, aiY, aiZ, ai0])
      refine wpAnyH_take (i := 6) (oi := _) (v := _) rfl ahV ahV ahV (fun _ _ _ h => h) (yieldsIf_load_mid (by rfl) _ _ rfl _ _ rfl (aa cur) _ (fun w hSw => hSw.2.2.1) Hj rfl Tc) hHeld ?_
      (try simp only [aiV, aiW, aiX, Act.put, aiY, aiZ, ai0])
      refine wpAnyH_take (i := 7) (oi := _) (v := _) rfl ahV ahV ahV (fun _ _ _ h => h) (yieldsIf_load_mid (by rfl) _ _ rfl _ _ rfl (aa r) _ (fun w hSw => hSw.2.1) Hj rfl Ep) hHeld ?_
      (try simp only [aiV, aiW, aiX, Act.put, aiY, aiZ, ai0])
      have M0 : (aa jr).toArray.size = 32 := by rw [List.size_toArray]; exact Ln
      have Ta : (Tryz.prog.info? 174).map (·.size) = some (aa jr).toArray.size := by rw [List.size_toArray]; exact Tb
      refine wpAnyH_ready (rs := [8, 9]) ahV ahZ ?_
      refine AllReadyH.cons (o := _) rfl (fun K hK => ?_) ?_
      ·go_simp
       go_at_call 104
       refine (N4.out _).mono ?_
       rintro e w3 ⟨rfl, hb3⟩
       have hk3 : Below Y.heap.size Y w3 := Below.trans (Below.drew (Below.refl _ _)) (Below.mono hb3 (Nat.le_refl _))
       refine hK.out _ _ (rZ l10 y4 lW pE hk3) (fun hHeld => ?_)
       clear hK K
       (try simp only [aiV, aiW, aiX, Act.put, aiY, aiZ, ai0])
       refine wpAnyH_ready (rs := [9]) ahV ahZ ?_
       refine AllReadyH.cons (o := _) rfl (fun K hK => ?_) AllReadyH.nil
       go_simp
       refine hK.out _ _ (rZ l10 y4 lW pE (hk3.alloc hk3.size _)) (fun hHeld => ?_)
       clear hK K
       (try simp only [aiV, aiW, aiX, Act.put, aiY, aiZ, ai0])
       refine wpAnyH_ready (rs := [10]) ahV ahZ ?_
       refine AllReadyH.cons (o := _) rfl (fun K hK => ?_) AllReadyH.nil
       rw [if_pos (by rfl)]
       refine wp_store_mid _ _ _ rfl _ _ (aa jr).toArray rfl rfl (by rw [M0]; exact MZ w3) Ta (all_oneCell_toArray Hu) ?_
       refine hK.out _ _ (rZ l10 y4 lW pE (Below.jE (hk3.alloc hk3.size _) hk3.size _ _)) (fun hHeld => ?_)
       clear hK K
       (try simp only [aiV, aiW, aiX, Act.put, aiY, aiZ, ai0])
       refine wpAnyH_done ahV ?_ _
       go_wp2_with fail
       go_meet
       case rel => exact ⟨_, rfl, hk3.size, CD (z := aA) (heap_alloc_new _ _) aF Jt.out.len, Below.jE (hk3.alloc hk3.size _) hk3.size _ _⟩
      refine AllReadyH.cons (o := _) rfl (fun K hK => ?_) AllReadyH.nil
      go_simp
      have hk2 : Below Y.heap.size Y (Y.drew.alloc (.cells ai3.toArray 174)) := (Below.drew (Below.refl _ _)).alloc (Nat.le_refl _) _
      refine hK.out _ _ (rZ l10 y4 lW pE hk2) (fun hHeld => ?_)
      clear hK K
      (try simp only [aiV, aiW, aiX, Act.put, aiY, aiZ, ai0])
      refine wpAnyH_ready (rs := [8]) ahV ahZ ?_
      refine AllReadyH.cons (o := _) rfl (fun K hK => ?_) AllReadyH.nil
      go_simp
      go_at_call 104
      refine (N4.out _).mono ?_
      rintro e w3 ⟨rfl, hb3⟩
      have hk3 : Below Y.heap.size Y w3 := hk2.trans (hb3.mono hk2.size)
      have hz3 : aN w3 Y.heap.size 174 aA := (hb3.block _ ahZ).trans (heap_alloc_new Y.drew _)
      refine hK.out _ _ (rZ l10 y4 lW pE hk3) (fun hHeld => ?_)
      clear hK K
      (try simp only [aiV, aiW, aiX, Act.put, aiY, aiZ, ai0])
      refine wpAnyH_ready (rs := [10]) ahV ahZ ?_
      refine AllReadyH.cons (o := _) rfl (fun K hK => ?_) AllReadyH.nil
      rw [if_pos (by rfl)]
      refine wp_store_mid _ _ _ rfl _ _ (aa jr).toArray rfl rfl (by rw [M0]; exact Dp hz3) Ta (all_oneCell_toArray Hu) ?_
      refine hK.out _ _ (rZ l10 y4 lW pE (Below.jE hk3 (Nat.le_refl _) _ _)) (fun hHeld => ?_)
      clear hK K
      (try simp only [aiV, aiW, aiX, Act.put, aiY, aiZ, ai0])
      refine wpAnyH_done ahV ?_ _
      go_wp2_with fail
      go_meet
      case rel => exact ⟨_, rfl, Nat.le_refl _, CD hz3 aF Jt.out.len, Below.jE hk3 (Nat.le_refl _) _ _⟩
     obtain ⟨g2, rfl, hg2, kg2, bg2⟩ := hcut
     obtain ⟨W4, VM⟩ : ∃ W4 : World, W4 = wc := ⟨_, rfl⟩
     subst VM
     clear lW pE MZ Hj Ep Tc Tb Ln Hu
     have Vl := aiU (xg.out.below bg2)
     obtain ⟨q1, q2, q3, q4, q5⟩ := Vl.out.lt
     obtain ⟨-, -, p2, p3, p4⟩ := Vl.out.cells
     rw [HN.out] at p2 p3 p4
     have pE := Vl.out.mK (t := tn) ah9
     rw [JL.out] at pE
     have KG := aiU kg2
     have BG := aiU bg2
     have CO := aiU pE
     have Y8 := aiU (show ∀ w', (∃ x : Ext W4, w' = x.w) → w'.rangeAt g2 0 (aa jr) from by rintro _ ⟨x, rfl⟩; exact (KG.out.keep x.h).range)
     have Y7 := aiU (show ∀ w', (∃ x : Ext W4, w' = x.w) → w'.rangeAt ib (tn * 32) (aa cur) from by rintro _ ⟨x, rfl⟩; exact fun j v hv => (x.h.cell (p := ⟨ib, tn * 32 + j, none⟩) q4).trans (CO.out j v hv))
     clear kg2 bg2 pE v2 v3 v4 v5 v5f
     go_upto_region 14 with fail
     by_cases Fo : jr = cur
     ·have heq : ∀ w, (binOp .eql 174 (.agg (aa jr).toArray) (.agg (aa cur).toArray)).run Tryz.prog w = .ok (.bool true) w := fun w => by
       have := Cn Jt.out.len Qy.out.len w
       rwa [show decide (jr = cur) = true from decide_eq_true Fo] at this
      have HE := aiU (show eA sj.1 tn (some r) = (sj.1, false) by
       unfold eA
       simp only
       rw [if_neg (by rw [w9.out]; simp), if_pos (by rw [JL.out, HJ.out]; exact Fo)])
      clear Fo
      refine aj ahV ahV ?_
      repeat (first | (refine dH ah7 _ _ rfl _ _ rfl (aa jr) _ Y8.out Tryz.underlying174 rfl (hi3 Jt.out.len) ?_; (try simp only [aiV, aiW, aiX, Act.put, aiY, aiZ, ai0])) | (refine dH ah7 _ _ rfl _ _ rfl (aa cur) _ Y7.out Tryz.underlying174 rfl (hi3 Qy.out.len) ?_; (try simp only [aiV, aiW, aiX, Act.put, aiY, aiZ, ai0])) | (go_big_quiet_step (fail)))
      refine wpQuiet_nil ?_
      rintro _ ⟨x2, rfl⟩
      go_wp2_with fail
      go_roundw
      case rel =>
       have bb : Below wr.heap.size wr x2.w := BY.out.trans ((BG.out.trans (x2.h.mono BG.out.size)).mono BY.out.size)
       refine ⟨j + 1, by omega, by go_num, ?_, ?_, Qq.out.trans (Fr.of bb), KB.out.keep bb⟩
       ·rw [HST.out, HE.out]; simp
       ·rw [HST.out, HE.out]; exact JN.out.below bb
      case measure => simp [intOf]; omega
     ·have heq : ∀ w, (binOp .eql 174 (.agg (aa jr).toArray) (.agg (aa cur).toArray)).run Tryz.prog w = .ok (.bool false) w := fun w => by
       have := Cn Jt.out.len Qy.out.len w
       rwa [show decide (jr = cur) = false from decide_eq_false Fo] at this
      have CQ := aiU (show bO (sj.1.bC.getD tn []) r ≠ sj.1.bC.getD tn [] by rw [JL.out, HJ.out]; exact Fo)
      clear Fo
      refine aj ahV ahV ?_
      repeat (first | (refine dH ah7 _ _ rfl _ _ rfl (aa jr) _ Y8.out Tryz.underlying174 rfl (hi3 Jt.out.len) ?_; (try simp only [aiV, aiW, aiX, Act.put, aiY, aiZ, ai0])) | (refine dH ah7 _ _ rfl _ _ rfl (aa cur) _ Y7.out Tryz.underlying174 rfl (hi3 Qy.out.len) ?_; (try simp only [aiV, aiW, aiX, Act.put, aiY, aiZ, ai0])) | (go_big_quiet_step (fail)))
      refine wpQuiet_nil ?_
      rintro _ ⟨x2, rfl⟩
      obtain ⟨p6, p6f⟩ := Vl.out.uo (t := tn) ah9
      have Ho := Vl.out.qu.uo (t := tn) ah9
      obtain ⟨rp, QJ⟩ : ∃ rp, sj.1.rep.getD tn 0 = rp := ⟨_, rfl⟩
      rw [QJ] at p6 Ho
      have zu := aiU QJ
      have aeq : rp ≤ 70000000 := by rw [HN.out] at Ho; omega
      have aep : 0 ≤ rp := Ho.1
      have wrp : IntKind.i64.wrap (rp + 1) = rp + 1 := IntWalk.i64_in _ ahU
      clear QJ Ho
      by_cases hge : 2 ≤ rp
      ·have YJ : decide (2 ≤ rp) = true := decide_eq_true hge
       obtain ⟨nr, Li⟩ : ∃ nr, List.zipWith aL cur jr = nr := ⟨_, rfl⟩
       have n16 : Go.Proofs.YtlmgkipmfgijiaaGreatDoor.R16 nr := by rw [← Li]; exact Qy.out.xp Jt.out
       have hcw := fun W => jo 106 aL (fun _ _ => by kernel_rfl) CZ cur jr Qy.out.len Jt.out.len W
       rw [Li] at hcw
       have Vb := aiU hcw
       have Mq := aiU n16
       have ZC := aiU (show (if 2 ≤ sj.1.rep.getD tn 0 then dX (sj.1.bC.getD tn []) (bO (sj.1.bC.getD tn []) r) else bO (sj.1.bC.getD tn []) r) = nr by rw [zu.out, if_pos hge, JL.out, HJ.out]; exact Li)
       clear hcw n16 Li hge
       go_upto_region 16 with fail
       refine cT 9 ahV ahV ?_
       simp only [ai1, List.take_zero, ai2, List.drop_zero]
       repeat (first | (refine dH ah7 _ _ rfl _ _ rfl (aa jr) _ Y8.out Tryz.underlying174 rfl (hi3 Jt.out.len) ?_; (try simp only [aiV, aiW, aiX, Act.put, aiY, aiZ, ai0])) | (refine dH ah7 _ _ rfl _ _ rfl (aa cur) _ Y7.out Tryz.underlying174 rfl (hi3 Qy.out.len) ?_; (try simp only [aiV, aiW, aiX, Act.put, aiY, aiZ, ai0])) | (go_big_quiet_step (exact Calls.ax (Vb.out _))))
       refine wpQuiet_nil ?_
       rintro _ ⟨x3, rfl⟩
       go_upto_region 17 with (refine wpList_store_row rfl 174 (.tmp 12) (.tmp 101) rfl g2 (aa nr).toArray rfl rfl 174 _ (KG.out.keep x3.h) (hi4 Mq.out.len) (hi6 Mq.out.len Jt.out.len) (ay nr) ?_)
       obtain ⟨Z1, LB⟩ : ∃ Z1, x3.w.setRow g2 (aa nr).toArray = Z1 := ⟨_, rfl⟩
       rw [LB]
       (try simp only [Act.put])
       have PU : Below Y.heap.size Y Z1 := LB ▸ below_setRow (BG.out.trans (x3.h.mono BG.out.size)) hg2 _
       have OD : aN Z1 g2 174 nr := LB ▸ aN.row (KG.out.keep x3.h)
       clear LB heq YJ
       have Jv := aiU (xg.out.below PU)
       obtain ⟨r1, r2, r3, r4, r5⟩ := Jv.out.lt
       obtain ⟨-, -, -, s3, s4⟩ := Jv.out.cells
       rw [HN.out] at s3 s4
       have Y9 := aiU OD
       have Vp := aiU PU
       have lg2 : g2 < Z1.heap.size := OD.lt
       have Y6 := aiU (show ∀ w', (∃ x : Ext Z1, w' = x.w) → w'.rangeAt g2 0 (aa nr) from by rintro _ ⟨x, rfl⟩; exact (Y9.out.keep x.h).range)
       clear OD PU p2 p3 p4 p6 p6f q1 q2 q3 q4 q5
       refine aI 6 ahV ahV ?_
       simp only [ai1, List.take_zero, ai2, List.drop_zero]
       repeat (first | (refine dH ah7 _ _ rfl _ _ rfl (aa nr) _ Y6.out Tryz.underlying174 rfl (hi3 Mq.out.len) ?_; (try simp only [aiV, aiW, aiX, Act.put, aiY, aiZ, ai0])) | (go_big_quiet_step (fail)))
       refine wpQuiet_nil ?_
       rintro _ ⟨x4, rfl⟩
       have Ur := aiU (show x4.w.there ib (tn * 32) (aa nr).toArray.size by
        rw [List.size_toArray, az, Mq.out.len]
        exact ((Jv.out.below x4.h).there ah9))
       go_upto_region 18 with (refine wpList_store_mid rfl 174 (.tmp 108) (.tmp 107) rfl ib (tn * 32) (aa nr).toArray rfl rfl Ur.out (hi4 Mq.out.len) (ay nr) ?_)
       (try simp only [Act.put])
       have bx4 : Below Y.heap.size Y x4.w := Vp.out.trans (x4.h.mono Vp.out.size)
       obtain ⟨Ia, LF⟩ := xg.out.again bx4 ah9 R16.out w9.out CQ.out
       rw [ZC.out, zu.out] at Ia LF
       obtain ⟨Z2, Lz⟩ : ∃ Z2, x4.w.setCells ib (tn * 32) (aa nr) = Z2 := ⟨_, rfl⟩
       rw [Lz] at Ia LF
       have f2 : Fr (fun k => k = ib) Z1 Z2 := Lz ▸ (Fr.of x4.h).setCells _ (.inl rfl)
       rw [show x4.w.setCells ib (tn * 32) (aa nr).toArray.toList = Z2 from Lz]
       obtain ⟨m1, m2, m3, -, -, -, m7, m8, m9⟩ := Jv.out.ne
       have t4 : Z2.cell? ⟨ab, 5, none⟩ = _ := (f2.cell 5 r1 m2).trans s4
       obtain ⟨p7, Ot⟩ := Jv.out.uo (t := tn) ah9
       rw [zu.out] at p7
       have t6 : Z2.cell? ⟨pb, tn, none⟩ = some (.int .i64 rp) := (f2.cell tn r5 (fun e => m9 e.symm)).trans p7
       have t7 : Z2.frozen? ⟨pb, tn, none⟩ = false := by
        have e := f2.block pb r5 (fun e => m9 e.symm)
        unfold World.frozen? at Ot ⊢
        rw [e]; exact Ot
       have u1 : ab < Z2.heap.size := by have := f2.size; omega
       have u5 : pb < Z2.heap.size := by have := f2.size; omega
       have HA5 := aiU Ia
       have U4 := aiU LF
       have Ug := aiU (KB.out.keep BY.out)
       clear Lz Ia LF f2 bx4 s3 s4 p7 Ot
       go_wp2_with fail
       go_roundw
       case rel =>
        have e2 : (eA sj.1 tn (some r)).2 = true := by unfold eA; simp only; rw [if_neg (by rw [w9.out]; simp), if_neg CQ.out]
        refine ⟨j + 1, by omega, by go_num, ?_, ?_, (Qq.out.trans (Fr.of BY.out)).trans U4.out, (U4.out.block b5 Ug.out.lt aiB).trans Ug.out⟩
        ·rw [HST.out, e2]; simp
        ·rw [HST.out]; exact HA5.out
       case measure => simp [intOf]; omega
      ·have YJ : decide (2 ≤ rp) = false := decide_eq_false hge
       obtain ⟨nr, Li⟩ : ∃ nr, jr = nr := ⟨_, rfl⟩
       have Mq := aiU (show Go.Proofs.YtlmgkipmfgijiaaGreatDoor.R16 nr from Li ▸ Jt.out)
       have ZC := aiU (show (if 2 ≤ sj.1.rep.getD tn 0 then dX (sj.1.bC.getD tn []) (bO (sj.1.bC.getD tn []) r) else bO (sj.1.bC.getD tn []) r) = nr by rw [zu.out, if_neg hge, JL.out, HJ.out]; exact Li)
       have Ss : aN x2.w g2 174 nr := Li ▸ KG.out.keep x2.h
       clear Li hge
       go_upto_region 17 with fail
       obtain ⟨Z1, LB⟩ : ∃ Z1, x2.w = Z1 := ⟨_, rfl⟩
       rw [LB]
       have PU : Below Y.heap.size Y Z1 := LB ▸ (BG.out.trans (x2.h.mono BG.out.size))
       have OD : aN Z1 g2 174 nr := LB ▸ Ss
       clear LB Ss heq YJ
       have Jv := aiU (xg.out.below PU)
       obtain ⟨r1, r2, r3, r4, r5⟩ := Jv.out.lt
       obtain ⟨-, -, -, s3, s4⟩ := Jv.out.cells
       rw [HN.out] at s3 s4
       have Y9 := aiU OD
       have Vp := aiU PU
       have lg2 : g2 < Z1.heap.size := OD.lt
       have Y6 := aiU (show ∀ w', (∃ x : Ext Z1, w' = x.w) → w'.rangeAt g2 0 (aa nr) from by rintro _ ⟨x, rfl⟩; exact (Y9.out.keep x.h).range)
       clear OD PU p2 p3 p4 p6 p6f q1 q2 q3 q4 q5
       refine aI 6 ahV ahV ?_
       simp only [ai1, List.take_zero, ai2, List.drop_zero]
       repeat (first | (refine dH ah7 _ _ rfl _ _ rfl (aa nr) _ Y6.out Tryz.underlying174 rfl (hi3 Mq.out.len) ?_; (try simp only [aiV, aiW, aiX, Act.put, aiY, aiZ, ai0])) | (go_big_quiet_step (fail)))
       refine wpQuiet_nil ?_
       rintro _ ⟨x4, rfl⟩
       have Ur := aiU (show x4.w.there ib (tn * 32) (aa nr).toArray.size by
        rw [List.size_toArray, az, Mq.out.len]
        exact ((Jv.out.below x4.h).there ah9))
       go_upto_region 18 with (refine wpList_store_mid rfl 174 (.tmp 108) (.tmp 107) rfl ib (tn * 32) (aa nr).toArray rfl rfl Ur.out (hi4 Mq.out.len) (ay nr) ?_)
       (try simp only [Act.put])
       have bx4 : Below Y.heap.size Y x4.w := Vp.out.trans (x4.h.mono Vp.out.size)
       obtain ⟨Ia, LF⟩ := xg.out.again bx4 ah9 R16.out w9.out CQ.out
       rw [ZC.out, zu.out] at Ia LF
       obtain ⟨Z2, Lz⟩ : ∃ Z2, x4.w.setCells ib (tn * 32) (aa nr) = Z2 := ⟨_, rfl⟩
       rw [Lz] at Ia LF
       have f2 : Fr (fun k => k = ib) Z1 Z2 := Lz ▸ (Fr.of x4.h).setCells _ (.inl rfl)
       rw [show x4.w.setCells ib (tn * 32) (aa nr).toArray.toList = Z2 from Lz]
       obtain ⟨m1, m2, m3, -, -, -, m7, m8, m9⟩ := Jv.out.ne
       have t4 : Z2.cell? ⟨ab, 5, none⟩ = _ := (f2.cell 5 r1 m2).trans s4
       obtain ⟨p7, Ot⟩ := Jv.out.uo (t := tn) ah9
       rw [zu.out] at p7
       have t6 : Z2.cell? ⟨pb, tn, none⟩ = some (.int .i64 rp) := (f2.cell tn r5 (fun e => m9 e.symm)).trans p7
       have t7 : Z2.frozen? ⟨pb, tn, none⟩ = false := by
        have e := f2.block pb r5 (fun e => m9 e.symm)
        unfold World.frozen? at Ot ⊢
        rw [e]; exact Ot
       have u1 : ab < Z2.heap.size := by have := f2.size; omega
       have u5 : pb < Z2.heap.size := by have := f2.size; omega
       have HA5 := aiU Ia
       have U4 := aiU LF
       have Ug := aiU (KB.out.keep BY.out)
       clear Lz Ia LF f2 bx4 s3 s4 p7 Ot
       go_wp2_with fail
       go_roundw
       case rel =>
        have e2 : (eA sj.1 tn (some r)).2 = true := by unfold eA; simp only; rw [if_neg (by rw [w9.out]; simp), if_neg CQ.out]
        refine ⟨j + 1, by omega, by go_num, ?_, ?_, (Qq.out.trans (Fr.of BY.out)).trans U4.out, (U4.out.block b5 Ug.out.lt aiB).trans Ug.out⟩
        ·rw [HST.out, e2]; simp
        ·rw [HST.out]; exact HA5.out
       case measure => simp [intOf]; omega
  ·obtain rfl : j = u := by omega
   have dl : decide ((j : Int) < (j : Int)) = false := by simp
   go_wp2_with fail
   go_ret
   have e := HVR.out
   rw [HU.out] at e
   rw [e]
   exact ⟨rfl, QZ, Qq.out⟩
end
section
open Go.RowKit
def aR (cd : Nat → Int) (G : List aU) : List AB := G.map fun x => ⟨codeFrom cd x.lo (x.hi - x.lo).toNat, x.nx⟩
structure Ru (n : Nat) (cd : Nat → Int) (G : List aU) (x : aU) : Prop where
 lo : 0 ≤ x.lo
 lt : x.lo < x.hi
 rQ : x.nx.length ≤ 1000
 nx : ∀ t ∈ x.nx, 0 ≤ t ∧ t < (G.length : Int)
 II : ∀ a : Nat, x.lo ≤ (a : Int) → (a : Int) < x.hi → a < n ∧ (bk (cd a)).2 = 0 ∧ 0 ≤ (au cd (a : Int)).op
theorem ey (cd : Nat → Int) (lo : Int) (m : Nat) : (codeFrom cd lo m).length = m := by simp [codeFrom]
theorem pO (cd : Nat → Int) (G : List aU) : (aR cd G).length = G.length := by simp [aR]
theorem oI {cd : Nat → Int} {G : List aU} {k : Nat} {b : AB} (h : (aR cd G)[k]? = some b) : ∃ x, G[k]? = some x ∧ b = ⟨codeFrom cd x.lo (x.hi - x.lo).toNat, x.nx⟩ := by
 unfold aR at h
 rw [List.getElem?_map] at h
 cases hx : G[k]? with
 | none => rw [hx] at h; cases h
 | some x => rw [hx] at h; cases h; exact ⟨x, rfl, rfl⟩
theorem Ru.YZ {n : Nat} {cd : Nat → Int} {G : List aU} {x : aU} (h : Ru n cd G x) : ABw G.length ⟨codeFrom cd x.lo (x.hi - x.lo).toNat, x.nx⟩ := by
 have hm : 0 < (x.hi - x.lo).toNat := by have := h.lt; omega
 have vV : ∀ i ∈ codeFrom cd x.lo (x.hi - x.lo).toNat, 0 ≤ i.op := fun i hi => by
  unfold codeFrom at hi
  obtain ⟨j, hj, rfl⟩ := List.mem_map.1 hi
  have hj := List.mem_range.1 hj
  have h0 := h.lo
  have := (h.II (x.lo.toNat + j) ahU ahU).2.2
  rwa [show ((x.lo.toNat + j : Nat) : Int) = x.lo + (j : Int) by omega] at this
 have hne : codeFrom cd x.lo (x.hi - x.lo).toNat ≠ [] := by
  intro e
  have := ey cd x.lo (x.hi - x.lo).toNat
  rw [e] at this
  simp at this
  omega
 refine ⟨⟨⟨vV, h.nx⟩, ?_, vV⟩, hne, h.rQ, h.nx⟩
 unfold AB.last
 have hl : (codeFrom cd x.lo (x.hi - x.lo).toNat).length - 1 < (codeFrom cd x.lo (x.hi - x.lo).toNat).length := by rw [ey]; omega
 have e : (codeFrom cd x.lo (x.hi - x.lo).toNat).getD ((codeFrom cd x.lo (x.hi - x.lo).toNat).length - 1) ⟨0, 0, 0, 0, 0⟩ = (codeFrom cd x.lo (x.hi - x.lo).toNat)[(codeFrom cd x.lo (x.hi - x.lo).toNat).length - 1] := by simp [List.getD, List.getElem?_eq_getElem hl]
 show 0 ≤ ((codeFrom cd x.lo (x.hi - x.lo).toNat).getD ((codeFrom cd x.lo (x.hi - x.lo).toNat).length - 1) ⟨0, 0, 0, 0, 0⟩).op
 rw [e]
 exact vV _ (List.getElem_mem _)
theorem MS {X w' : World} (hf : Below X.heap.size X w') : (∀ b o, b < X.heap.size → w'.cell? ⟨b, o, none⟩ = X.cell? ⟨b, o, none⟩) ∧ Below X.heap.size X w' := ⟨fun b o hb => hf.cell (p := ⟨b, o, none⟩) hb, hf⟩
theorem sK (w : World) (a b c d e : Value) (t : TypeId) : ∀ j u, [a, b, c, d, e][j]? = some u → (w.alloc (.cells #[a, b, c, d, e] t)).cell? ((⟨w.heap.size, 0, none⟩ : Addr).add j) = some u := by
 intro j u h
 have e : (⟨w.heap.size, 0, none⟩ : Addr).add j = ⟨w.heap.size, j, none⟩ := by cases j <;> simp [Addr.add]
 rw [e]
 unfold World.cell?
 rw [heap_alloc_new]
 simpa using h
theorem RT {w : World} {rb k : Nat} {T : TypeId} (h : w.heap[rb]? = some (.cells ((List.replicate k false).map Value.bool).toArray T (0, 0))) (hk : 0 < k) : w.cell? ⟨rb, 0, none⟩ = some (.bool false) ∧ w.frozen? ⟨rb, 0, none⟩ = false := by
 constructor
 ·unfold World.cell?
  simp only [h]
  rw [List.getElem?_toArray, List.getElem?_map, List.getElem?_replicate, if_pos hk]
  rfl
 ·simp [World.frozen?, h]
def Uf (B : Nat) (rv iv dv : Value) : Prop := ∀ q, (rv.ownBlock = some q ∨ iv.ownBlock = some q ∨ dv.ownBlock = some q) → B ≤ q
def eE (f : Nat → List Ins) (k : Nat) (l : List Ins) : Nat → List Ins := fun i => if i < k then f i else if i = k then l else []
theorem uZ (f : Nat → List Ins) : eE f 0 [] = fun _ => [] := by funext i; simp [eE]
theorem fW (f : Nat → List Ins) (k : Nat) (l : List Ins) : eE f k l k = l := by unfold eE; rw [if_neg ahU, if_pos rfl]
theorem yQ (f : Nat → List Ins) (k : Nat) (l l' : List Ins) : upd (eE f k l) k l' = eE f k l' := by
 funext i
 unfold upd eE
 by_cases h : i = k
 ·rw [if_pos h, if_neg ahU, if_pos h]
 ·rw [if_neg h, if_neg h, if_neg h]
theorem ve (f : Nat → List Ins) (k : Nat) : eE f k (f k) = eE f (k + 1) [] := by
 funext i
 unfold eE
 by_cases h1 : i < k
 ·rw [if_pos h1, if_pos ahU]
 ·rw [if_neg h1]
  by_cases h2 : i = k
  ·rw [if_pos h2, if_pos ahU, h2]
  ·rw [if_neg h2, if_neg ahU]
   split <;> rfl
def cz (cd : Nat → Int) (G : List aU) (k : Nat) : List Ins := codeFrom cd (G.getD k ⟨0, 0, []⟩).lo ((G.getD k ⟨0, 0, []⟩).hi - (G.getD k ⟨0, 0, []⟩).lo).toNat
theorem Hf : (Tryz.prog.info? 67).map (fun i => (i.zero, i.size, i.bytes)) = some (some (.agg #[.int .u8 0, .int .i64 0, .int .i64 0, .int .i64 0, .int .i64 0]), 5, 40) := by kernel_rfl
theorem Hg : (Tryz.prog.info? 4).map (fun i => (i.zero, i.size, i.bytes)) = some (some (.bool false), 1, 1) := by kernel_rfl
theorem OL : (Tryz.prog.info? 3).map (fun i => (i.zero, i.size, i.bytes)) = some (some (.int .i64 0), 1, 8) := by kernel_rfl
theorem G8 : (Tryz.prog.info? 144).map (fun i => (i.zero, i.size, i.bytes)) = some (some (.slice none 0 0), 1, 24) := by kernel_rfl
theorem OJ : (Tryz.prog.info? 174).map (fun i => (i.zero, i.size, i.bytes)) = some (some (.agg (aa aA).toArray), 32, 128) := by kernel_rfl
def qW : Prop := ∀ (cv ev bv pv : Value) (sh lk : Int) (n : Nat) (cd : Nat → Int) (G : List aU) (P : List (List Int)) (w : World) (T : gZ w) (HW : Words w cv n cd) (HG : fL w bv G) (HP : mG w pv P) (hv : bQ G P) (hg0 : 0 < G.length) (hg1 : G.length ≤ 1000) (hok : ∀ x ∈ G, Ru n cd G x),
  Calls Tryz.prog 52 #[.agg #[cv, ev, .int .i64 sh, .int .i64 lk], .agg #[bv, pv]] w fun e w' => (∃ s rv iv dv, Ends (aR cd G) (cg G.length) s ∧ e = .returned (.tuple #[.agg #[rv, iv, dv], .int .i64 0]) ∧ tu w' rv iv s.reach s.bC ∧ P7 w' dv (fJ (aR cd G) s G.length) ∧ Uf w.heap.size rv iv dv) ∧ Below w.heap.size w w'
end
end Go.Proofs.YtlmgkipmfgijiaaGreatDoor
