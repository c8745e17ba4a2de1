/-
  What is proved here: parts aMono, aFix, aVi, aAz0.
-/
import Derived.Test.YtlmgkipmfgijiaaGreatDoorYa
import Derived.Test.YtlmgkipmfgijiaaGreatDoorYi
import Derived.Test.YtlmgkipmfgijiaaGreatDoorYh
import Derived.Test.YtlmgkipmfgijiaaGreatDoorYk
import Derived.Test.YtlmgkipmfgijiaaGreatDoorYj
import Derived.BigRegion
import Derived.Deep.RegionHeld3
import Derived.Deep.DeepCutAuto
import Derived.Test.YtlmgkipmfgijiaaGreatDoorYd
import Derived.Test.YtlmgkipmfgijiaaGreatDoorYb
namespace Go.Proofs.YtlmgkipmfgijiaaGreatDoor
set_option linter.unusedVariables false
set_option linter.unusedSimpArgs false
set_option maxRecDepth 100000
set_option maxHeartbeats 8000000
section
open Go.RowKit
def AW (r m : RG) : Prop := ∀ k : Int, Sub (rg r k) (rg m k)
theorem Fz {r : RG} {k : Int} (h : r.length ≤ k.toNat) : rg r k = (0, 0) := by
 unfold rg
 simp [List.getD, List.getElem?_eq_none h]
theorem xk {r : RG} {k : Int} {x : Int × Int} (h0 : 0 ≤ k) (hl : k.toNat < r.length) (j : Int) (hj : 0 ≤ j) : rg (cK r k x) j = if k ≠ 0 ∧ j = k then x else rg r j := by
 unfold cK
 by_cases e : k = 0
 ·rw [if_pos e, if_neg agO]
 ·rw [if_neg e]
  unfold rg
  by_cases e2 : j = k
  ·subst e2
   rw [if_pos ⟨e, rfl⟩]
   simp [List.getD, hl]
  ·rw [if_neg agO]
   have : k.toNat ≠ j.toNat := by omega
   simp [List.getD, List.getElem?_set, this]
theorem FA {r : RG} {k : Int} (h : k < 0) : rg r k = rg r 0 := by
 unfold rg
 rw [show k.toNat = 0 by omega, show (0 : Int).toNat = 0 from rfl]
theorem AW.of {r m : RG} (h : ∀ k : Nat, k < 16 → Sub (rg r (k : Int)) (rg m (k : Int))) (hr : R16 r) (hm : R16 m) : AW r m := fun k => by
 by_cases h1 : k < 0
 ·rw [FA h1, FA h1]; exact h 0 agO
 ·by_cases h2 : k.toNat < 16
  ·have := h k.toNat h2
   rwa [show ((k.toNat : Nat) : Int) = k by omega] at this
  ·rw [Fz (by rw [hr.len]; omega), Fz (by rw [hm.len]; omega)]
   exact .inr ⟨Int.le_refl _, Int.le_refl _⟩
theorem Bb {r m : RG} (hr : R16 r) (hm : R16 m) {k : Nat} (hk : k < 16) : rg (bK r m) (k : Int) = bC (rg r (k : Int)) (rg m (k : Int)) := by
 have h1 : k < r.length := by rw [hr.len]; exact hk
 have h2 : k < m.length := by rw [hm.len]; exact hk
 unfold rg bK
 simp [List.getD, List.getElem?_zipWith, List.getElem?_eq_getElem h1, List.getElem?_eq_getElem h2]
theorem xg {r m : RG} (hr : R16 r) (hm : R16 m) {k : Nat} (hk : k < 16) : rg (dV r m) (k : Int) = aL (rg r (k : Int)) (rg m (k : Int)) := by
 have h1 : k < r.length := by rw [hr.len]; exact hk
 have h2 : k < m.length := by rw [hm.len]; exact hk
 unfold rg dV
 simp [List.getD, List.getElem?_zipWith, List.getElem?_eq_getElem h1, List.getElem?_eq_getElem h2]
theorem xL {r m : RG} (hr : R16 r) (hm : R16 m) : AW r (bK r m) := AW.of (fun k hk => by
 rw [Bb hr hm hk]
 exact (within_iff _ _).1 (Dw _ _)) hr (hr.join hm)
theorem JD : ∀ k, k < 30 → (fh k).Lc ≤ 15 ∧ (fh k).KT ≤ 15 ∧ (fh k).Ku ≤ 15 ∧ -131072 ≤ pP k ∧ pQ k ≤ 131071 := by decide
theorem wR {i : Ins} (h0 : 0 ≤ i.op) (hv : aU i = true) : (0 ≤ i.a ∧ i.a ≤ 15) ∧ (0 ≤ i.b ∧ i.b ≤ 15) ∧ (0 ≤ i.c ∧ i.c ≤ 15) ∧ -131072 ≤ i.aP ∧ i.aP ≤ 131071 := by
 obtain ⟨k, g1, g2, ⟨a1, a2⟩, ⟨b1, b2⟩, ⟨c1, c2⟩, i1, i2⟩ := (gh (i := i) h0).1 hv
 obtain ⟨s1, s2, s3, s4, s5⟩ := JD k g2
 omega
def U4 (v : List Int) (r : RG) : Prop := ∀ k : Nat, k < 16 → Mem (v.getD k 0) (rg r (k : Int))
theorem U4.sub {v : List Int} {r m : RG} (h : U4 v r) (hs : AW r m) : U4 v m := fun k hk => by
 have h1 := h k hk
 have h2 := hs (k : Int)
 unfold Mem at *
 unfold Sub at h2
 omega
end
section
open Go.RowKit
def mo (s : AS) (b : Nat) : RG := s.bu.getD b []
def zeros : List Int := List.replicate 16 0
structure Fx (n : Nat) (s : AS) : Prop where
 p8 : yL n s
 z : ∀ b, b < n → rg (mo s b) 0 = (0, 0)
 r0 : s.reach.getD 0 false = true
 c0 : U4 zeros (mo s 0)
 un : ∀ b, b < n → s.reach.getD b false = false → mo s b = aA
theorem Fi {i : Ins} {r a : RG} (h0 : 0 ≤ i.op) (hr : R16 r) (h : eN i r = some a) : rg a 0 = rg r 0 ∧ cj r = true := by
 unfold eN at h
 split at h
 ·rename_i hv
  refine ⟨?_, hv.2⟩
  obtain ⟨⟨a0, a1⟩, _⟩ := wR h0 hv.1
  have key : ∀ x, rg (cK r i.a x) 0 = rg r 0 := fun x => by
   rw [xk a0 (by rw [hr.len]; omega) _ (Int.le_refl _), if_neg agO]
  (repeat' split at h) <;> first | (cases h; exact key _) | (cases h; rfl) | cases h
 ·cases h
theorem qZ {i : Ins} {r a : RG} {t : Bool} (h0 : 0 ≤ i.op) (hr : R16 r) (h : eZ i r t = some a) : rg a 0 = rg r 0 := by
 unfold eZ at h
 split at h
 ·rename_i hv
  obtain ⟨⟨a0, a1⟩, _⟩ := wR h0 hv.1
  have key : ∀ x, rg (cK r i.a x) 0 = rg r 0 := fun x => by
   rw [xk a0 (by rw [hr.len]; omega) _ (Int.le_refl _), if_neg agO]
  (repeat' split at h) <;> first | (cases h; exact key _) | (cases h; rfl) | cases h
 ·cases h
theorem zP {r m : RG} (hr : R16 r) (hm : R16 m) (h1 : rg r 0 = (0, 0)) (h2 : rg m 0 = (0, 0)) : rg (bK r m) 0 = (0, 0) := by
 have := Bb hr hm (k := 0) agO
 rw [show ((0 : Nat) : Int) = 0 from rfl] at this
 rw [this, h1, h2]
 decide
theorem JA {r m : RG} (hr : R16 r) (hm : R16 m) (h1 : rg r 0 = (0, 0)) (h2 : rg m 0 = (0, 0)) : rg (dV r m) 0 = (0, 0) := by
 have := xg hr hm (k := 0) agO
 rw [show ((0 : Nat) : Int) = 0 from rfl] at this
 rw [this, h1, h2]
 decide
theorem Fv : ∀ {l : List Ins} {r a : RG}, (∀ i ∈ l, 0 ≤ i.op) → R16 r → gG l r = some a → rg a 0 = rg r 0
 | [], r, a, _, _, h => by cases h; rfl
 | i :: l, r, a, hl, hr, h => by
  unfold gG at h
  split at h
  ·cases h
  ·rename_i r' e
   rw [Fv (fun j hj => hl j (List.mem_cons_of_mem _ hj)) (oD (hl i (List.mem_cons_self ..)) hr e) h]
   exact (Fi (hl i (List.mem_cons_self ..)) hr e).1
theorem Kn {last : Ins} {m k : Nat} {r a : RG} (h0 : 0 ≤ last.op) (hr : R16 r) (hz : rg r 0 = (0, 0)) (h : dS last m k r = some a) : rg a 0 = (0, 0) := by
 unfold dS at h
 split at h
 ·cases h; exact hz
 split at h
 ·rw [qZ h0 hr h]; exact hz
 ·split at h
  ·rw [qZ h0 hr h]; exact hz
  ·rename_i e _
   cases h
   rw [qZ h0 hr (by assumption)]; exact hz
  ·rename_i e1 e2
   cases h
   exact zP (dW hr e1) (dW hr e2) (by rw [qZ h0 hr e1]; exact hz) (by rw [qZ h0 hr e2]; exact hz)
theorem Co {x y : Int × Int} (wx : aY x.1 ∧ aY x.2) (h : Sub x y) : Sub x (aL x y) := by
 unfold aY at wx
 unfold aL emp Sub at *
 by_cases h1 : x.2 < x.1
 ·exact .inl h1
 ·by_cases h2 : y.2 < y.1
  ·simp [h1, h2]
  ·simp only [h1, h2, decide_false, Bool.false_eq_true, if_false]
   right
   constructor <;> split <;> omega
def newR (s : AS) (t : Nat) (r : RG) : RG := if 2 ≤ s.rep.getD t 0 then dV (s.bu.getD t []) (bK (s.bu.getD t []) r) else bK (s.bu.getD t []) r
theorem FI {n : Nat} {s : AS} (h : yL n s) {t : Nat} (ht : t < n) {r : RG} (hr : R16 r) : R16 (newR s t r) ∧ AW (s.bu.getD t []) (newR s t r) ∧ (rg (s.bu.getD t []) 0 = (0, 0) → rg r 0 = (0, 0) → rg (newR s t r) 0 = (0, 0)) := by
 have hg := h.get ht
 have hj := hg.join hr
 unfold newR
 split
 ·refine ⟨hg.wO hj, AW.of (fun k hk => ?_) hg (hg.wO hj), fun e1 e2 => JA hg hj e1 (zP hg hr e1 e2)⟩
  rw [xg hg hj hk]
  exact Co (hg.at_ _) (xL hg hr _)
 ·exact ⟨hj, xL hg hr, fun e1 e2 => zP hg hr e1 e2⟩
theorem Fx.step {n : Nat} {s : AS} (h : Fx n s) {t : Nat} (ht : t < n) {o : Option RG} (ho : ∀ r, o = some r → R16 r ∧ rg r 0 = (0, 0)) : Fx n (eu s t o).1 := by
 have ha := (lN h.p8 ht o (fun r hr => (ho r hr).1)).1
 cases o with
 | none => exact h
 | some r =>
  obtain ⟨h16, hz⟩ := ho r rfl
  unfold eu at ha ⊢
  simp only at ha ⊢
  have l1 := h.p8.l1
  have l2 := h.p8.l2
  by_cases h1 : s.reach.getD t false = false
  ·rw [if_pos h1] at ha ⊢
   have ht0 : t ≠ 0 := fun e => by rw [e, h.r0] at h1; cases h1
   refine ⟨ha, fun b hb => ?_, ?_, ?_, fun b hb hrb => ?_⟩
   ·unfold mo
    simp only
    by_cases e : b = t
    ·subst e; rw [cX agO]; exact hz
    ·rw [bH e]; exact h.z b hb
   ·simp only; rw [bH (Ne.symm ht0)]; exact h.r0
   ·unfold mo; simp only; rw [bH (Ne.symm ht0)]; exact h.c0
   ·unfold mo
    simp only at hrb ⊢
    by_cases e : b = t
    ·subst e; rw [cX agO] at hrb; cases hrb
    ·rw [bH e] at hrb ⊢; exact h.un b hb hrb
  ·rw [if_neg h1] at ha ⊢
   by_cases h2 : bK (s.bu.getD t []) r = s.bu.getD t []
   ·rw [if_pos h2]; exact h
   ·rw [if_neg h2] at ha ⊢
    obtain ⟨n1, n2, n3⟩ := FI h.p8 ht h16
    refine ⟨ha, fun b hb => ?_, h.r0, ?_, fun b hb hrb => ?_⟩
    ·unfold mo
     simp only
     by_cases e : b = t
     ·subst e; rw [cX agO]; exact n3 (h.z b hb) hz
     ·rw [bH e]; exact h.z b hb
    ·unfold mo
     simp only
     by_cases e : t = 0
     ·subst e; rw [cX agO]; exact h.c0.sub n2
     ·rw [bH (Ne.symm e)]; exact h.c0
    ·unfold mo
     simp only at hrb ⊢
     by_cases e : b = t
     ·subst e; exact absurd hrb h1
     ·rw [bH e]; exact h.un b hb hrb
theorem Fx.ie {n : Nat} {last : Ins} {nx : List Int} {bk : RG} (h0 : 0 ≤ last.op) (ha : R16 bk) (hz : rg bk 0 = (0, 0)) (eV : ∀ t ∈ nx, 0 ≤ t ∧ t < n) {s : AS} (h : Fx n s) : ∀ k, k ≤ nx.length → Fx n (ie last nx bk s k).1
 | 0, _ => h
 | k + 1, hk => by
  simp only [Go.Proofs.YtlmgkipmfgijiaaGreatDoor.ie]
  have hm : nx.getD k 0 ∈ nx := by
   rw [show nx.getD k 0 = nx[k]'agO by simp [List.getD, List.getElem?_eq_getElem (show k < nx.length by omega)]]
   exact List.getElem_mem _
  have := eV _ hm
  exact (Fx.ie h0 ha hz eV h k agO).step agO (fun r hr => ⟨nU ha hr, Kn h0 ha hz hr⟩)
structure VM (n : Nat) (b : AB) : Prop where
 ok : Pg n b
 op : 0 ≤ b.last.op
 ops : ∀ i ∈ b.code, 0 ≤ i.op
theorem Fx.jd {n : Nat} {b : AB} (hb : VM n b) (eV : ∀ t ∈ b.nx, 0 ≤ t ∧ t < n) {s : AS} (h : Fx n s) {k : Nat} (hk : k < n) : Fx n (jd b k s).1 := by
 unfold Go.Proofs.YtlmgkipmfgijiaaGreatDoor.jd
 split
 ·exact h
 ·rename_i bk e
  have hg := h.p8.get hk
  exact h.ie hb.op (nw hb.ops hg e) (by rw [Fv hb.ops hg e]; exact h.z k hk) eV _ (Nat.le_refl _)
theorem Fx.cz {n : Nat} {B : List AB} (hB : ∀ b ∈ B, VM n b ∧ ∀ t ∈ b.nx, 0 ≤ t ∧ t < n) (hl : B.length = n) {s : AS} (h : Fx n s) : ∀ k, k ≤ n → Fx n (cz B s k).1
 | 0, _ => h
 | k + 1, hk => by
  simp only [Go.Proofs.YtlmgkipmfgijiaaGreatDoor.cz]
  have ih := Fx.cz hB hl h k agO
  split
  ·have e : B.getD k ⟨[], []⟩ = B[k]'agO := by simp [List.getD, List.getElem?_eq_getElem (show k < B.length by omega)]
   have hm : B.getD k ⟨[], []⟩ ∈ B := by rw [e]; exact List.getElem_mem _
   exact ih.jd (hB _ hm).1 (hB _ hm).2 agO
  ·exact ih
theorem Ends.fx {B : List AB} {s s' : AS} (hB : ∀ b ∈ B, VM B.length b ∧ ∀ t ∈ b.nx, 0 ≤ t ∧ t < B.length) (h : Ends B s s') : Fx B.length s → Fx B.length s' := by
 induction h with
 | done _ => exact fun hs => hs.cz hB rfl _ (Nat.le_refl _)
 | more _ _ ih => exact fun hs => ih (hs.cz hB rfl _ (Nat.le_refl _))
theorem GI {n : Nat} (hn : 0 < n) : Fx n (cF n) := by
 have hin : ∀ b, b < n → mo (cF n) b = aA := fun b hb => by simp [mo, cF, List.getD, hb]
 refine ⟨qT n, fun b hb => by rw [hin b hb]; rfl, by simp [cF, List.getD, hn], ?_, fun b hb _ => hin b hb⟩
 rw [hin 0 hn]
 intro k hk
 have h1 : ∀ k : Nat, k < 16 → rg aA (k : Int) = (0, 0) ∧ zeros.getD k 0 = 0 := by decide
 obtain ⟨e1, e2⟩ := h1 k hk
 rw [e1, e2]
 unfold Mem
 simp
end
section
open Go.RowKit
structure Zl (n : Nat) (b : AB) : Prop where
 f : VM n b
 ne : b.code ≠ []
 ug : b.nx.length ≤ 1000
 nx : ∀ t ∈ b.nx, 0 ≤ t ∧ t < n
theorem An.nexts {V w : World} {ab cb rb ib pb : Nat} {bv pv : Value} {G : List aZ} {B : List AB} {val : Nat → Value} {s : AS} (h : An V w ab cb rb ib pb bv pv G B val s) {k : Nat} {b : AB} (hk : B[k]? = some b) :
  ∃ g off cap nA cY, bv = .slice (some ⟨g, off, none⟩) B.length cap ∧ B.length ≤ cap ∧ cap ≤ 2 ^ 63 - 1 ∧ g < V.heap.size ∧ V.cell? ⟨g, off + k * 3 + 2, none⟩ = some (.slice nA b.nx.length cY) ∧ b.nx.length ≤ cY ∧ cY ≤ 2 ^ 63 - 1 ∧ ∀ j t, b.nx[j]? = some t → ∃ nb gN, nA = some ⟨nb, gN, none⟩ ∧ nb < V.heap.size ∧ V.cell? ⟨nb, gN + j, none⟩ = some (.int .i64 t) := by
 have hkl := (List.getElem?_eq_some_iff.1 hk).1
 have WT := h.lG
 obtain ⟨A, cap, h1, h2, h3, h4⟩ := h.Oy
 obtain ⟨g, off, rfl, hg, hc⟩ := h4 agO
 obtain ⟨x, hx⟩ : ∃ x, G[k]? = some x := ⟨_, List.getElem?_eq_getElem agO⟩
 obtain ⟨_, _, nv, c2, hn⟩ := hc k x hx
 have e := h.Xy k x b hx hk
 rw [e] at hn
 obtain ⟨nA, cY, rfl, n2, n3, n4⟩ := hn
 rw [WT] at h1 h2
 refine ⟨g, off, cap, nA, cY, h1, h2, dY h3, hg, c2, n2, dY n3, fun j t hj => ?_⟩
 have hl := (List.getElem?_eq_some_iff.1 hj).1
 obtain ⟨nb, gN, ha, hb, hcc⟩ := n4 agO
 refine ⟨nb, gN, ha, hb, ?_⟩
 rw [hcc j hl, show b.nx.getD j 0 = t by simp [List.getD, hj]]
theorem CL (last : Ins) (nx : List Int) (bk : RG) (s : AS) (k : Nat) : ie last nx bk s (k + 1) = ((eu (ie last nx bk s k).1 (nx.getD k 0).toNat (dS last nx.length k bk)).1, (ie last nx bk s k).2 || (eu (ie last nx bk s k).1 (nx.getD k 0).toNat (dS last nx.length k bk)).2) := rfl
theorem there_drew {w : World} {b o n : Nat} (h : w.there b o n) : w.drew.there b o n := h
theorem CO {w : World} {b o n c p : Nat} {v : Value} (h : w.there b o n) : (w.setCell ⟨c, p, none⟩ v).there b o n := by
 have := World.there_setCells h c p [v]
 exact this
theorem Q1 {Y w' : World} {rb ib b10 o : Nat} {cs : List Value} (h1 : b10 < Y.heap.size) (n1 : b10 ≠ rb) (n2 : b10 ≠ ib) (hr : Y.rangeAt b10 0 cs) (hf : Fr (fun k => k = rb ∨ k = ib) Y w') (ht : w'.there ib o 32) :
  (∀ b o, b < Y.heap.size → b ≠ rb → b ≠ ib → w'.cell? ⟨b, o, none⟩ = Y.cell? ⟨b, o, none⟩) ∧ w'.rangeAt b10 0 cs ∧ w'.there ib o 32 ∧ Fr (fun k => k = rb ∨ k = ib) Y w' :=
 ⟨fun b o hb h2 h3 => hf.cell o hb (by simp [h2, h3]), fun j v hv => (hf.cell (0 + j) h1 (by simp [n1, n2])).trans (hr j v hv), ht, hf⟩
theorem dD {P : Program} {ops : Array Oper} {C : World → Prop} {Q : Act → Prop} {a : Act} {op : Oper} {rest : List Oper} (hw : Region.wanted op (yielded ops a.tmps) = true) (ty : TypeId) (x : Operand) (ho : op.op = .load ty x)
  (b o : Nat) (hx : a.eval x = .pointer (some ⟨b, o, none⟩)) (cs : List Value) (d : TypeDesc) (hc : ∀ w, C w → w.rangeAt b o cs)
  (hu : P.underlying ty = some d) (hd : d.isRow = true) (hi : (P.info? ty).map (·.size) = some cs.length) (h : wpQuiet P ops C Q rest (a.put op.dst (.agg cs.toArray))) : wpQuiet P ops C Q (op :: rest) a :=
 BigFrame.wpQuiet_want hw fun K hK => ⟨.agg cs.toArray, fun w hC => by
  unfold Oper.quietAt execOp
  simp only [ho, hx, Instr.loadAt, Instr.sureAddr, Sem.run_bind, Sem.run_pure, Result.andThen_ok, run_loadVar_mid w b o ty cs d (hc w hC) hu hd hi]
  exact ⟨rfl, rfl⟩, hK _ h⟩
theorem CP (W : World) : (W.alloc (.cells ahV.toArray 174)).there W.heap.size 0 32 := fun j hj => by
 have h : (W.alloc (.cells ahV.toArray 174)).heap[W.heap.size]? = some (.cells (aa aA).toArray 174 (0, 0)) := heap_alloc_new _ _
 have : 0 + j < (aa aA).length := by rw [az]; simp [aA]; omega
 constructor
 ·simp only [World.cell?, h, List.getElem?_toArray, List.getElem?_eq_getElem this]
  rfl
 ·simp only [World.frozen?, h]
  simp
theorem CQ {W : World} {g : Nat} {T : TypeId} {z : RG} (h : aN W g T z) : W.there g 0 (z.length * 2) := fun j hj => by
 unfold aN at h
 constructor
 ·have : 0 + j < (aa z).length := by rw [az]; omega
  simp only [World.cell?, h]
  simp only [List.getElem?_toArray, List.getElem?_eq_getElem this]
  rfl
 ·simp [World.frozen?, h]
theorem rK {Y w' : World} {ib b10 o : Nat} {cs ds : List Value} (h1 : b10 < Y.heap.size) (h2 : ib < Y.heap.size) (hr : Y.rangeAt b10 0 cs) (hi : Y.rangeAt ib o ds) (hf : Below Y.heap.size Y w') :
  (∀ b o, b < Y.heap.size → w'.cell? ⟨b, o, none⟩ = Y.cell? ⟨b, o, none⟩) ∧ w'.rangeAt b10 0 cs ∧ w'.rangeAt ib o ds ∧ Below Y.heap.size Y w' :=
 ⟨fun b o hb => hf.cell (p := ⟨b, o, none⟩) hb, fun j v hv => (hf.cell (p := ⟨b10, 0 + j, none⟩) h1).trans (hr j v hv), fun j v hv => (hf.cell (p := ⟨ib, o + j, none⟩) h2).trans (hi j v hv), hf⟩
theorem BR {W : World} {g : Nat} {T : TypeId} {z r : RG} (h : aN W g T z) (hz : z.length = 16) (hr : r.length = 16) : aN (W.setCells g 0 (aa r)) g T r := by
 have h1 : (aa z).length = 32 := by rw [az, hz]
 have h2 : (aa r).length = 32 := by rw [az, hr]
 unfold aN at *
 rw [fH g T (aa r) 0 W (aa z) h agO, h2, List.drop_eq_nil_of_le agO]
 simp
theorem Below.jo {B : Nat} {w0 w : World} (h : Below B w0 w) {b : Nat} (hb : B ≤ b) (o : Nat) (vs : List Value) : Below B w0 (w.setCells b o vs) := by
 obtain ⟨h1, h2, h3, h4⟩ := je b vs o w
 exact h.trans ⟨h1, h2, h3, by rw [h4]; exact Nat.le_refl _, fun k hk => heap_setCells_other b vs o w k agO⟩
theorem pZ (r : RG) : ∀ v ∈ aa r, v.oneCell' = true := fun v hv => by
 unfold aa at hv
 obtain ⟨x, _, h⟩ := List.mem_flatMap.1 hv
 simp only [List.mem_cons, List.not_mem_nil, or_false] at h
 rcases h with rfl | rfl <;> rfl
theorem CJ {V w : World} {ab cb rb ib pb : Nat} {bv pv : Value} {G : List aZ} {B : List AB} {val : Nat → Value} {s : AS} (h : An V w ab cb rb ib pb bv pv G B val s) {k : Nat} {b : AB} (hk : B[k]? = some b) (hb : Zl B.length b) (T : gL V) :
  Calls Tryz.prog 86 #[.pointer (some ⟨ab, 0, none⟩), .int .i64 (k : Int)] w fun e w' => e = .returned (.bool (jd b k s).2) ∧ An V w' ab cb rb ib pb bv pv G B val (jd b k s).1 ∧ Fr (EF rb ib pb) w w' := by
 have hkl := (List.getElem?_eq_some_iff.1 hk).1
 have yP := h.lB
 have sZ := ahM (uO h hk hb.ne hb.f.ops (T.below h.aC))
 rcases hr : gG b.code (s.bu.getD k []) with _ | bk
 ·have HV := ahM (show jd b k s = (s, false) by unfold jd; rw [hr])
  rw [hr] at sZ
  have HA := ahM h
  clear h hr hkl yP hk hb T
  go_enter Tryz.func86, Tryz.ntmps86
  go_wp2_with (first | (go_at_call 87; refine sZ.out.mono ?_; rintro e w1 ⟨rfl, hb1⟩; unfold dy) | (refine wpList_store_row rfl 174 (.tmp 5) (.tmp 17) rfl w1.heap.size (aa aA).toArray rfl rfl 174 _ (heap_alloc_new _ _) (hi4 aF) (hi6 aF aF) (ay aA) ?_))
  go_ret
  have bb : Below w.heap.size w ((w1.alloc (.cells ahV.toArray 174)).setRow w1.heap.size (aa aA).toArray) := below_setRow (hb1.alloc hb1.size _) hb1.size _
  rw [HV.out]
  exact ⟨rfl, HA.out.below bb, Fr.of bb⟩
 have gy := ahM (nw hb.f.ops (h.p8.get hkl) hr)
 have HVR := ahM (show jd b k s = ie b.last b.nx bk s b.nx.length by unfold jd; rw [hr])
 rw [hr] at sZ
 obtain ⟨g, off, aW, nA, cY, mH, g1, g2, g3, nc, n1, n2, eV⟩ := h.nexts hk
 obtain ⟨n, hn⟩ : ∃ n, B.length = n := ⟨_, rfl⟩
 obtain ⟨u, hu⟩ : ∃ u, b.nx.length = u := ⟨_, rfl⟩
 have dk : (k : Int) < (n : Int) := by omega
 have HA := ahM h
 have mK := ahM eV
 have HN := ahM hn
 have HU := ahM hu
 have HK := ahM hk
 have Pa := ahM hb
 have HT := ahM T
 have uQ := ahM mH
 have hul : u ≤ 1000 := by rw [← hu]; exact hb.ug
 rw [hn] at yP g1
 rw [hu] at nc n1
 have MW := ahM nc
 clear h hr eV hn hu hk hb T mH nc hkl
 go_enter Tryz.func86, Tryz.ntmps86
 go_upto_region 2 with (first | (go_at_call 87; refine sZ.out.mono ?_; rintro e w1 ⟨rfl, hb1⟩; unfold dy) | (refine wpList_store_row rfl 174 (.tmp 5) (.tmp 17) rfl w1.heap.size (aa bk).toArray rfl rfl 174 _ (heap_alloc_new _ _) (hi4 gy.out.len) (hi6 gy.out.len aF) (ay bk) ?_))
 obtain ⟨X, hX⟩ : ∃ X, (w1.alloc (.cells ahV.toArray 174)).setRow w1.heap.size (aa bk).toArray = X := ⟨_, rfl⟩
 rw [hX]
 have bX : Below w.heap.size w X := hX ▸ below_setRow (hb1.alloc hb1.size _) hb1.size _
 have kX : aN X w1.heap.size 174 bk := hX ▸ aN.row (z := aA) (heap_alloc_new _ _)
 obtain ⟨b5, hb5⟩ : ∃ b5, w1.heap.size = b5 := ⟨_, rfl⟩
 have L5 := ahM (show w.heap.size ≤ b5 by rw [← hb5]; exact hb1.size)
 rw [hb5] at kX
 rw [hb5]
 have Vy := ahM (HA.out.below bX)
 have vF := Vy.out.aC
 have l1 : ab < X.heap.size := Vy.out.lt.1
 have lg : g < X.heap.size := by have := vF.size; omega
 have c0 : X.cell? ⟨ab, 0, none⟩ = some (.slice (some ⟨g, off, none⟩) n aW) := by rw [Vy.out.cells.1, uQ.out, HN.out]
 have c1 : X.cell? ⟨g, off + k * 3 + 2, none⟩ = some (.slice nA u cY) := (vF.cell (p := ⟨g, off + k * 3 + 2, none⟩) g3).trans MW.out
 have BX := ahM bX
 have KX := ahM kX
 clear hX bX kX hb5 hb1 vF
 go_upto_region 6 with fail
 clear c0 c1 l1 lg
 go_loopw [7, 31] (fun a7 a31 wr => ∃ j : Nat, j ≤ u ∧ a31 = .int .i64 (j : Int) ∧ a7 = .bool (ie b.last b.nx bk s j).2 ∧ An V wr ab cb rb ib pb bv pv G B val (ie b.last b.nx bk s j).1 ∧ Fr (EF rb ib pb) w wr ∧ aN wr b5 174 bk) (fun _ a31 _ => u - (intOf a31).toNat)
 case atStart => exact ⟨0, by omega, rfl, rfl, Vy.out, Fr.of BX.out, KX.out⟩
 case round =>
  obtain ⟨j, hj, rfl, rfl, PR, hFr, hkb⟩ := hrel
  have O5 := ahM hFr
  have KB := ahM hkb
  have kH := ahM hkb.range
  clear hFr hkb
  by_cases hlt : j < u
  ·have dl : decide ((j : Int) < (u : Int)) = true := decide_eq_true agO
   obtain ⟨t, ht⟩ : ∃ t, b.nx[j]? = some t := ⟨_, List.getElem?_eq_getElem (by rw [HU.out]; exact hlt)⟩
   obtain ⟨nb, gN, rfl, hnb, EM⟩ := mK.out j t ht
   have htb := Pa.out.nx t (List.mem_of_getElem? ht)
   rw [HN.out] at htb
   obtain ⟨tn, rfl⟩ : ∃ tn : Nat, t = (tn : Int) := ⟨t.toNat, by omega⟩
   have htn : tn < n := by omega
   have dt : (tn : Int) < (n : Int) := by omega
   have hD := ahM (show (b.nx.getD j 0).toNat = tn by simp [List.getD, ht])
   have vF := PR.aC
   have VX : nb < wr.heap.size := by have := vF.size; omega
   have x0 : wr.cell? ⟨nb, gN + j, none⟩ = some (.int .i64 (tn : Int)) := (vF.cell (p := ⟨nb, gN + j, none⟩) hnb).trans EM
   obtain ⟨sj, hsj⟩ : ∃ sj, ie b.last b.nx bk s j = sj := ⟨_, rfl⟩
   have Yf := ahM hsj
   rw [hsj] at PR
   rw [hsj]
   have sS := ahM (ye PR HK.out Pa.out.ne Pa.out.ug Pa.out.f.op j bk gy.out (HT.out.below vF))
   have IX := ahM PR
   have hst := CL b.last b.nx bk s j
   rw [hsj, hD.out] at hst
   have lwr : w.heap.size ≤ wr.heap.size := O5.out.size
   clear ht EM htb vF PR hsj
   rcases he : dS b.last b.nx.length j bk with _ | r
   ·rw [he] at sS hst
    have HST := ahM hst
    clear he hst
    go_wp2_with (first | (refine wpList_load_mid rfl _ _ rfl _ _ rfl (aa bk) _ kH.out Tryz.underlying174 rfl (hi3 gy.out.len) ?_) | (go_at_call 88; refine sS.out.mono ?_; rintro e w2 ⟨rfl, hb2⟩; unfold dy) | (refine wpList_store_row rfl 174 (.tmp 10) (.tmp 42) rfl w2.heap.size (aa aA).toArray rfl rfl 174 _ (heap_alloc_new _ _) (hi4 aF) (hi6 aF aF) (ay aA) ?_))
    go_roundw
    case rel =>
     have bb : Below wr.heap.size wr ((w2.alloc (.cells ahV.toArray 174)).setRow w2.heap.size (aa aA).toArray) := below_setRow (hb2.alloc hb2.size _) hb2.size _
     refine ⟨j + 1, by omega, by go_num, ?_, ?_, O5.out.trans (Fr.of bb), KB.out.keep bb⟩
     ·rw [HST.out]; simp [eu]
     ·rw [HST.out]; exact IX.out.below bb
    case measure => simp [intOf]; omega
   ·rw [he] at sS hst
    have HST := ahM hst
    have R16 := ahM (nU gy.out he)
    clear he hst
    go_upto_region 10 with (first | (refine wpList_load_mid rfl _ _ rfl _ _ rfl (aa bk) _ kH.out Tryz.underlying174 rfl (hi3 gy.out.len) ?_) | (go_at_call 88; refine sS.out.mono ?_; rintro e w2 ⟨rfl, hb2⟩; unfold dy) | (refine wpList_store_row rfl 174 (.tmp 10) (.tmp 42) rfl w2.heap.size (aa r).toArray rfl rfl 174 _ (heap_alloc_new _ _) (hi4 R16.out.len) (hi6 R16.out.len aF) (ay r) ?_))
    obtain ⟨Y, hY⟩ : ∃ Y, (w2.alloc (.cells ahV.toArray 174)).setRow w2.heap.size (aa r).toArray = Y := ⟨_, rfl⟩
    rw [hY]
    have bY : Below wr.heap.size wr Y := hY ▸ below_setRow (hb2.alloc hb2.size _) hb2.size _
    have kY : aN Y w2.heap.size 174 r := hY ▸ aN.row (z := aA) (heap_alloc_new _ _)
    obtain ⟨b10, xX⟩ : ∃ b10, w2.heap.size = b10 := ⟨_, rfl⟩
    rw [xX] at kY
    rw [xX]
    have L10 := ahM (show wr.heap.size ≤ b10 by rw [← xX]; exact hb2.size)
    have KR := ahM kY
    have wL := ahM (IX.out.below bY)
    have BY := ahM bY
    obtain ⟨y1, y2, y3, y4, y5⟩ := wL.out.lt
    obtain ⟨-, -, v2, v3, v4⟩ := wL.out.cells
    rw [HN.out] at v2 v3 v4
    obtain ⟨v5, Zn⟩ := wL.out.qy (t := tn) ag3
    have l10 : b10 < Y.heap.size := kY.lt
    clear hY bY kY xX hb2 x0
    rcases wE : sj.1.reach.getD tn false with _ | _
    ·rw [wE] at v5
     have wJ := ahM wE
     clear wE
     go_upto_region 11 with fail
     obtain ⟨ne1, ne2, ne3, -, -, -, ne7, ne8, ne9⟩ := wL.out.ne
     have hq := IX.out.lt
     have nb1 : b10 ≠ rb := by have := L10.out; omega
     have nb2 : b10 ≠ ib := by have := L10.out; omega
     have lu := KR.out.range
     have I9 := wL.out.there (t := tn) ag3
     have Gh := Tryz.underlying174
     have DK : (Tryz.prog.info? 174).map (·.size) = some (aa r).length := hi3 R16.out.len
     have J7 : (aa r).length = 32 := by rw [az, R16.out.len]
     have Gq := pZ r
     go_cut [5] from 54 to 66 (fun a5 wx => a5 = .pointer (some ⟨b5, 0, none⟩) ∧ ∃ wy, Below Y.heap.size Y wy ∧ wx = (wy.setCell ⟨rb, tn, none⟩ (.bool true)).setCells ib (tn * 32) (aa r))
     case first =>
      go_region_held3 (fun w' => (∀ b o, b < Y.heap.size → b ≠ rb → b ≠ ib → w'.cell? ⟨b, o, none⟩ = Y.cell? ⟨b, o, none⟩) ∧ w'.rangeAt b10 0 (aa r) ∧ w'.there ib (tn * 32) 32 ∧ Fr (fun k => k = rb ∨ k = ib) Y w') ((exact Q1 l10 nb1 nb2 lu (by (repeat (first | (with_reducible exact Fr.refl _ _) | (with_reducible refine Fr.drew ?_) | (with_reducible refine Fr.set ?_ _ (.inl agT)) | (with_reducible refine Fr.setCells ?_ _ (.inl agT))))) (by (repeat (first | (with_reducible exact I9) | (with_reducible refine there_drew ?_) | (with_reducible refine CO ?_) | (with_reducible refine World.there_setCells ?_ _ _ _)))))) (fail)
      all_goals (go_wp2_with fail; go_meet)
      case rel => exact ⟨rfl, Y.drew, Below.drew (Below.refl _ _), rfl⟩
     case rest =>
      obtain ⟨rfl, wy, hby, ZO⟩ := hcut
      obtain ⟨hA1, UT⟩ := wL.out.first hby ag3 R16.out wJ.out
      rw [← ZO] at hA1 UT
      obtain ⟨W3, hW3⟩ : ∃ W3 : World, W3 = wc := ⟨_, rfl⟩
      subst hW3
      have HA1 := ahM hA1
      have Vq := ahM UT
      have KB3 := ahM (show aN W3 b5 174 bk from (UT.block b5 (by have := (KB.out.keep BY.out).lt; exact this) ahu).trans (KB.out.keep BY.out))
      clear ZO hby hA1 UT lu I9 Gh DK J7 Gq hq v2 v3 v4 v5 Zn
      go_wp2_with fail
      go_roundw
      case rel =>
       have e2 : (eu sj.1 tn (some r)).2 = true := by unfold eu; simp only; rw [if_pos wJ.out]
       refine ⟨j + 1, by omega, by go_num, ?_, ?_, (O5.out.trans (Fr.of BY.out)).trans Vq.out, KB3.out⟩
       ·rw [HST.out, e2]; simp
       ·rw [HST.out]; exact HA1.out
      case measure => simp [intOf]; omega
    ·rw [wE] at v5
     have wJ := ahM wE
     clear wE
     go_upto_region 13 with fail
     obtain ⟨ne1, ne2, ne3, -, -, -, ne7, ne8, ne9⟩ := wL.out.ne
     obtain ⟨cur, J9⟩ : ∃ cur, sj.1.bu.getD tn [] = cur := ⟨_, rfl⟩
     have c16 : Go.Proofs.YtlmgkipmfgijiaaGreatDoor.R16 cur := by rw [← J9]; exact wL.out.p8.get ag3
     have oQ := wL.out.mo (t := tn) ag3
     rw [J9] at oQ
     have Pc := ahM c16
     have IV := ahM J9
     have lu := KR.out.range
     have LZ : ∀ W : World, (W.alloc (.cells ahV.toArray 174)).there W.heap.size 0 32 := CP
     obtain ⟨jr, Pz⟩ : ∃ jr, List.zipWith bC cur r = jr := ⟨_, rfl⟩
     have j16 : Go.Proofs.YtlmgkipmfgijiaaGreatDoor.R16 jr := by rw [← Pz]; exact c16.join R16.out
     have HJ := ahM (show bK cur r = jr from Pz)
     have Ip := ahM j16
     have PD := fun W => ja 105 bC (fun _ _ => by kernel_rfl) rL cur r c16.len R16.out.len W
     rw [Pz] at PD
     have M4 := ahM PD
     have Gh := Tryz.underlying174
     have DK : (Tryz.prog.info? 174).map (·.size) = some (aa r).length := hi3 R16.out.len
     have RF : (Tryz.prog.info? 174).map (·.size) = some (aa cur).length := hi3 c16.len
     have RD : (Tryz.prog.info? 174).map (·.size) = some (aa jr).length := hi3 j16.len
     have J7 : (aa jr).length = 32 := by rw [az, j16.len]
     have Gq := pZ jr
     clear J9 c16 Pz j16 PD
     go_cut [12] from 67 to 75 (fun a12 wx => ∃ g, a12 = .pointer (some ⟨g, 0, none⟩) ∧ Y.heap.size ≤ g ∧ aN wx g 174 jr ∧ Below Y.heap.size Y wx)
     case first =>
      refine wp_region_held_drew (S := fun w' => (∀ b o, b < Y.heap.size → w'.cell? ⟨b, o, none⟩ = Y.cell? ⟨b, o, none⟩) ∧ w'.rangeAt b10 0 (aa r) ∧ w'.rangeAt ib (tn * 32) (aa cur) ∧ Below Y.heap.size Y w') agP ?_ (fun hHeld => ?_)
      ·exact rK l10 y4 lu oQ (by (repeat (first | (with_reducible assumption) | (with_reducible exact Below.refl _ _) | (with_reducible refine Below.drew ?_) | (with_reducible refine Below.alloc ?_ ag8 _) | (with_reducible refine Below.jo ?_ (by first | exact Nat.le_refl _ | omega | (simp; done) | (simp; omega)) _ _))))
      refine wpAnyH_take (i := 0) (oi := _) (v := ?_) rfl agP agP agP (fun _ _ _ h => h) (Or.inl ⟨by rfl, ?_⟩) hHeld ?_
      rotate_left
      ·intro w hSw
       (try dsimp only at hSw)
       go_simp
       (try with_reducible rfl)
      (try simp only [ahN, ahO, ahP, Act.put, ahQ, ahR, ahS])
      refine wpAnyH_take (i := 1) (oi := _) (v := ?_) rfl agP agP agP (fun _ _ _ h => h) (Or.inl ⟨by rfl, ?_⟩) hHeld ?_
      rotate_left
      ·intro w hSw
       (try dsimp only at hSw)
       go_simp
       (try with_reducible rfl)
      (try simp only [ahN, ahO, ahP, Act.put, ahQ, ahR, ahS])
      refine wpAnyH_take (i := 2) (oi := _) (v := ?_) rfl agP agP agP (fun _ _ _ h => h) (Or.inl ⟨by rfl, ?_⟩) hHeld ?_
      rotate_left
      ·intro w hSw
       (try dsimp only at hSw)
       go_simp
       (try with_reducible rfl)
      (try simp only [ahN, ahO, ahP, Act.put, ahQ, ahR, ahS])
      refine wpAnyH_take (i := 3) (oi := _) (v := ?_) rfl agP agP agP (fun _ _ _ h => h) (Or.inl ⟨by rfl, ?_⟩) hHeld ?_
      rotate_left
      ·intro w hSw
       (try dsimp only at hSw)
       go_simp
       (try with_reducible rfl)
      (try simp only [ahN, ahO, ahP, Act.put, ahQ, ahR, ahS])
      refine wpAnyH_take (i := 4) (oi := _) (v := ?_) rfl agP agP agP (fun _ _ _ h => h) (Or.inl ⟨by rfl, ?_⟩) hHeld ?_
      rotate_left
      ·intro w hSw
       (try dsimp only at hSw)
       go_simp
       (try with_reducible rfl)
      (try simp only [ahN, ahO, ahP, Act.put, ahQ, ahR, ahS])
      refine wpAnyH_take (i := 5) (oi := _) (v := ?_) rfl agP agP agP (fun _ _ _ h => h) (Or.inl ⟨by rfl, ?_⟩) hHeld ?_
      rotate_left
      ·intro w hSw
       (try dsimp only at hSw)
       go_simp
       (try with_reducible rfl)
      (try simp only [ahN, ahO, ahP, Act.put, ahQ, ahR, ahS])
      refine wpAnyH_take (i := 6) (oi := _) (v := _) rfl agP agP agP (fun _ _ _ h => h) (yieldsIf_load_mid (by rfl) _ _ rfl _ _ rfl (aa cur) _ (fun w hSw => hSw.2.2.1) Gh rfl RF) hHeld ?_
      (try simp only [ahN, ahO, ahP, Act.put, ahQ, ahR, ahS])
      refine wpAnyH_take (i := 7) (oi := _) (v := _) rfl agP agP agP (fun _ _ _ h => h) (yieldsIf_load_mid (by rfl) _ _ rfl _ _ rfl (aa r) _ (fun w hSw => hSw.2.1) Gh rfl DK) hHeld ?_
      (try simp only [ahN, ahO, ahP, Act.put, ahQ, ahR, ahS])
      have L0 : (aa jr).toArray.size = 32 := by rw [List.size_toArray]; exact J7
      have RB : (Tryz.prog.info? 174).map (·.size) = some (aa jr).toArray.size := by rw [List.size_toArray]; exact RD
      refine wpAnyH_ready (rs := [8, 9]) agP agT ?_
      refine AllReadyH.cons (o := _) rfl (fun K hK => ?_) ?_
      ·go_simp
       go_at_call 104
       refine (M4.out _).mono ?_
       rintro e w3 ⟨rfl, hb3⟩
       have hk3 : Below Y.heap.size Y w3 := Below.trans (Below.drew (Below.refl _ _)) (Below.mono hb3 (Nat.le_refl _))
       refine hK.out _ _ (rK l10 y4 lu oQ hk3) (fun hHeld => ?_)
       clear hK K
       (try simp only [ahN, ahO, ahP, Act.put, ahQ, ahR, ahS])
       refine wpAnyH_ready (rs := [9]) agP agT ?_
       refine AllReadyH.cons (o := _) rfl (fun K hK => ?_) AllReadyH.nil
       go_simp
       refine hK.out _ _ (rK l10 y4 lu oQ (hk3.alloc hk3.size _)) (fun hHeld => ?_)
       clear hK K
       (try simp only [ahN, ahO, ahP, Act.put, ahQ, ahR, ahS])
       refine wpAnyH_ready (rs := [10]) agP agT ?_
       refine AllReadyH.cons (o := _) rfl (fun K hK => ?_) AllReadyH.nil
       rw [if_pos (by rfl)]
       refine wp_store_mid _ _ _ rfl _ _ (aa jr).toArray rfl rfl (by rw [L0]; exact LZ w3) RB (all_oneCell_toArray Gq) ?_
       refine hK.out _ _ (rK l10 y4 lu oQ (Below.jo (hk3.alloc hk3.size _) hk3.size _ _)) (fun hHeld => ?_)
       clear hK K
       (try simp only [ahN, ahO, ahP, Act.put, ahQ, ahR, ahS])
       refine wpAnyH_done agP ?_ _
       go_wp2_with fail
       go_meet
       case rel => exact ⟨_, rfl, hk3.size, BR (z := aA) (heap_alloc_new _ _) aF Ip.out.len, Below.jo (hk3.alloc hk3.size _) hk3.size _ _⟩
      refine AllReadyH.cons (o := _) rfl (fun K hK => ?_) AllReadyH.nil
      go_simp
      have hk2 : Below Y.heap.size Y (Y.drew.alloc (.cells ahV.toArray 174)) := (Below.drew (Below.refl _ _)).alloc (Nat.le_refl _) _
      refine hK.out _ _ (rK l10 y4 lu oQ hk2) (fun hHeld => ?_)
      clear hK K
      (try simp only [ahN, ahO, ahP, Act.put, ahQ, ahR, ahS])
      refine wpAnyH_ready (rs := [8]) agP agT ?_
      refine AllReadyH.cons (o := _) rfl (fun K hK => ?_) AllReadyH.nil
      go_simp
      go_at_call 104
      refine (M4.out _).mono ?_
      rintro e w3 ⟨rfl, hb3⟩
      have hk3 : Below Y.heap.size Y w3 := hk2.trans (hb3.mono hk2.size)
      have hz3 : aN w3 Y.heap.size 174 aA := (hb3.block _ agT).trans (heap_alloc_new Y.drew _)
      refine hK.out _ _ (rK l10 y4 lu oQ hk3) (fun hHeld => ?_)
      clear hK K
      (try simp only [ahN, ahO, ahP, Act.put, ahQ, ahR, ahS])
      refine wpAnyH_ready (rs := [10]) agP agT ?_
      refine AllReadyH.cons (o := _) rfl (fun K hK => ?_) AllReadyH.nil
      rw [if_pos (by rfl)]
      refine wp_store_mid _ _ _ rfl _ _ (aa jr).toArray rfl rfl (by rw [L0]; exact CQ hz3) RB (all_oneCell_toArray Gq) ?_
      refine hK.out _ _ (rK l10 y4 lu oQ (Below.jo hk3 (Nat.le_refl _) _ _)) (fun hHeld => ?_)
      clear hK K
      (try simp only [ahN, ahO, ahP, Act.put, ahQ, ahR, ahS])
      refine wpAnyH_done agP ?_ _
      go_wp2_with fail
      go_meet
      case rel => exact ⟨_, rfl, Nat.le_refl _, BR hz3 aF Ip.out.len, Below.jo hk3 (Nat.le_refl _) _ _⟩
     obtain ⟨g2, rfl, hg2, kg2, bg2⟩ := hcut
     obtain ⟨W4, UE⟩ : ∃ W4 : World, W4 = wc := ⟨_, rfl⟩
     subst UE
     clear lu oQ LZ Gh DK RF RD J7 Gq
     have Ud := ahM (wL.out.below bg2)
     obtain ⟨q1, q2, q3, q4, q5⟩ := Ud.out.lt
     obtain ⟨-, -, p2, p3, p4⟩ := Ud.out.cells
     rw [HN.out] at p2 p3 p4
     have oQ := Ud.out.mo (t := tn) ag3
     rw [IV.out] at oQ
     have KG := ahM kg2
     have BG := ahM bg2
     have Ce := ahM oQ
     have XZ := ahM (show ∀ w', (∃ x : Ext W4, w' = x.w) → w'.rangeAt g2 0 (aa jr) from by rintro _ ⟨x, rfl⟩; exact (KG.out.keep x.h).range)
     have XY := ahM (show ∀ w', (∃ x : Ext W4, w' = x.w) → w'.rangeAt ib (tn * 32) (aa cur) from by rintro _ ⟨x, rfl⟩; exact fun j v hv => (x.h.cell (p := ⟨ib, tn * 32 + j, none⟩) q4).trans (Ce.out j v hv))
     clear kg2 bg2 oQ v2 v3 v4 v5 Zn
     go_upto_region 14 with fail
     by_cases EK : jr = cur
     ·have heq : ∀ w, (binOp .eql 174 (.agg (aa jr).toArray) (.agg (aa cur).toArray)).run Tryz.prog w = .ok (.bool true) w := fun w => by
       have := Bv Ip.out.len Pc.out.len w
       rwa [show decide (jr = cur) = true from decide_eq_true EK] at this
      have HE := ahM (show eu sj.1 tn (some r) = (sj.1, false) by
       unfold eu
       simp only
       rw [if_neg (by rw [wJ.out]; simp), if_pos (by rw [IV.out, HJ.out]; exact EK)])
      clear EK
      refine aj agP agP ?_
      repeat (first | (refine dD ag1 _ _ rfl _ _ rfl (aa jr) _ XZ.out Tryz.underlying174 rfl (hi3 Ip.out.len) ?_; (try simp only [ahN, ahO, ahP, Act.put, ahQ, ahR, ahS])) | (refine dD ag1 _ _ rfl _ _ rfl (aa cur) _ XY.out Tryz.underlying174 rfl (hi3 Pc.out.len) ?_; (try simp only [ahN, ahO, ahP, Act.put, ahQ, ahR, ahS])) | (go_big_quiet_step (fail)))
      refine wpQuiet_nil ?_
      rintro _ ⟨x2, rfl⟩
      go_wp2_with fail
      go_roundw
      case rel =>
       have bb : Below wr.heap.size wr x2.w := BY.out.trans ((BG.out.trans (x2.h.mono BG.out.size)).mono BY.out.size)
       refine ⟨j + 1, by omega, by go_num, ?_, ?_, O5.out.trans (Fr.of bb), KB.out.keep bb⟩
       ·rw [HST.out, HE.out]; simp
       ·rw [HST.out, HE.out]; exact IX.out.below bb
      case measure => simp [intOf]; omega
     ·have heq : ∀ w, (binOp .eql 174 (.agg (aa jr).toArray) (.agg (aa cur).toArray)).run Tryz.prog w = .ok (.bool false) w := fun w => by
       have := Bv Ip.out.len Pc.out.len w
       rwa [show decide (jr = cur) = false from decide_eq_false EK] at this
      have Cg := ahM (show bK (sj.1.bu.getD tn []) r ≠ sj.1.bu.getD tn [] by rw [IV.out, HJ.out]; exact EK)
      clear EK
      refine aj agP agP ?_
      repeat (first | (refine dD ag1 _ _ rfl _ _ rfl (aa jr) _ XZ.out Tryz.underlying174 rfl (hi3 Ip.out.len) ?_; (try simp only [ahN, ahO, ahP, Act.put, ahQ, ahR, ahS])) | (refine dD ag1 _ _ rfl _ _ rfl (aa cur) _ XY.out Tryz.underlying174 rfl (hi3 Pc.out.len) ?_; (try simp only [ahN, ahO, ahP, Act.put, ahQ, ahR, ahS])) | (go_big_quiet_step (fail)))
      refine wpQuiet_nil ?_
      rintro _ ⟨x2, rfl⟩
      obtain ⟨p6, Zr⟩ := Ud.out.tR (t := tn) ag3
      have Gj := Ud.out.p8.tR (t := tn) ag3
      obtain ⟨rp, Px⟩ : ∃ rp, sj.1.rep.getD tn 0 = rp := ⟨_, rfl⟩
      rw [Px] at p6 Gj
      have yS := ahM Px
      have adm : rp ≤ 70000000 := by rw [HN.out] at Gj; omega
      have adl : 0 ≤ rp := Gj.1
      have wrp : IntKind.i64.wrap (rp + 1) = rp + 1 := IntWalk.i64_in _ agO
      clear Px Gj
      by_cases hge : 2 ≤ rp
      ·have XC : decide (2 ≤ rp) = true := decide_eq_true hge
       obtain ⟨nr, J3⟩ : ∃ nr, List.zipWith aL cur jr = nr := ⟨_, rfl⟩
       have n16 : Go.Proofs.YtlmgkipmfgijiaaGreatDoor.R16 nr := by rw [← J3]; exact Pc.out.wO Ip.out
       have hcw := fun W => ja 106 aL (fun _ _ => by kernel_rfl) Cp cur jr Pc.out.len Ip.out.len W
       rw [J3] at hcw
       have TU := ahM hcw
       have Lf := ahM n16
       have Yw := ahM (show (if 2 ≤ sj.1.rep.getD tn 0 then dV (sj.1.bu.getD tn []) (bK (sj.1.bu.getD tn []) r) else bK (sj.1.bu.getD tn []) r) = nr by rw [yS.out, if_pos hge, IV.out, HJ.out]; exact J3)
       clear hcw n16 J3 hge
       go_upto_region 16 with fail
       refine cQ 9 agP agP ?_
       simp only [ahT, List.take_zero, ahU, List.drop_zero]
       repeat (first | (refine dD ag1 _ _ rfl _ _ rfl (aa jr) _ XZ.out Tryz.underlying174 rfl (hi3 Ip.out.len) ?_; (try simp only [ahN, ahO, ahP, Act.put, ahQ, ahR, ahS])) | (refine dD ag1 _ _ rfl _ _ rfl (aa cur) _ XY.out Tryz.underlying174 rfl (hi3 Pc.out.len) ?_; (try simp only [ahN, ahO, ahP, Act.put, ahQ, ahR, ahS])) | (go_big_quiet_step (exact Calls.ax (TU.out _))))
       refine wpQuiet_nil ?_
       rintro _ ⟨x3, rfl⟩
       go_upto_region 17 with (refine wpList_store_row rfl 174 (.tmp 12) (.tmp 101) rfl g2 (aa nr).toArray rfl rfl 174 _ (KG.out.keep x3.h) (hi4 Lf.out.len) (hi6 Lf.out.len Ip.out.len) (ay nr) ?_)
       obtain ⟨Z1, Kf⟩ : ∃ Z1, x3.w.setRow g2 (aa nr).toArray = Z1 := ⟨_, rfl⟩
       rw [Kf]
       (try simp only [Act.put])
       have Oz : Below Y.heap.size Y Z1 := Kf ▸ below_setRow (BG.out.trans (x3.h.mono BG.out.size)) hg2 _
       have Nv : aN Z1 g2 174 nr := Kf ▸ aN.row (KG.out.keep x3.h)
       clear Kf heq XC
       have Iw := ahM (wL.out.below Oz)
       obtain ⟨r1, r2, r3, r4, r5⟩ := Iw.out.lt
       obtain ⟨-, -, -, s3, s4⟩ := Iw.out.cells
       rw [HN.out] at s3 s4
       have X0 := ahM Nv
       have Uh := ahM Oz
       have lg2 : g2 < Z1.heap.size := Nv.lt
       have XX := ahM (show ∀ w', (∃ x : Ext Z1, w' = x.w) → w'.rangeAt g2 0 (aa nr) from by rintro _ ⟨x, rfl⟩; exact (X0.out.keep x.h).range)
       clear Nv Oz p2 p3 p4 p6 Zr q1 q2 q3 q4 q5
       refine aI 6 agP agP ?_
       simp only [ahT, List.take_zero, ahU, List.drop_zero]
       repeat (first | (refine dD ag1 _ _ rfl _ _ rfl (aa nr) _ XX.out Tryz.underlying174 rfl (hi3 Lf.out.len) ?_; (try simp only [ahN, ahO, ahP, Act.put, ahQ, ahR, ahS])) | (go_big_quiet_step (fail)))
       refine wpQuiet_nil ?_
       rintro _ ⟨x4, rfl⟩
       have Tc := ahM (show x4.w.there ib (tn * 32) (aa nr).toArray.size by
        rw [List.size_toArray, az, Lf.out.len]
        exact ((Iw.out.below x4.h).there ag3))
       go_upto_region 18 with (refine wpList_store_mid rfl 174 (.tmp 108) (.tmp 107) rfl ib (tn * 32) (aa nr).toArray rfl rfl Tc.out (hi4 Lf.out.len) (ay nr) ?_)
       (try simp only [Act.put])
       have bx4 : Below Y.heap.size Y x4.w := Uh.out.trans (x4.h.mono Uh.out.size)
       obtain ⟨GF, Ki⟩ := wL.out.again bx4 ag3 R16.out wJ.out Cg.out
       rw [Yw.out, yS.out] at GF Ki
       obtain ⟨Z2, Ke⟩ : ∃ Z2, x4.w.setCells ib (tn * 32) (aa nr) = Z2 := ⟨_, rfl⟩
       rw [Ke] at GF Ki
       have f2 : Fr (fun k => k = ib) Z1 Z2 := Ke ▸ (Fr.of x4.h).setCells _ (.inl rfl)
       rw [show x4.w.setCells ib (tn * 32) (aa nr).toArray.toList = Z2 from Ke]
       obtain ⟨m1, m2, m3, -, -, -, m7, m8, m9⟩ := Iw.out.ne
       have t4 : Z2.cell? ⟨ab, 5, none⟩ = _ := (f2.cell 5 r1 m2).trans s4
       obtain ⟨p7, Nk⟩ := Iw.out.tR (t := tn) ag3
       rw [yS.out] at p7
       have t6 : Z2.cell? ⟨pb, tn, none⟩ = some (.int .i64 rp) := (f2.cell tn r5 (fun e => m9 e.symm)).trans p7
       have t7 : Z2.frozen? ⟨pb, tn, none⟩ = false := by
        have e := f2.block pb r5 (fun e => m9 e.symm)
        unfold World.frozen? at Nk ⊢
        rw [e]; exact Nk
       have u1 : ab < Z2.heap.size := by have := f2.size; omega
       have u5 : pb < Z2.heap.size := by have := f2.size; omega
       have Y8 := ahM GF
       have TM := ahM Ki
       have SX := ahM (KB.out.keep BY.out)
       clear Ke GF Ki f2 bx4 s3 s4 p7 Nk
       go_wp2_with fail
       go_roundw
       case rel =>
        have e2 : (eu sj.1 tn (some r)).2 = true := by unfold eu; simp only; rw [if_neg (by rw [wJ.out]; simp), if_neg Cg.out]
        refine ⟨j + 1, by omega, by go_num, ?_, ?_, (O5.out.trans (Fr.of BY.out)).trans TM.out, (TM.out.block b5 SX.out.lt ahu).trans SX.out⟩
        ·rw [HST.out, e2]; simp
        ·rw [HST.out]; exact Y8.out
       case measure => simp [intOf]; omega
      ·have XC : decide (2 ≤ rp) = false := decide_eq_false hge
       obtain ⟨nr, J3⟩ : ∃ nr, jr = nr := ⟨_, rfl⟩
       have Lf := ahM (show Go.Proofs.YtlmgkipmfgijiaaGreatDoor.R16 nr from J3 ▸ Ip.out)
       have Yw := ahM (show (if 2 ≤ sj.1.rep.getD tn 0 then dV (sj.1.bu.getD tn []) (bK (sj.1.bu.getD tn []) r) else bK (sj.1.bu.getD tn []) r) = nr by rw [yS.out, if_neg hge, IV.out, HJ.out]; exact J3)
       have Q2 : aN x2.w g2 174 nr := J3 ▸ KG.out.keep x2.h
       clear J3 hge
       go_upto_region 17 with fail
       obtain ⟨Z1, Kf⟩ : ∃ Z1, x2.w = Z1 := ⟨_, rfl⟩
       rw [Kf]
       have Oz : Below Y.heap.size Y Z1 := Kf ▸ (BG.out.trans (x2.h.mono BG.out.size))
       have Nv : aN Z1 g2 174 nr := Kf ▸ Q2
       clear Kf Q2 heq XC
       have Iw := ahM (wL.out.below Oz)
       obtain ⟨r1, r2, r3, r4, r5⟩ := Iw.out.lt
       obtain ⟨-, -, -, s3, s4⟩ := Iw.out.cells
       rw [HN.out] at s3 s4
       have X0 := ahM Nv
       have Uh := ahM Oz
       have lg2 : g2 < Z1.heap.size := Nv.lt
       have XX := ahM (show ∀ w', (∃ x : Ext Z1, w' = x.w) → w'.rangeAt g2 0 (aa nr) from by rintro _ ⟨x, rfl⟩; exact (X0.out.keep x.h).range)
       clear Nv Oz p2 p3 p4 p6 Zr q1 q2 q3 q4 q5
       refine aI 6 agP agP ?_
       simp only [ahT, List.take_zero, ahU, List.drop_zero]
       repeat (first | (refine dD ag1 _ _ rfl _ _ rfl (aa nr) _ XX.out Tryz.underlying174 rfl (hi3 Lf.out.len) ?_; (try simp only [ahN, ahO, ahP, Act.put, ahQ, ahR, ahS])) | (go_big_quiet_step (fail)))
       refine wpQuiet_nil ?_
       rintro _ ⟨x4, rfl⟩
       have Tc := ahM (show x4.w.there ib (tn * 32) (aa nr).toArray.size by
        rw [List.size_toArray, az, Lf.out.len]
        exact ((Iw.out.below x4.h).there ag3))
       go_upto_region 18 with (refine wpList_store_mid rfl 174 (.tmp 108) (.tmp 107) rfl ib (tn * 32) (aa nr).toArray rfl rfl Tc.out (hi4 Lf.out.len) (ay nr) ?_)
       (try simp only [Act.put])
       have bx4 : Below Y.heap.size Y x4.w := Uh.out.trans (x4.h.mono Uh.out.size)
       obtain ⟨GF, Ki⟩ := wL.out.again bx4 ag3 R16.out wJ.out Cg.out
       rw [Yw.out, yS.out] at GF Ki
       obtain ⟨Z2, Ke⟩ : ∃ Z2, x4.w.setCells ib (tn * 32) (aa nr) = Z2 := ⟨_, rfl⟩
       rw [Ke] at GF Ki
       have f2 : Fr (fun k => k = ib) Z1 Z2 := Ke ▸ (Fr.of x4.h).setCells _ (.inl rfl)
       rw [show x4.w.setCells ib (tn * 32) (aa nr).toArray.toList = Z2 from Ke]
       obtain ⟨m1, m2, m3, -, -, -, m7, m8, m9⟩ := Iw.out.ne
       have t4 : Z2.cell? ⟨ab, 5, none⟩ = _ := (f2.cell 5 r1 m2).trans s4
       obtain ⟨p7, Nk⟩ := Iw.out.tR (t := tn) ag3
       rw [yS.out] at p7
       have t6 : Z2.cell? ⟨pb, tn, none⟩ = some (.int .i64 rp) := (f2.cell tn r5 (fun e => m9 e.symm)).trans p7
       have t7 : Z2.frozen? ⟨pb, tn, none⟩ = false := by
        have e := f2.block pb r5 (fun e => m9 e.symm)
        unfold World.frozen? at Nk ⊢
        rw [e]; exact Nk
       have u1 : ab < Z2.heap.size := by have := f2.size; omega
       have u5 : pb < Z2.heap.size := by have := f2.size; omega
       have Y8 := ahM GF
       have TM := ahM Ki
       have SX := ahM (KB.out.keep BY.out)
       clear Ke GF Ki f2 bx4 s3 s4 p7 Nk
       go_wp2_with fail
       go_roundw
       case rel =>
        have e2 : (eu sj.1 tn (some r)).2 = true := by unfold eu; simp only; rw [if_neg (by rw [wJ.out]; simp), if_neg Cg.out]
        refine ⟨j + 1, by omega, by go_num, ?_, ?_, (O5.out.trans (Fr.of BY.out)).trans TM.out, (TM.out.block b5 SX.out.lt ahu).trans SX.out⟩
        ·rw [HST.out, e2]; simp
        ·rw [HST.out]; exact Y8.out
       case measure => simp [intOf]; omega
  ·obtain rfl : j = u := by omega
   have dl : decide ((j : Int) < (j : Int)) = false := by simp
   go_wp2_with fail
   go_ret
   have e := HVR.out
   rw [HU.out] at e
   rw [e]
   exact ⟨rfl, PR, O5.out⟩
end
section
open Go.RowKit
def aR (cd : Nat → Int) (G : List aZ) : List AB := G.map fun x => ⟨codeFrom cd x.lo (x.hi - x.lo).toNat, x.nx⟩
structure Qj (n : Nat) (cd : Nat → Int) (G : List aZ) (x : aZ) : Prop where
 lo : 0 ≤ x.lo
 lt : x.lo < x.hi
 ug : x.nx.length ≤ 1000
 nx : ∀ t ∈ x.nx, 0 ≤ t ∧ t < (G.length : Int)
 Mq : ∀ a : Nat, x.lo ≤ (a : Int) → (a : Int) < x.hi → a < n ∧ (cg (cd a)).2 = 0 ∧ 0 ≤ (au cd (a : Int)).op
theorem ep (cd : Nat → Int) (lo : Int) (m : Nat) : (codeFrom cd lo m).length = m := by simp [codeFrom]
theorem pz (cd : Nat → Int) (G : List aZ) : (aR cd G).length = G.length := by simp [aR]
theorem oh {cd : Nat → Int} {G : List aZ} {k : Nat} {b : AB} (h : (aR cd G)[k]? = some b) : ∃ x, G[k]? = some x ∧ b = ⟨codeFrom cd x.lo (x.hi - x.lo).toNat, x.nx⟩ := by
 unfold aR at h
 rw [List.getElem?_map] at h
 cases hx : G[k]? with
 | none => rw [hx] at h; cases h
 | some x => rw [hx] at h; cases h; exact ⟨x, rfl, rfl⟩
theorem Qj.XS {n : Nat} {cd : Nat → Int} {G : List aZ} {x : aZ} (h : Qj n cd G x) : Zl G.length ⟨codeFrom cd x.lo (x.hi - x.lo).toNat, x.nx⟩ := by
 have hm : 0 < (x.hi - x.lo).toNat := by have := h.lt; omega
 have vE : ∀ i ∈ codeFrom cd x.lo (x.hi - x.lo).toNat, 0 ≤ i.op := fun i hi => by
  unfold codeFrom at hi
  obtain ⟨j, hj, rfl⟩ := List.mem_map.1 hi
  have hj := List.mem_range.1 hj
  have h0 := h.lo
  have := (h.Mq (x.lo.toNat + j) agO agO).2.2
  rwa [show ((x.lo.toNat + j : Nat) : Int) = x.lo + (j : Int) by omega] at this
 have hne : codeFrom cd x.lo (x.hi - x.lo).toNat ≠ [] := by
  intro e
  have := ep cd x.lo (x.hi - x.lo).toNat
  rw [e] at this
  simp at this
  omega
 refine ⟨⟨⟨vE, h.nx⟩, ?_, vE⟩, hne, h.ug, h.nx⟩
 unfold AB.last
 have hl : (codeFrom cd x.lo (x.hi - x.lo).toNat).length - 1 < (codeFrom cd x.lo (x.hi - x.lo).toNat).length := by rw [ep]; omega
 have e : (codeFrom cd x.lo (x.hi - x.lo).toNat).getD ((codeFrom cd x.lo (x.hi - x.lo).toNat).length - 1) ⟨0, 0, 0, 0, 0⟩ = (codeFrom cd x.lo (x.hi - x.lo).toNat)[(codeFrom cd x.lo (x.hi - x.lo).toNat).length - 1] := by simp [List.getD, List.getElem?_eq_getElem hl]
 show 0 ≤ ((codeFrom cd x.lo (x.hi - x.lo).toNat).getD ((codeFrom cd x.lo (x.hi - x.lo).toNat).length - 1) ⟨0, 0, 0, 0, 0⟩).op
 rw [e]
 exact vE _ (List.getElem_mem _)
theorem LR {X w' : World} (hf : Below X.heap.size X w') : (∀ b o, b < X.heap.size → w'.cell? ⟨b, o, none⟩ = X.cell? ⟨b, o, none⟩) ∧ Below X.heap.size X w' := ⟨fun b o hb => hf.cell (p := ⟨b, o, none⟩) hb, hf⟩
theorem rZ (w : World) (a b c d e : Value) (t : TypeId) : ∀ j u, [a, b, c, d, e][j]? = some u → (w.alloc (.cells #[a, b, c, d, e] t)).cell? ((⟨w.heap.size, 0, none⟩ : Addr).add j) = some u := by
 intro j u h
 have e : (⟨w.heap.size, 0, none⟩ : Addr).add j = ⟨w.heap.size, j, none⟩ := by cases j <;> simp [Addr.add]
 rw [e]
 unfold World.cell?
 rw [heap_alloc_new]
 simpa using h
theorem QE {w : World} {rb k : Nat} {T : TypeId} (h : w.heap[rb]? = some (.cells ((List.replicate k false).map Value.bool).toArray T (0, 0))) (hk : 0 < k) : w.cell? ⟨rb, 0, none⟩ = some (.bool false) ∧ w.frozen? ⟨rb, 0, none⟩ = false := by
 constructor
 ·unfold World.cell?
  simp only [h]
  rw [List.getElem?_toArray, List.getElem?_map, List.getElem?_replicate, if_pos hk]
  rfl
 ·simp [World.frozen?, h]
def SU (B : Nat) (rv iv dv : Value) : Prop := ∀ q, (rv.ownBlock = some q ∨ iv.ownBlock = some q ∨ dv.ownBlock = some q) → B ≤ q
def eA (f : Nat → List Ins) (k : Nat) (l : List Ins) : Nat → List Ins := fun i => if i < k then f i else if i = k then l else []
theorem uI (f : Nat → List Ins) : eA f 0 [] = fun _ => [] := by funext i; simp [eA]
theorem fN (f : Nat → List Ins) (k : Nat) (l : List Ins) : eA f k l k = l := by unfold eA; rw [if_neg agO, if_pos rfl]
theorem yw (f : Nat → List Ins) (k : Nat) (l l' : List Ins) : upd (eA f k l) k l' = eA f k l' := by
 funext i
 unfold upd eA
 by_cases h : i = k
 ·rw [if_pos h, if_neg agO, if_pos h]
 ·rw [if_neg h, if_neg h, if_neg h]
theorem uJ (f : Nat → List Ins) (k : Nat) : eA f k (f k) = eA f (k + 1) [] := by
 funext i
 unfold eA
 by_cases h1 : i < k
 ·rw [if_pos h1, if_pos agO]
 ·rw [if_neg h1]
  by_cases h2 : i = k
  ·rw [if_pos h2, if_pos agO, h2]
  ·rw [if_neg h2, if_neg agO]
   split <;> rfl
def cN (cd : Nat → Int) (G : List aZ) (k : Nat) : List Ins := codeFrom cd (G.getD k ⟨0, 0, []⟩).lo ((G.getD k ⟨0, 0, []⟩).hi - (G.getD k ⟨0, 0, []⟩).lo).toNat
theorem Gd : (Tryz.prog.info? 67).map (fun i => (i.zero, i.size, i.bytes)) = some (some (.agg #[.int .u8 0, .int .i64 0, .int .i64 0, .int .i64 0, .int .i64 0]), 5, 40) := by kernel_rfl
theorem Ge : (Tryz.prog.info? 4).map (fun i => (i.zero, i.size, i.bytes)) = some (some (.bool false), 1, 1) := by kernel_rfl
theorem NC : (Tryz.prog.info? 3).map (fun i => (i.zero, i.size, i.bytes)) = some (some (.int .i64 0), 1, 8) := by kernel_rfl
theorem Gb : (Tryz.prog.info? 144).map (fun i => (i.zero, i.size, i.bytes)) = some (some (.slice none 0 0), 1, 24) := by kernel_rfl
theorem NB : (Tryz.prog.info? 174).map (fun i => (i.zero, i.size, i.bytes)) = some (some (.agg (aa aA).toArray), 32, 128) := by kernel_rfl
def qK : Prop := ∀ (cv ev bv pv : Value) (sh lk : Int) (n : Nat) (cd : Nat → Int) (G : List aZ) (P : List (List Int)) (w : World) (T : gL w) (HW : Words w cv n cd) (HG : fF w bv G) (HP : l9 w pv P) (hv : cm G P) (hg0 : 0 < G.length) (hg1 : G.length ≤ 1000) (hok : ∀ x ∈ G, Qj n cd G x),
  Calls Tryz.prog 52 #[.agg #[cv, ev, .int .i64 sh, .int .i64 lk], .agg #[bv, pv]] w fun e w' => (∃ s rv iv dv, Ends (aR cd G) (cF G.length) s ∧ e = .returned (.tuple #[.agg #[rv, iv, dv], .int .i64 0]) ∧ sH w' rv iv s.reach s.bu ∧ OL w' dv (fC (aR cd G) s G.length) ∧ SU w.heap.size rv iv dv) ∧ Below w.heap.size w w'
end
end Go.Proofs.YtlmgkipmfgijiaaGreatDoor
