/-
 What is proved here: what holds of the final state of an analysis (plain).
-/
import Derived.Test.YtebklpnkcicpjaaDoorFaMono
namespace Go.Proofs.YtebklpnkcicpjaaDoor
open Go.RowKit
set_option linter.unusedVariables false
set_option linter.unusedSimpArgs false

def inAt (s : AS) (b : Nat) : RG := s.inn.getD b []
def QuietE (last : Ins) (nx : List Int) (aft : RG) (s : AS) (j : Nat) : Prop :=
 edgeR last nx.length j aft = none ∨ ∃ r, edgeR last nx.length j aft = some r ∧ s.reach.getD (nx.getD j 0).toNat false = true ∧ joinR (inAt s (nx.getD j 0).toNat) r = inAt s (nx.getD j 0).toNat
theorem stepE_false {s : AS} {t : Nat} {o : Option RG} (h : (stepE s t o).2 = false) : (stepE s t o).1 = s ∧ (o = none ∨ ∃ r, o = some r ∧ s.reach.getD t false = true ∧ joinR (inAt s t) r = inAt s t) := by
 cases o with
 | none => exact ⟨rfl, .inl rfl⟩
 | some r =>
  unfold stepE at h ⊢
  simp only at h ⊢
  split at h
  ·cases h
  ·rename_i h1
   rw [if_neg h1]
   split at h
   ·rename_i h2
    rw [if_pos h2]
    exact ⟨rfl, .inr ⟨r, rfl, by simpa using h1, h2⟩⟩
   ·cases h
theorem visK_false {last : Ins} {nx : List Int} {aft : RG} {s : AS} : ∀ {k : Nat}, (visK last nx aft s k).2 = false → (visK last nx aft s k).1 = s ∧ ∀ j, j < k → QuietE last nx aft s j
 | 0, _ => ⟨rfl, fun j hj => by omega⟩
 | k + 1, h => by
  simp only [visK, Bool.or_eq_false_iff] at h ⊢
  obtain ⟨e, q⟩ := visK_false h.1
  have h2 := h.2
  rw [e] at h2 ⊢
  obtain ⟨e2, q2⟩ := stepE_false h2
  refine ⟨e2, fun j hj => ?_⟩
  by_cases hjk : j < k
  ·exact q j hjk
  ·obtain rfl : j = k := by omega
   exact q2
def QuietB (b : AB) (n : Nat) (s : AS) : Prop := runR b.code (inAt s n) = none ∨ ∃ aft, runR b.code (inAt s n) = some aft ∧ ∀ j, j < b.nx.length → QuietE b.last b.nx aft s j
theorem visR_false {b : AB} {n : Nat} {s : AS} (h : (visR b n s).2 = false) : (visR b n s).1 = s ∧ QuietB b n s := by
 unfold visR at h ⊢
 unfold QuietB inAt
 cases hr : runR b.code (s.inn.getD n []) with
 | none => simp
 | some aft =>
  rw [hr] at h
  simp only at h ⊢
  obtain ⟨e, q⟩ := visK_false h
  exact ⟨e, .inr ⟨aft, rfl, q⟩⟩
theorem passK_false {B : List AB} {s : AS} : ∀ {n : Nat}, (passK B s n).2 = false → (passK B s n).1 = s ∧ ∀ b, b < n → s.reach.getD b false = true → QuietB (B.getD b ⟨[], []⟩) b s
 | 0, _ => ⟨rfl, fun j hj => by omega⟩
 | n + 1, h => by
  simp only [passK] at h ⊢
  by_cases hr : (passK B s n).1.reach.getD n false = true
  ·rw [if_pos hr] at h ⊢
   simp only [Bool.or_eq_false_iff] at h ⊢
   obtain ⟨e, q⟩ := passK_false h.1
   have h2 := h.2
   rw [e] at h2 ⊢
   obtain ⟨e2, q2⟩ := visR_false h2
   refine ⟨e2, fun j hj hjr => ?_⟩
   by_cases hjk : j < n
   ·exact q j hjk hjr
   ·obtain rfl : j = n := by omega
    exact q2
  ·rw [if_neg hr] at h ⊢
   obtain ⟨e, q⟩ := passK_false h
   refine ⟨e, fun j hj hjr => ?_⟩
   by_cases hjk : j < n
   ·exact q j hjk hjr
   ·obtain rfl : j = n := by omega
    rw [e] at hr
    exact absurd hjr hr
theorem Ends.fixed {B : List AB} {s s' : AS} (h : Ends B s s') : ∀ b, b < B.length → s'.reach.getD b false = true → QuietB (B.getD b ⟨[], []⟩) b s' := by
 induction h with
 | done h =>
  obtain ⟨e, q⟩ := passK_false h
  rw [e]
  exact q
 | more _ _ ih => exact ih

def zeros : List Int := List.replicate 16 0
structure Fx (n : Nat) (s : AS) : Prop where
 asi : ASI n s
 z : ∀ b, b < n → rg (inAt s b) 0 = (0, 0)
 r0 : s.reach.getD 0 false = true
 c0 : InR zeros (inAt s 0)
 un : ∀ b, b < n → s.reach.getD b false = false → inAt s b = zeroR
theorem transR_0 {i : Ins} {r a : RG} (h0 : 0 ≤ i.op) (hr : R16 r) (h : transR i r = some a) : rg a 0 = rg r 0 ∧ properR r = true := by
 unfold transR at h
 split at h
 ·rename_i hv
  refine ⟨?_, hv.2⟩
  obtain ⟨⟨a0, a1⟩, _⟩ := valid_in h0 hv.1
  have key : ∀ x, rg (setRg r i.a x) 0 = rg r 0 := fun x => by
   rw [rg_setRg a0 (by rw [hr.len]; omega) _ (Int.le_refl _), if_neg (by omega)]
  (repeat' split at h) <;> first | (cases h; exact key _) | (cases h; rfl) | cases h
 ·cases h
theorem refR_0 {i : Ins} {r a : RG} {t : Bool} (h0 : 0 ≤ i.op) (hr : R16 r) (h : refR i r t = some a) : rg a 0 = rg r 0 := by
 unfold refR at h
 split at h
 ·rename_i hv
  obtain ⟨⟨a0, a1⟩, _⟩ := valid_in h0 hv.1
  have key : ∀ x, rg (setRg r i.a x) 0 = rg r 0 := fun x => by
   rw [rg_setRg a0 (by rw [hr.len]; omega) _ (Int.le_refl _), if_neg (by omega)]
  (repeat' split at h) <;> first | (cases h; exact key _) | (cases h; rfl) | cases h
 ·cases h
theorem join_0 {r m : RG} (hr : R16 r) (hm : R16 m) (h1 : rg r 0 = (0, 0)) (h2 : rg m 0 = (0, 0)) : rg (joinR r m) 0 = (0, 0) := by
 have := rg_join hr hm (k := 0) (by omega)
 rw [show ((0 : Nat) : Int) = 0 from rfl] at this
 rw [this, h1, h2]
 decide
theorem widen_0 {r m : RG} (hr : R16 r) (hm : R16 m) (h1 : rg r 0 = (0, 0)) (h2 : rg m 0 = (0, 0)) : rg (widenR r m) 0 = (0, 0) := by
 have := rg_widen hr hm (k := 0) (by omega)
 rw [show ((0 : Nat) : Int) = 0 from rfl] at this
 rw [this, h1, h2]
 decide
theorem runR_0 : ∀ {l : List Ins} {r a : RG}, (∀ i ∈ l, 0 ≤ i.op) → R16 r → runR l r = some a → rg a 0 = rg r 0
 | [], r, a, _, _, h => by cases h; rfl
 | i :: l, r, a, hl, hr, h => by
  unfold runR at h
  split at h
  ·cases h
  ·rename_i r' e
   rw [runR_0 (fun j hj => hl j (List.mem_cons_of_mem _ hj)) (transR_16 (hl i (List.mem_cons_self ..)) hr e) h]
   exact (transR_0 (hl i (List.mem_cons_self ..)) hr e).1
theorem edgeR_0 {last : Ins} {m k : Nat} {r a : RG} (h0 : 0 ≤ last.op) (hr : R16 r) (hz : rg r 0 = (0, 0)) (h : edgeR last m k r = some a) : rg a 0 = (0, 0) := by
 unfold edgeR at h
 split at h
 ·cases h; exact hz
 split at h
 ·rw [refR_0 h0 hr h]; exact hz
 ·split at h
  ·rw [refR_0 h0 hr h]; exact hz
  ·rename_i e _
   cases h
   rw [refR_0 h0 hr (by assumption)]; exact hz
  ·rename_i e1 e2
   cases h
   exact join_0 (refR_16 hr e1) (refR_16 hr e2) (by rw [refR_0 h0 hr e1]; exact hz) (by rw [refR_0 h0 hr e2]; exact hz)
theorem widen_sub {x y : Int × Int} (wx : W32 x.1 ∧ W32 x.2) (h : Sub x y) : Sub x (widenI x y) := by
 unfold W32 at wx
 unfold widenI emp Sub at *
 by_cases h1 : x.2 < x.1
 ·exact .inl h1
 ·by_cases h2 : y.2 < y.1
  ·simp [h1, h2]
  ·simp only [h1, h2, decide_false, Bool.false_eq_true, if_false]
   right
   constructor <;> split <;> omega
def newR (s : AS) (t : Nat) (r : RG) : RG := if 2 ≤ s.rep.getD t 0 then widenR (s.inn.getD t []) (joinR (s.inn.getD t []) r) else joinR (s.inn.getD t []) r
theorem newR_sub {n : Nat} {s : AS} (h : ASI n s) {t : Nat} (ht : t < n) {r : RG} (hr : R16 r) : R16 (newR s t r) ∧ SubR (s.inn.getD t []) (newR s t r) ∧ (rg (s.inn.getD t []) 0 = (0, 0) → rg r 0 = (0, 0) → rg (newR s t r) 0 = (0, 0)) := by
 have hg := h.get ht
 have hj := hg.join hr
 unfold newR
 split
 ·refine ⟨hg.widen hj, SubR.of (fun k hk => ?_) hg (hg.widen hj), fun e1 e2 => widen_0 hg hj e1 (join_0 hg hr e1 e2)⟩
  rw [rg_widen hg hj hk]
  exact widen_sub (hg.at_ _) (join_sub hg hr _)
 ·exact ⟨hj, join_sub hg hr, fun e1 e2 => join_0 hg hr e1 e2⟩
theorem Fx.step {n : Nat} {s : AS} (h : Fx n s) {t : Nat} (ht : t < n) {o : Option RG} (ho : ∀ r, o = some r → R16 r ∧ rg r 0 = (0, 0)) : Fx n (stepE s t o).1 := by
 have ha := (stepE_asi h.asi ht o (fun r hr => (ho r hr).1)).1
 cases o with
 | none => exact h
 | some r =>
  obtain ⟨h16, hz⟩ := ho r rfl
  unfold stepE at ha ⊢
  simp only at ha ⊢
  have l1 := h.asi.l1
  have l2 := h.asi.l2
  by_cases h1 : s.reach.getD t false = false
  ·rw [if_pos h1] at ha ⊢
   have ht0 : t ≠ 0 := fun e => by rw [e, h.r0] at h1; cases h1
   refine ⟨ha, fun b hb => ?_, ?_, ?_, fun b hb hrb => ?_⟩
   ·unfold inAt
    simp only
    by_cases e : b = t
    ·subst e; rw [getD_set_same (by omega)]; exact hz
    ·rw [getD_set_other e]; exact h.z b hb
   ·simp only; rw [getD_set_other (Ne.symm ht0)]; exact h.r0
   ·unfold inAt; simp only; rw [getD_set_other (Ne.symm ht0)]; exact h.c0
   ·unfold inAt
    simp only at hrb ⊢
    by_cases e : b = t
    ·subst e; rw [getD_set_same (by omega)] at hrb; cases hrb
    ·rw [getD_set_other e] at hrb ⊢; exact h.un b hb hrb
  ·rw [if_neg h1] at ha ⊢
   by_cases h2 : joinR (s.inn.getD t []) r = s.inn.getD t []
   ·rw [if_pos h2]; exact h
   ·rw [if_neg h2] at ha ⊢
    obtain ⟨n1, n2, n3⟩ := newR_sub h.asi ht h16
    refine ⟨ha, fun b hb => ?_, h.r0, ?_, fun b hb hrb => ?_⟩
    ·unfold inAt
     simp only
     by_cases e : b = t
     ·subst e; rw [getD_set_same (by omega)]; exact n3 (h.z b hb) hz
     ·rw [getD_set_other e]; exact h.z b hb
    ·unfold inAt
     simp only
     by_cases e : t = 0
     ·subst e; rw [getD_set_same (by omega)]; exact h.c0.sub n2
     ·rw [getD_set_other (Ne.symm e)]; exact h.c0
    ·unfold inAt
     simp only at hrb ⊢
     by_cases e : b = t
     ·subst e; exact absurd hrb h1
     ·rw [getD_set_other e]; exact h.un b hb hrb
theorem Fx.visK {n : Nat} {last : Ins} {nx : List Int} {aft : RG} (h0 : 0 ≤ last.op) (ha : R16 aft) (hz : rg aft 0 = (0, 0)) (hnx : ∀ t ∈ nx, 0 ≤ t ∧ t < n) {s : AS} (h : Fx n s) : ∀ k, k ≤ nx.length → Fx n (visK last nx aft s k).1
 | 0, _ => h
 | k + 1, hk => by
  simp only [Go.Proofs.YtebklpnkcicpjaaDoor.visK]
  have hm : nx.getD k 0 ∈ nx := by
   rw [show nx.getD k 0 = nx[k]'(by omega) by simp [List.getD, List.getElem?_eq_getElem (show k < nx.length by omega)]]
   exact List.getElem_mem _
  have := hnx _ hm
  exact (Fx.visK h0 ha hz hnx h k (by omega)).step (by omega) (fun r hr => ⟨edgeR_16 ha hr, edgeR_0 h0 ha hz hr⟩)
structure ABf (n : Nat) (b : AB) : Prop where
 ok : ABok n b
 op : 0 ≤ b.last.op
 ops : ∀ i ∈ b.code, 0 ≤ i.op
theorem Fx.visR {n : Nat} {b : AB} (hb : ABf n b) (hnx : ∀ t ∈ b.nx, 0 ≤ t ∧ t < n) {s : AS} (h : Fx n s) {k : Nat} (hk : k < n) : Fx n (visR b k s).1 := by
 unfold Go.Proofs.YtebklpnkcicpjaaDoor.visR
 split
 ·exact h
 ·rename_i aft e
  have hg := h.asi.get hk
  exact h.visK hb.op (runR_16 hb.ops hg e) (by rw [runR_0 hb.ops hg e]; exact h.z k hk) hnx _ (Nat.le_refl _)
theorem Fx.passK {n : Nat} {B : List AB} (hB : ∀ b ∈ B, ABf n b ∧ ∀ t ∈ b.nx, 0 ≤ t ∧ t < n) (hl : B.length = n) {s : AS} (h : Fx n s) : ∀ k, k ≤ n → Fx n (passK B s k).1
 | 0, _ => h
 | k + 1, hk => by
  simp only [Go.Proofs.YtebklpnkcicpjaaDoor.passK]
  have ih := Fx.passK hB hl h k (by omega)
  split
  ·have e : B.getD k ⟨[], []⟩ = B[k]'(by omega) := by simp [List.getD, List.getElem?_eq_getElem (show k < B.length by omega)]
   have hm : B.getD k ⟨[], []⟩ ∈ B := by rw [e]; exact List.getElem_mem _
   exact ih.visR (hB _ hm).1 (hB _ hm).2 (by omega)
  ·exact ih
theorem Ends.fx {B : List AB} {s s' : AS} (hB : ∀ b ∈ B, ABf B.length b ∧ ∀ t ∈ b.nx, 0 ≤ t ∧ t < B.length) (h : Ends B s s') : Fx B.length s → Fx B.length s' := by
 induction h with
 | done _ => exact fun hs => hs.passK hB rfl _ (Nat.le_refl _)
 | more _ _ ih => exact fun hs => ih (hs.passK hB rfl _ (Nat.le_refl _))
theorem fx_start {n : Nat} (hn : 0 < n) : Fx n (startS n) := by
 have hin : ∀ b, b < n → inAt (startS n) b = zeroR := fun b hb => by simp [inAt, startS, List.getD, hb]
 refine ⟨startS_asi n, fun b hb => by rw [hin b hb]; rfl, by simp [startS, List.getD, hn], ?_, fun b hb _ => hin b hb⟩
 rw [hin 0 hn]
 intro k hk
 have h1 : ∀ k : Nat, k < 16 → rg zeroR (k : Int) = (0, 0) ∧ zeros.getD k 0 = 0 := by decide
 obtain ⟨e1, e2⟩ := h1 k hk
 rw [e1, e2]
 unfold Mem
 simp
theorem sub_of_join {x r : RG} (hx : R16 x) (hr : R16 r) (h : joinR x r = x) : SubR r x := SubR.of (fun k hk => by
 have h1 := rg_join hx hr hk
 rw [h] at h1
 rw [h1]
 exact (within_iff _ _).1 (join_right _ _)) hr hx

end Go.Proofs.YtebklpnkcicpjaaDoor


