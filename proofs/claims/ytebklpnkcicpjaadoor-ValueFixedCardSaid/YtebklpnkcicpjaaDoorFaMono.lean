/-
 What is proved here: larger registers have larger effects; a branch's outcome keeps the members (plain).
-/
import Derived.Test.YtebklpnkcicpjaaDoorFaPot2
import Derived.Test.YtebklpnkcicpjaaDoorFbIp
namespace Go.Proofs.YtebklpnkcicpjaaDoor
open Go.RowKit
set_option linter.unusedVariables false
set_option linter.unusedSimpArgs false

def SubR (r m : RG) : Prop := ∀ k : Int, Sub (rg r k) (rg m k)
theorem rg_out {r : RG} {k : Int} (h : r.length ≤ k.toNat) : rg r k = (0, 0) := by
 unfold rg
 simp [List.getD, List.getElem?_eq_none h]
theorem rg_setRg {r : RG} {k : Int} {x : Int × Int} (h0 : 0 ≤ k) (hl : k.toNat < r.length) (j : Int) (hj : 0 ≤ j) : rg (setRg r k x) j = if k ≠ 0 ∧ j = k then x else rg r j := by
 unfold setRg
 by_cases e : k = 0
 ·rw [if_pos e, if_neg (by omega)]
 ·rw [if_neg e]
  unfold rg
  by_cases e2 : j = k
  ·subst e2
   rw [if_pos ⟨e, rfl⟩]
   simp [List.getD, hl]
  ·rw [if_neg (by omega)]
   have : k.toNat ≠ j.toNat := by omega
   simp [List.getD, List.getElem?_set, this]
theorem rg_neg {r : RG} {k : Int} (h : k < 0) : rg r k = rg r 0 := by
 unfold rg
 rw [show k.toNat = 0 by omega, show (0 : Int).toNat = 0 from rfl]
theorem SubR.of {r m : RG} (h : ∀ k : Nat, k < 16 → Sub (rg r (k : Int)) (rg m (k : Int))) (hr : R16 r) (hm : R16 m) : SubR r m := fun k => by
 by_cases h1 : k < 0
 ·rw [rg_neg h1, rg_neg h1]; exact h 0 (by omega)
 ·by_cases h2 : k.toNat < 16
  ·have := h k.toNat h2
   rwa [show ((k.toNat : Nat) : Int) = k by omega] at this
  ·rw [rg_out (by rw [hr.len]; omega), rg_out (by rw [hm.len]; omega)]
   exact .inr ⟨Int.le_refl _, Int.le_refl _⟩
theorem rg_join {r m : RG} (hr : R16 r) (hm : R16 m) {k : Nat} (hk : k < 16) : rg (joinR r m) (k : Int) = joinI (rg r (k : Int)) (rg m (k : Int)) := by
 have h1 : k < r.length := by rw [hr.len]; exact hk
 have h2 : k < m.length := by rw [hm.len]; exact hk
 unfold rg joinR
 simp [List.getD, List.getElem?_zipWith, List.getElem?_eq_getElem h1, List.getElem?_eq_getElem h2]
theorem rg_widen {r m : RG} (hr : R16 r) (hm : R16 m) {k : Nat} (hk : k < 16) : rg (widenR r m) (k : Int) = widenI (rg r (k : Int)) (rg m (k : Int)) := by
 have h1 : k < r.length := by rw [hr.len]; exact hk
 have h2 : k < m.length := by rw [hm.len]; exact hk
 unfold rg widenR
 simp [List.getD, List.getElem?_zipWith, List.getElem?_eq_getElem h1, List.getElem?_eq_getElem h2]
theorem join_sub {r m : RG} (hr : R16 r) (hm : R16 m) : SubR r (joinR r m) := SubR.of (fun k hk => by
 rw [rg_join hr hm hk]
 exact (within_iff _ _).1 (join_left _ _)) hr (hr.join hm)
theorem shp_hi4 : ∀ k, k < 30 → (shpOf k).aHi ≤ 15 ∧ (shpOf k).bHi ≤ 15 ∧ (shpOf k).cHi ≤ 15 ∧ -131072 ≤ immLo k ∧ immHi k ≤ 131071 := by decide
theorem valid_in {i : Ins} (h0 : 0 ≤ i.op) (hv : validI i = true) : (0 ≤ i.a ∧ i.a ≤ 15) ∧ (0 ≤ i.b ∧ i.b ≤ 15) ∧ (0 ≤ i.c ∧ i.c ≤ 15) ∧ -131072 ≤ i.imm ∧ i.imm ≤ 131071 := by
 obtain ⟨k, g1, g2, ⟨a1, a2⟩, ⟨b1, b2⟩, ⟨c1, c2⟩, i1, i2⟩ := (validI_iff (i := i) h0).1 hv
 obtain ⟨s1, s2, s3, s4, s5⟩ := shp_hi4 k g2
 omega
theorem refl_sub (x : Int × Int) : Sub x x := .inr ⟨Int.le_refl _, Int.le_refl _⟩
def InR (v : List Int) (r : RG) : Prop := ∀ k : Nat, k < 16 → Mem (v.getD k 0) (rg r (k : Int))
theorem InR.sub {v : List Int} {r m : RG} (h : InR v r) (hs : SubR r m) : InR v m := fun k hk => by
 have h1 := h k hk
 have h2 := hs (k : Int)
 unfold Mem at *
 unfold Sub at h2
 omega
end Go.Proofs.YtebklpnkcicpjaaDoor


