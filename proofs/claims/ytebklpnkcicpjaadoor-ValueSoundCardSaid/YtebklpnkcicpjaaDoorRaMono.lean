/-
 What is proved here: larger registers have larger effects; a branch's outcome keeps the members (plain).
-/
import Derived.Test.YtebklpnkcicpjaaDoorRaPot2
import Derived.Test.YtebklpnkcicpjaaDoorRbIp
namespace Go.Proofs.YtebklpnkcicpjaaDoor
open Go.RowKit
set_option linter.unusedVariables false
set_option linter.unusedSimpArgs false

def SubR (r m : RG) : Prop := ∀ k : Int, Sub (rg r k) (rg m k)
theorem rg_out {r : RG} {k : Int} (h : r.length ≤ k.toNat) : rg r k = (0, 0) := by
 unfold rg
 simp [List.getD, List.getElem?_eq_none h]
theorem rg_setRg {r : RG} {k : Int} {x : Int × Int} (h0 : 0 ≤ k) (hl : k.toNat < r.length) (j : Int) (hj : 0 ≤ j) : rg (setRg r k x) j = if k ≠ 0 ∧ j = k then x else rg r j := by
 unfold setRg
 by_cases e : k = 0
 ·rw [if_pos e, if_neg (by omega)]
 ·rw [if_neg e]
  unfold rg
  by_cases e2 : j = k
  ·subst e2
   rw [if_pos ⟨e, rfl⟩]
   simp [List.getD, hl]
  ·rw [if_neg (by omega)]
   have : k.toNat ≠ j.toNat := by omega
   simp [List.getD, List.getElem?_set, this]
theorem rg_neg {r : RG} {k : Int} (h : k < 0) : rg r k = rg r 0 := by
 unfold rg
 rw [show k.toNat = 0 by omega, show (0 : Int).toNat = 0 from rfl]
theorem SubR.of {r m : RG} (h : ∀ k : Nat, k < 16 → Sub (rg r (k : Int)) (rg m (k : Int))) (hr : R16 r) (hm : R16 m) : SubR r m := fun k => by
 by_cases h1 : k < 0
 ·rw [rg_neg h1, rg_neg h1]; exact h 0 (by omega)
 ·by_cases h2 : k.toNat < 16
  ·have := h k.toNat h2
   rwa [show ((k.toNat : Nat) : Int) = k by omega] at this
  ·rw [rg_out (by rw [hr.len]; omega), rg_out (by rw [hm.len]; omega)]
   exact .inr ⟨Int.le_refl _, Int.le_refl _⟩
theorem proper_at {r : RG} (hr : R16 r) (hp : properR r = true) (k : Int) : (rg r k).1 ≤ (rg r k).2 := by
 unfold properR at hp
 rw [Bool.and_eq_true] at hp
 by_cases h : k.toNat < r.length
 ·have e : rg r k = r[k.toNat] := by unfold rg; simp [List.getD, List.getElem?_eq_getElem h]
  have := List.all_eq_true.1 hp.1 _ (List.getElem_mem h)
  rw [e]
  simpa using this
 ·rw [rg_out (by omega)]; simp
theorem proper_0 {r : RG} (hp : properR r = true) : rg r 0 = (0, 0) := by
 unfold properR at hp
 rw [Bool.and_eq_true] at hp
 simpa using hp.2
theorem proper_of {r : RG} (hr : R16 r) (h : ∀ k : Nat, k < 16 → (rg r (k : Int)).1 ≤ (rg r (k : Int)).2) (h0 : rg r 0 = (0, 0)) : properR r = true := by
 unfold properR
 rw [Bool.and_eq_true]
 refine ⟨List.all_eq_true.2 fun x hx => ?_, by simp [h0]⟩
 obtain ⟨i, hi, e⟩ := List.getElem_of_mem hx
 have h1 := h i (by rw [← hr.len]; exact hi)
 have e2 : rg r (i : Int) = r[i] := by unfold rg; simp [List.getD, List.getElem?_eq_getElem hi]
 rw [e2, e] at h1
 simpa using h1
theorem rg_join {r m : RG} (hr : R16 r) (hm : R16 m) {k : Nat} (hk : k < 16) : rg (joinR r m) (k : Int) = joinI (rg r (k : Int)) (rg m (k : Int)) := by
 have h1 : k < r.length := by rw [hr.len]; exact hk
 have h2 : k < m.length := by rw [hm.len]; exact hk
 unfold rg joinR
 simp [List.getD, List.getElem?_zipWith, List.getElem?_eq_getElem h1, List.getElem?_eq_getElem h2]
theorem rg_widen {r m : RG} (hr : R16 r) (hm : R16 m) {k : Nat} (hk : k < 16) : rg (widenR r m) (k : Int) = widenI (rg r (k : Int)) (rg m (k : Int)) := by
 have h1 : k < r.length := by rw [hr.len]; exact hk
 have h2 : k < m.length := by rw [hm.len]; exact hk
 unfold rg widenR
 simp [List.getD, List.getElem?_zipWith, List.getElem?_eq_getElem h1, List.getElem?_eq_getElem h2]
theorem join_sub {r m : RG} (hr : R16 r) (hm : R16 m) : SubR r (joinR r m) := SubR.of (fun k hk => by
 rw [rg_join hr hm hk]
 exact (within_iff _ _).1 (join_left _ _)) hr (hr.join hm)
theorem join_proper {r m : RG} (hr : R16 r) (hm : R16 m) (pr : properR r = true) (pm : properR m = true) : properR (joinR r m) = true := by
 refine proper_of (hr.join hm) (fun k hk => ?_) ?_
 ·rw [rg_join hr hm hk]
  have h1 := proper_at hr pr (k : Int)
  have h2 := proper_at hm pm (k : Int)
  rcases join_forms (rg r (k : Int)) (rg m (k : Int)) with h | h | h | ⟨_, _, h⟩ <;> first | omega | (rw [h]; simp only; omega)
 ·have := rg_join hr hm (k := 0) (by omega)
  rw [show ((0 : Nat) : Int) = 0 from rfl] at this
  rw [this, proper_0 pr, proper_0 pm]
  decide
theorem set_sub {r m : RG} (hr : R16 r) (hm : R16 m) (h : SubR r m) {k : Int} (h0 : 0 ≤ k) (h1 : k ≤ 15) {x y : Int × Int} (hx : W32 x.1 ∧ W32 x.2) (hy : W32 y.1 ∧ W32 y.2) (hxy : Sub x y) : SubR (setRg r k x) (setRg m k y) :=
 SubR.of (fun j hj => by
  rw [rg_setRg h0 (by rw [hr.len]; omega) _ (by omega), rg_setRg h0 (by rw [hm.len]; omega) _ (by omega)]
  split
  ·exact hxy
  ·exact h _) (hr.setRg _ hx) (hm.setRg _ hy)
theorem meet_sub {x y z : Int × Int} (h : Sub x y) : Sub (meetI x z) (meetI y z) ∧ (emp (meetI y z) = true → emp (meetI x z) = true) := by
 unfold Sub at *
 unfold emp
 rcases meet_forms x z with ⟨h1, h2⟩ | ⟨h1, h2, h3, h4⟩
 ·rw [h2]; simp
 ·rcases meet_forms y z with ⟨k1, k2⟩ | ⟨k1, k2, k3, k4⟩
  ·exfalso; omega
  ·rw [h4, k4]
   simp only [decide_eq_true_eq]
   omega
theorem without_sub {x y : Int × Int} (hx : x.1 ≤ x.2) (h : Sub x y) : Sub (withoutI x) (withoutI y) ∧ (emp (withoutI y) = true → emp (withoutI x) = true) := by
 obtain ⟨a, b⟩ := x
 obtain ⟨c, d⟩ := y
 simp only at hx
 have h' : c ≤ a ∧ b ≤ d := by rcases h with h | h; (simp only at h; omega); exact h
 unfold Sub withoutI emp
 simp only [Prod.mk.injEq, decide_eq_true_eq]
 by_cases a0 : a = 0 <;> by_cases b0 : b = 0 <;> by_cases c0 : c = 0 <;> by_cases d0 : d = 0 <;> simp [a0, b0, c0, d0] <;> omega
theorem shp_hi4 : ∀ k, k < 30 → (shpOf k).aHi ≤ 15 ∧ (shpOf k).bHi ≤ 15 ∧ (shpOf k).cHi ≤ 15 ∧ -131072 ≤ immLo k ∧ immHi k ≤ 131071 := by decide
theorem valid_in {i : Ins} (h0 : 0 ≤ i.op) (hv : validI i = true) : (0 ≤ i.a ∧ i.a ≤ 15) ∧ (0 ≤ i.b ∧ i.b ≤ 15) ∧ (0 ≤ i.c ∧ i.c ≤ 15) ∧ -131072 ≤ i.imm ∧ i.imm ≤ 131071 := by
 obtain ⟨k, g1, g2, ⟨a1, a2⟩, ⟨b1, b2⟩, ⟨c1, c2⟩, i1, i2⟩ := (validI_iff (i := i) h0).1 hv
 obtain ⟨s1, s2, s3, s4, s5⟩ := shp_hi4 k g2
 omega
theorem refl_sub (x : Int × Int) : Sub x x := .inr ⟨Int.le_refl _, Int.le_refl _⟩
theorem trans_mono {i : Ins} (h0 : 0 ≤ i.op) {r m a : RG} (hr : R16 r) (hm : R16 m) (pr : properR r = true) (pm : properR m = true) (h : SubR r m) (ha : transR i r = some a) : ∃ b, transR i m = some b ∧ SubR a b := by
 unfold transR at ha
 split at ha
 ·rename_i hv
  obtain ⟨⟨a0, a1⟩, ⟨b0, b1⟩, ⟨c0, c1⟩, i0, i1⟩ := valid_in h0 hv.1
  have wi := imm_W hv.1 h0
  unfold transR
  rw [if_pos ⟨hv.1, pm⟩]
  have app : ∀ op x y, W32 x.1 ∧ W32 x.2 → W32 y.1 ∧ W32 y.2 → ∀ x' y', W32 x'.1 ∧ W32 x'.2 → W32 y'.1 ∧ W32 y'.2 → Sub x x' → Sub y y' → SubR (setRg r i.a (applyI op x y)) (setRg m i.a (applyI op x' y')) := fun op x y wx wy x' y' wx' wy' s1 s2 =>
   set_sub hr hm h a0 a1 (apply_W wx wy) (apply_W wx' wy') (apply_sub wx wy wx' wy' s1 s2)
  have wim : W32 ((i.imm, i.imm) : Int × Int).1 ∧ W32 ((i.imm, i.imm) : Int × Int).2 := ⟨wi.1, wi.1⟩
  split at ha
  ·rename_i hop
   rw [if_pos hop]
   split at ha
   ·cases ha
   ·rename_i hz
    cases ha
    rw [if_neg ?_]
    ·exact ⟨_, rfl, app _ _ _ (hr.at_ _) (hr.at_ _) _ _ (hm.at_ _) (hm.at_ _) (h _) (h _)⟩
    ·rintro ⟨e1, e2⟩
     apply hz
     refine ⟨e1, ?_⟩
     have h1 := h i.c
     have h2 := proper_at hr pr i.c
     rw [e2] at h1
     unfold Sub at h1
     exact Prod.ext (by simp only at h1 ⊢; omega) (by simp only at h1 ⊢; omega)
  rename_i hop
  rw [if_neg hop]
  split at ha
  ·rename_i e; cases ha; rw [if_pos e]; exact ⟨_, rfl, set_sub hr hm h a0 a1 wim wim (refl_sub _)⟩
  rename_i n1
  rw [if_neg n1]
  split at ha
  ·rename_i e; cases ha; rw [if_pos e]; exact ⟨_, rfl, app _ _ _ (hr.at_ _) wim _ _ (hm.at_ _) wim (h _) (refl_sub _)⟩
  rename_i n2
  rw [if_neg n2]
  split at ha
  ·rename_i e; cases ha; rw [if_pos e]; exact ⟨_, rfl, app _ _ _ (hr.at_ _) wim _ _ (hm.at_ _) wim (h _) (refl_sub _)⟩
  rename_i n3
  rw [if_neg n3]
  split at ha
  ·rename_i e; cases ha; rw [if_pos e]; exact ⟨_, rfl, app _ _ _ (hr.at_ _) wim _ _ (hm.at_ _) wim (h _) (refl_sub _)⟩
  rename_i n4
  rw [if_neg n4]
  have fw : W32 fullI.1 ∧ W32 fullI.2 := by unfold fullI W32; simp
  split at ha
  ·rename_i e; cases ha; rw [if_pos e]; exact ⟨_, rfl, set_sub hr hm h a0 a1 fw fw (refl_sub _)⟩
  rename_i n5
  rw [if_neg n5]
  split at ha
  ·rename_i e
   rw [if_pos e]
   split at ha
   ·cases ha
   ·rename_i ne
    cases ha
    have wz : W32 ((0, i.imm - 1) : Int × Int).1 ∧ W32 ((0, i.imm - 1) : Int × Int).2 := ⟨by unfold W32; simp, wi.2⟩
    obtain ⟨s1, s2⟩ := meet_sub (z := (0, i.imm - 1)) (h i.a)
    rw [if_neg (fun hq => ne (s2 hq))]
    exact ⟨_, rfl, set_sub hr hm h a0 a1 (meet_W (hr.at_ _) wz) (meet_W (hm.at_ _) wz) s1⟩
  rename_i n6
  rw [if_neg n6]
  cases ha
  exact ⟨_, rfl, h⟩
 ·cases ha
theorem out_sub {op : Int} {t : Bool} {x y : Int × Int} (hx : x.1 ≤ x.2) (h : Sub x y) : Sub (outI op t x) (outI op t y) ∧ (emp (outI op t y) = true → emp (outI op t x) = true) := by
 unfold outI
 split
 ·exact meet_sub h
 ·exact without_sub hx h
theorem ref_mono {i : Ins} (h0 : 0 ≤ i.op) {r m a : RG} {t : Bool} (hr : R16 r) (hm : R16 m) (pr : properR r = true) (pm : properR m = true) (h : SubR r m) (ha : refR i r t = some a) : ∃ b, refR i m t = some b ∧ SubR a b := by
 unfold refR at ha
 split at ha
 ·rename_i hv
  obtain ⟨⟨a0, a1⟩, _⟩ := valid_in h0 hv.1
  unfold refR
  rw [if_pos ⟨hv.1, pm⟩]
  split at ha
  ·rename_i e
   rw [if_pos e]
   split at ha
   ·cases ha
   ·rename_i ne
    cases ha
    obtain ⟨s1, s2⟩ := out_sub (op := i.op) (t := t) (proper_at hr pr i.a) (h i.a)
    rw [if_neg (fun hq => ne (s2 hq))]
    exact ⟨_, rfl, set_sub hr hm h a0 a1 (outI_W (hr.at_ _)) (outI_W (hm.at_ _)) s1⟩
  rename_i n1
  rw [if_neg n1]
  split at ha
  ·rename_i e
   rw [if_pos e]
   split at ha
   ·rename_i e2; rw [if_pos e2]; cases ha; exact ⟨_, rfl, h⟩
   ·cases ha
  rename_i n2
  rw [if_neg n2]
  split at ha
  ·cases ha
  ·rename_i e2; rw [if_neg e2]; cases ha; exact ⟨_, rfl, h⟩
 ·cases ha
theorem near_mono {a b : Int} (h : a ≤ b) : nearI a ≤ nearI b := by unfold nearI; (repeat' split) <;> omega
theorem addr_mono {i : Ins} {r m : RG} (hr : R16 r) (hm : R16 m) (pr : properR r = true) (pm : properR m = true) (h : SubR r m) : Sub (addrR i r) (addrR i m) := by
 have e : ∀ {z : RG}, R16 z → properR z = true → emp (rg z i.b) = false := fun hz pz => by
  have := proper_at hz pz i.b
  unfold emp
  simpa using this
 unfold addrR
 rw [e hr pr, e hm pm]
 split
 ·have h1 := h i.b
  have h2 := proper_at hr pr i.b
  have h3 : (rg m i.b).1 ≤ (rg r i.b).1 ∧ (rg r i.b).2 ≤ (rg m i.b).2 := by rcases h1 with h1 | h1; omega; exact h1
  exact .inr ⟨near_mono (by omega), near_mono (by omega)⟩
 ·exact .inl (by decide)
def InR (v : List Int) (r : RG) : Prop := ∀ k : Nat, k < 16 → Mem (v.getD k 0) (rg r (k : Int))
theorem InR.sub {v : List Int} {r m : RG} (h : InR v r) (hs : SubR r m) : InR v m := fun k hk => by
 have h1 := h k hk
 have h2 := hs (k : Int)
 unfold Mem at *
 unfold Sub at h2
 omega
theorem out_in {op : Int} {v : Int} {x : Int × Int} (hv : Mem v x) : Mem v (outI op (decide (v = 0) == decide (op = 22)) x) ∧ emp (outI op (decide (v = 0) == decide (op = 22)) x) = false := by
 have key : Mem v (outI op (decide (v = 0) == decide (op = 22)) x) := by
  unfold outI
  by_cases h0 : v = 0
  ·rw [if_pos (by by_cases h : op = 22 <;> simp [h, h0])]
   have := (meet_mem x (0, 0) v).2 ⟨hv, by simp only; omega⟩
   exact this
  ·rw [if_neg (by by_cases h : op = 22 <;> simp [h, h0])]
   unfold withoutI Mem at *
   (repeat' split) <;> first | (simp_all; omega) | omega
 refine ⟨key, ?_⟩
 unfold emp Mem at *
 simpa using Int.le_trans key.1 key.2
theorem ref_in {i : Ins} (h0 : 0 ≤ i.op) {r : RG} {v : List Int} (hl : v.length = 16) (hr : R16 r) (pr : properR r = true) (hop : i.op = 22 ∨ i.op = 23) (hv : validI i = true) (hin : InR v r) : ∃ a, refR i r (decide (v.getD i.a.toNat 0 = 0) == decide (i.op = 22)) = some a ∧ InR v a := by
 obtain ⟨⟨a0, a1⟩, _⟩ := valid_in h0 hv
 have hm := hin i.a.toNat (by omega)
 rw [show ((i.a.toNat : Nat) : Int) = i.a by omega] at hm
 obtain ⟨k1, k2⟩ := out_in (op := i.op) hm
 unfold refR
 rw [if_pos ⟨hv, pr⟩, if_pos hop, if_neg (by rw [k2]; simp)]
 refine ⟨_, rfl, fun k hk => ?_⟩
 rw [rg_setRg a0 (by rw [hr.len]; omega) _ (by omega)]
 split
 ·rename_i e
  rw [show k = i.a.toNat by omega]
  exact k1
 ·exact hin k hk

end Go.Proofs.YtebklpnkcicpjaaDoor


