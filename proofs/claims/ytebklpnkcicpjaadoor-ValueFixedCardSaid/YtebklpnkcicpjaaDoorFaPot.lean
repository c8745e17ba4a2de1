/-
 What is proved here: the analysis ends: a number that each change makes smaller (plain).
-/
import Derived.Test.YtebklpnkcicpjaaDoorFaDef
namespace Go.Proofs.YtebklpnkcicpjaaDoor
open Go.RowKit
set_option linter.unusedVariables false
set_option linter.unusedSimpArgs false

def pot1 (x : Int × Int) : Nat := if x.2 < x.1 then (if x = (1, 0) then 3 else 4) else (if -2147483648 < x.1 then 1 else 0) + (if x.2 < 2147483647 then 1 else 0)
def potR (r : RG) : Nat := (r.map pot1).sum
def potB (s : AS) (k : Nat) : Nat := if s.reach.getD k false = false then 70 else (2 - (s.rep.getD k 0).toNat) + potR (s.inn.getD k [])
def potS (s : AS) (n : Nat) : Nat := ((List.range n).map (potB s)).sum
theorem pot1_le (x : Int × Int) : pot1 x ≤ 4 := by unfold pot1; split <;> split <;> (try split) <;> omega
theorem join_W {x y : Int × Int} (hx : W32 x.1 ∧ W32 x.2) (hy : W32 y.1 ∧ W32 y.2) : W32 (joinI x y).1 ∧ W32 (joinI x y).2 := by
 unfold joinI W32 at *
 split <;> split <;> first | omega | (simp only; omega)
theorem widen_W {x y : Int × Int} (hx : W32 x.1 ∧ W32 x.2) (hy : W32 y.1 ∧ W32 y.2) : W32 (widenI x y).1 ∧ W32 (widenI x y).2 := by
 unfold widenI W32 at *
 split
 ·split <;> first | omega | (simp only; omega)
 ·split
  ·exact hx
  ·simp only
   constructor <;> split <;> omega
theorem pot_join {x y : Int × Int} (hx : W32 x.1 ∧ W32 x.2) (hy : W32 y.1 ∧ W32 y.2) : pot1 (joinI x y) ≤ pot1 x := by
 obtain ⟨a, b⟩ := x
 obtain ⟨c, d⟩ := y
 unfold W32 at hx hy
 simp only at hx hy
 unfold joinI emp pot1
 by_cases h1 : b < a <;> by_cases h2 : d < c <;> simp only [h1, h2, decide_true, decide_false, if_true, if_false, Bool.false_eq_true, Prod.mk.injEq]
 ·simp; split <;> omega
 ·split <;> split <;> split <;> omega
 ·exact Nat.le_refl _
 ·rw [if_neg (by omega)]
  split <;> split <;> split <;> split <;> omega
theorem pot_widen {x y : Int × Int} (hx : W32 x.1 ∧ W32 x.2) (hy : W32 y.1 ∧ W32 y.2) : pot1 (widenI x (joinI x y)) ≤ pot1 x ∧ (joinI x y ≠ x → pot1 (widenI x (joinI x y)) < pot1 x) := by
 obtain ⟨a, b⟩ := x
 obtain ⟨c, d⟩ := y
 unfold W32 at hx hy
 simp only at hx hy
 by_cases h1 : b < a
 ·by_cases h2 : d < c
  ·have e : joinI (a, b) (c, d) = (1, 0) := by unfold joinI emp; simp [h1, h2]
   have e2 : widenI (a, b) (1, 0) = (1, 0) := by unfold widenI emp; simp [h1]
   rw [e, e2]
   have e3 : pot1 (1, 0) = 3 := by unfold pot1; simp
   rw [e3]
   unfold pot1
   simp only [h1, if_true]
   refine ⟨by split <;> omega, fun hn => ?_⟩
   rw [if_neg (fun h => hn h.symm)]
   omega
  ·have e : joinI (a, b) (c, d) = (c, d) := by unfold joinI emp; simp [h1, h2]
   have e2 : widenI (a, b) (c, d) = (c, d) := by unfold widenI emp; simp [h1, h2]
   rw [e, e2]
   unfold pot1
   simp only [h1, h2, if_true, if_false]
   constructor
   ·split <;> split <;> split <;> omega
   ·intro _; split <;> split <;> split <;> omega
 ·by_cases h2 : d < c
  ·have e : joinI (a, b) (c, d) = (a, b) := by unfold joinI emp; simp [h1, h2]
   have e2 : widenI (a, b) (a, b) = (a, b) := by unfold widenI emp; simp [h1]
   rw [e, e2]
   exact ⟨Nat.le_refl _, fun h => absurd rfl h⟩
  ·have e : joinI (a, b) (c, d) = (min a c, max b d) := by unfold joinI emp; simp [h1, h2]
   have h3 : ¬ max b d < min a c := by omega
   have e2 : widenI (a, b) (min a c, max b d) = (if min a c < a then -2147483648 else a, if b < max b d then 2147483647 else b) := by unfold widenI emp; simp [h1, h3]
   rw [e, e2]
   unfold pot1
   simp only [h1, if_false]
   have h4 : ¬ (if b < max b d then (2147483647 : Int) else b) < (if min a c < a then -2147483648 else a) := by (repeat' split) <;> omega
   have z1 : ¬ ((-2147483648 : Int) < -2147483648) := by decide
   have z2 : ¬ ((2147483647 : Int) < 2147483647) := by decide
   rw [if_neg h4]
   simp only [ne_eq, Prod.mk.injEq, not_and]
   by_cases q1 : min a c < a <;> by_cases q2 : b < max b d <;> simp only [q1, q2, if_true, if_false, z1, z2]
   ·refine ⟨by (repeat' split) <;> omega, fun _ => ?_⟩
    rw [if_pos (show -2147483648 < a by omega), if_pos (show b < 2147483647 by omega)]
    decide
   ·refine ⟨by (repeat' split) <;> omega, fun _ => ?_⟩
    rw [if_pos (show -2147483648 < a by omega)]
    split <;> omega
   ·refine ⟨by (repeat' split) <;> omega, fun _ => ?_⟩
    rw [if_pos (show b < 2147483647 by omega)]
    split <;> omega
   ·exact ⟨Nat.le_refl _, fun h => absurd (show max b d = b by omega) (h (by omega))⟩
theorem R16.join {x y : RG} (hx : R16 x) (hy : R16 y) : R16 (joinR x y) :=
 ⟨by simp [joinR, hx.len, hy.len], fun z hz => by
  obtain ⟨i, hi, e⟩ := List.getElem_of_mem hz
  simp only [joinR, List.length_zipWith] at hi
  simp only [joinR, List.getElem_zipWith] at e
  rw [← e]
  exact join_W (hx.wi _ (List.getElem_mem _)) (hy.wi _ (List.getElem_mem _))⟩
theorem R16.widen {x y : RG} (hx : R16 x) (hy : R16 y) : R16 (widenR x y) :=
 ⟨by simp [widenR, hx.len, hy.len], fun z hz => by
  obtain ⟨i, hi, e⟩ := List.getElem_of_mem hz
  simp only [widenR, List.length_zipWith] at hi
  simp only [widenR, List.getElem_zipWith] at e
  rw [← e]
  exact widen_W (hx.wi _ (List.getElem_mem _)) (hy.wi _ (List.getElem_mem _))⟩
theorem potR_join : ∀ {x y : RG}, x.length = y.length → (∀ z ∈ x, W32 z.1 ∧ W32 z.2) → (∀ z ∈ y, W32 z.1 ∧ W32 z.2) → potR (joinR x y) ≤ potR x
 | [], [], _, _, _ => Nat.le_refl _
 | a :: x, b :: y, hl, hx, hy => by
  have ih := potR_join (x := x) (y := y) (by simpa using hl) (fun z hz => hx z (List.mem_cons_of_mem _ hz)) (fun z hz => hy z (List.mem_cons_of_mem _ hz))
  have h := pot_join (hx a (List.mem_cons_self ..)) (hy b (List.mem_cons_self ..))
  simp only [joinR, potR, List.zipWith_cons_cons, List.map_cons, List.sum_cons] at *
  omega
theorem potR_widen : ∀ {x y : RG}, x.length = y.length → (∀ z ∈ x, W32 z.1 ∧ W32 z.2) → (∀ z ∈ y, W32 z.1 ∧ W32 z.2) → potR (widenR x (joinR x y)) ≤ potR x ∧ (joinR x y ≠ x → potR (widenR x (joinR x y)) < potR x)
 | [], [], _, _, _ => ⟨Nat.le_refl _, fun h => absurd rfl h⟩
 | a :: x, b :: y, hl, hx, hy => by
  obtain ⟨i1, i2⟩ := potR_widen (x := x) (y := y) (by simpa using hl) (fun z hz => hx z (List.mem_cons_of_mem _ hz)) (fun z hz => hy z (List.mem_cons_of_mem _ hz))
  obtain ⟨h1, h2⟩ := pot_widen (hx a (List.mem_cons_self ..)) (hy b (List.mem_cons_self ..))
  simp only [joinR, widenR, potR, List.zipWith_cons_cons, List.map_cons, List.sum_cons, ne_eq, List.cons.injEq, not_and] at *
  refine ⟨by omega, fun hn => ?_⟩
  by_cases q : joinI a b = a
  ·have := i2 (hn q); omega
  ·have := h2 q; omega
theorem potR_le : ∀ {r : RG}, potR r ≤ 4 * r.length
 | [] => Nat.le_refl _
 | a :: r => by
  have ih := potR_le (r := r)
  have h := pot1_le a
  simp only [potR, List.map_cons, List.sum_cons, List.length_cons] at *
  omega

structure ASI (n : Nat) (s : AS) : Prop where
 l1 : s.reach.length = n
 l2 : s.inn.length = n
 l3 : s.rep.length = n
 r16 : ∀ r ∈ s.inn, R16 r
 rep : ∀ x ∈ s.rep, 0 ≤ x ∧ x + (potS s n : Int) ≤ 70 * (n : Int)
theorem sum_update {f g : Nat → Nat} {n t : Nat} (ht : t < n) (h : ∀ k, k ≠ t → g k = f k) : ((List.range n).map g).sum + f t = ((List.range n).map f).sum + g t := by
 induction n with
 | zero => omega
 | succ n ih =>
  simp only [List.range_succ, List.map_append, List.map_cons, List.map_nil, List.sum_append, List.sum_cons, List.sum_nil]
  by_cases e : t = n
  ·subst e
   have : (List.range t).map g = (List.range t).map f := List.map_congr_left fun k hk => h k (by have := List.mem_range.1 hk; omega)
   rw [this]; omega
  ·have := ih (by omega)
   rw [h n (fun e2 => e e2.symm)]; omega
theorem ASI.get {n : Nat} {s : AS} (h : ASI n s) {t : Nat} (ht : t < n) : R16 (s.inn.getD t []) := by
 have hl : t < s.inn.length := by rw [h.l2]; exact ht
 have e : s.inn.getD t [] = s.inn[t] := by simp [List.getD, List.getElem?_eq_getElem hl]
 rw [e]
 exact h.r16 _ (List.getElem_mem hl)
theorem ASI.repAt {n : Nat} {s : AS} (h : ASI n s) {t : Nat} (ht : t < n) : 0 ≤ s.rep.getD t 0 ∧ s.rep.getD t 0 + (potS s n : Int) ≤ 70 * (n : Int) := by
 have hl : t < s.rep.length := by rw [h.l3]; exact ht
 have e : s.rep.getD t 0 = s.rep[t] := by simp [List.getD, List.getElem?_eq_getElem hl]
 rw [e]
 exact h.rep _ (List.getElem_mem hl)
theorem getD_set_same {α : Type} {l : List α} {t : Nat} {x d : α} (ht : t < l.length) : (l.set t x).getD t d = x := by simp [List.getD, ht]
theorem getD_set_other {α : Type} {l : List α} {t k : Nat} {x d : α} (hk : k ≠ t) : (l.set t x).getD k d = l.getD k d := by simp [List.getD, List.getElem?_set, Ne.symm hk]
theorem stepE_asi {n : Nat} {s : AS} (h : ASI n s) {t : Nat} (ht : t < n) (o : Option RG) (ho : ∀ r, o = some r → R16 r) : ASI n (stepE s t o).1 ∧ ((stepE s t o).2 = true → potS (stepE s t o).1 n < potS s n) ∧ ((stepE s t o).2 = false → (stepE s t o).1 = s) := by
 cases o with
 | none => exact ⟨h, (fun e => by cases e), fun _ => rfl⟩
 | some r =>
  have hr := ho r rfl
  have hg := h.get ht
  have hrep := h.repAt ht
  unfold stepE
  simp only
  by_cases h1 : s.reach.getD t false = false
  ·rw [if_pos h1]
   have hp : potS ⟨s.reach.set t true, s.inn.set t r, s.rep⟩ n < potS s n := by
    have hu := sum_update (f := potB s) (g := potB ⟨s.reach.set t true, s.inn.set t r, s.rep⟩) ht (fun k hk => by unfold potB; simp only; rw [getD_set_other hk, getD_set_other hk])
    have e1 : potB s t = 70 := by unfold potB; rw [if_pos h1]
    have e2 : potB ⟨s.reach.set t true, s.inn.set t r, s.rep⟩ t ≤ 66 := by
     unfold potB
     simp only
     rw [getD_set_same (by rw [h.l1]; exact ht), getD_set_same (by rw [h.l2]; exact ht)]
     have := potR_le (r := r)
     rw [hr.len] at this
     simp
     omega
    unfold potS
    omega
   refine ⟨⟨by simp [h.l1], by simp [h.l2], h.l3, fun x hx => ?_, fun x hx => ?_⟩, fun _ => hp, (fun e => by cases e)⟩
   ·rcases List.mem_or_eq_of_mem_set hx with h2 | rfl
    ·exact h.r16 _ h2
    ·exact hr
   ·have := h.rep x hx
    dsimp only
    omega
  ·rw [if_neg h1]
   have hreach : s.reach.getD t false = true := by simpa using h1
   by_cases h2 : joinR (s.inn.getD t []) r = s.inn.getD t []
   ·rw [if_pos h2]
    exact ⟨h, (fun e => by cases e), fun _ => rfl⟩
   ·rw [if_neg h2]
    simp only
    obtain ⟨j, hj⟩ : ∃ j, (if 2 ≤ s.rep.getD t 0 then widenR (s.inn.getD t []) (joinR (s.inn.getD t []) r) else joinR (s.inn.getD t []) r) = j := ⟨_, rfl⟩
    have hjoin := hg.join hr
    have hj16 : R16 j := by rw [← hj]; split; exact hg.widen hjoin; exact hjoin
    have hjp : (2 - (s.rep.getD t 0 + 1).toNat) + potR j < (2 - (s.rep.getD t 0).toNat) + potR (s.inn.getD t []) := by
     have hlen : (s.inn.getD t []).length = r.length := by rw [hg.len, hr.len]
     rw [← hj]
     split
     ·rename_i h3
      have := (potR_widen hlen hg.wi hr.wi).2 h2
      omega
     ·have := potR_join hlen hg.wi hr.wi
      omega
    rw [hj]
    have hp : potS ⟨s.reach, s.inn.set t j, s.rep.set t (s.rep.getD t 0 + 1)⟩ n < potS s n := by
     have hu := sum_update (f := potB s) (g := potB ⟨s.reach, s.inn.set t j, s.rep.set t (s.rep.getD t 0 + 1)⟩) ht (fun k hk => by unfold potB; simp only; rw [getD_set_other hk, getD_set_other hk])
     have e1 : potB s t = (2 - (s.rep.getD t 0).toNat) + potR (s.inn.getD t []) := by unfold potB; rw [if_neg h1]
     have e2 : potB ⟨s.reach, s.inn.set t j, s.rep.set t (s.rep.getD t 0 + 1)⟩ t = (2 - (s.rep.getD t 0 + 1).toNat) + potR j := by
      unfold potB
      simp only
      rw [getD_set_same (by rw [h.l3]; exact ht), getD_set_same (by rw [h.l2]; exact ht), if_neg h1]
     unfold potS
     omega
    refine ⟨⟨h.l1, by simp [h.l2], by simp [h.l3], fun x hx => ?_, fun x hx => ?_⟩, fun _ => hp, (fun e => by cases e)⟩
    ·rcases List.mem_or_eq_of_mem_set hx with h3 | rfl
     ·exact h.r16 _ h3
     ·exact hj16
    ·rcases List.mem_or_eq_of_mem_set hx with h3 | rfl
     ·have := h.rep x h3
      omega
     ·omega

end Go.Proofs.YtebklpnkcicpjaaDoor


