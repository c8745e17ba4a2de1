/-
  What is proved here: parts aDef, aPot, aMem, aFn1, aTr, aCb, aPot2, aAn, aRf, aTr2.
-/
import Derived.Test.YtebklpnkcicpjaaGreatDoorXa
import Derived.Test.YtebklpnkcicpjaaGreatDoorXh
import Derived.Test.YtebklpnkcicpjaaGreatDoorXd
import Derived.Deep.MidRow
import Derived.Deep.WholeRow
import Derived.Test.YtebklpnkcicpjaaGreatDoorXg
import Derived.Test.YtebklpnkcicpjaaGreatDoorXc
import Derived.Test.YtebklpnkcicpjaaGreatDoorXb
import Derived.Deep.QuietTactic
import Derived.BigQuiet
import Derived.Laws.CopyOwn
import Derived.Test.YtebklpnkcicpjaaGreatDoorXf
namespace Go.Proofs.YtebklpnkcicpjaaGreatDoor
set_option linter.unusedVariables false
set_option linter.unusedSimpArgs false
set_option maxRecDepth 100000
set_option maxHeartbeats 8000000
section
open Go.RowKit
abbrev RG := List (Int × Int)
def aa (r : RG) : List Value := r.flatMap fun x => [.int .i32 x.1, .int .i32 x.2]
def aq : RG := List.replicate 16 (0, 0)
def rg (r : RG) (k : Int) : Int × Int := r.getD k.toNat (0, 0)
def aW (r : RG) (k : Int) (x : Int × Int) : RG := if k = 0 then r else r.set k.toNat x
structure R16 (r : RG) : Prop where
 len : r.length = 16
 wi : ∀ x ∈ r, aP x.1 ∧ aP x.2
def aC (r : RG) : Bool := r.all (fun x => decide (x.1 ≤ x.2)) && decide (rg r 0 = (0, 0))
def nT (op : Int) : Int := if op = 13 then 18 else op + 4
def uP : Int × Int := (-2147483648, 2147483647)
def bT (i : aZ) (r : RG) : Option RG :=
 if aU i = true ∧ aC r = true then
  if 2 ≤ i.op ∧ i.op ≤ 13 then
   if (i.op = 5 ∨ i.op = 6) ∧ rg r i.c = (0, 0) then none else some (aW r i.a (aN (nT i.op) (rg r i.b) (rg r i.c)))
  else if i.op = 14 then some (aW r i.a (i.aS, i.aS))
  else if i.op = 15 then some (aW r i.a (aN 6 (rg r i.b) (i.aS, i.aS)))
  else if i.op = 16 then some (aW r i.a (aN 14 (rg r i.b) (i.aS, i.aS)))
  else if i.op = 17 then some (aW r i.a (aN 12 (rg r i.b) (i.aS, i.aS)))
  else if i.op = 18 ∨ i.op = 20 ∨ i.op = 26 then some (aW r i.a uP)
  else if i.op = 25 then (if emp (aJ (rg r i.a) (0, i.aS - 1)) = true then none else some (aW r i.a (aJ (rg r i.a) (0, i.aS - 1))))
  else some r
 else none
def eT (x : Int × Int) : Int × Int := if x = (0, 0) then (1, 0) else if x.1 = 0 then (1, x.2) else if x.2 = 0 then (x.1, -1) else x
def jP (op : Int) (taken : Bool) (x : Int × Int) : Int × Int := if (taken == decide (op = 22)) = true then aJ x (0, 0) else eT x
def dI (i : aZ) (r : RG) (taken : Bool) : Option RG :=
 if aU i = true ∧ aC r = true then
  if i.op = 22 ∨ i.op = 23 then (if emp (jP i.op taken (rg r i.a)) = true then none else some (aW r i.a (jP i.op taken (rg r i.a))))
  else if i.op = 24 then (if taken = true then some r else none)
  else if taken = true then none else some r
 else none
def bF (x y : RG) : RG := List.zipWith bR x y
def dG (x y : RG) : RG := List.zipWith aO x y
def cQ : List aZ → RG → Option RG
 | [], r => some r
 | i :: l, r => match bT i r with
  | none => none
  | some r' => cQ l r'
def dK (last : aZ) (m k : Nat) (r : RG) : Option RG :=
 if ¬ (last.op = 22 ∨ last.op = 23) then some r
 else if m = 2 then dI last r (decide (k = 1))
 else match dI last r false, dI last r true with
  | none, y => y
  | some x, none => some x
  | some x, some y => some (bF x y)
structure AS where
 reach : List Bool
 bH : List RG
 rep : List Int
def cy (s : AS) (t : Nat) : Option RG → AS × Bool
 | none => (s, false)
 | some r =>
  if s.reach.getD t false = false then (⟨s.reach.set t true, s.bH.set t r, s.rep⟩, true)
  else if bF (s.bH.getD t []) r = s.bH.getD t [] then (s, false)
  else (⟨s.reach, s.bH.set t (if 2 ≤ s.rep.getD t 0 then dG (s.bH.getD t []) (bF (s.bH.getD t []) r) else bF (s.bH.getD t []) r), s.rep.set t (s.rep.getD t 0 + 1)⟩, true)
def gN (last : aZ) (nx : List Int) (bI : RG) (s : AS) : Nat → AS × Bool
 | 0 => (s, false)
 | k + 1 => let p := gN last nx bI s k; let q := cy p.1 (nx.getD k 0).toNat (dK last nx.length k bI); (q.1, p.2 || q.2)
structure AB where
 code : List aZ
 nx : List Int
def AB.last (b : AB) : aZ := b.code.getD (b.code.length - 1) ⟨0, 0, 0, 0, 0⟩
def fS (b : AB) (n : Nat) (s : AS) : AS × Bool := match cQ b.code (s.bH.getD n []) with
 | none => (s, false)
 | some bI => gN b.last b.nx bI s b.nx.length
def bQ (B : List AB) (s : AS) : Nat → AS × Bool
 | 0 => (s, false)
 | n + 1 => let p := bQ B s n; if p.1.reach.getD n false = true then (let q := fS (B.getD n ⟨[], []⟩) n p.1; (q.1, p.2 || q.2)) else p
inductive Ends (B : List AB) : AS → AS → Prop
 | done {s : AS} (h : (bQ B s B.length).2 = false) : Ends B s (bQ B s B.length).1
 | more {s s' : AS} (h : (bQ B s B.length).2 = true) (k : Ends B (bQ B s B.length).1 s') : Ends B s s'
theorem Ends.Kn {B : List AB} {s a b : AS} (h : Ends B s a) (k : Ends B s b) : a = b := by
 induction h with
 | done h => cases k with
  | done _ => rfl
  | more h' _ => rw [h] at h'; cases h'
 | more h _ ih => cases k with
  | done h' => rw [h] at h'; cases h'
  | more _ k' => exact ih k'
def ct (n : Nat) : AS := ⟨(List.replicate n false).set 0 true, List.replicate n aq, List.replicate n 0⟩
def dO (b : AB) (n k : Nat) (r : RG) : List (Int × Int) := match cQ b.code r with
 | none => ((b.nx.take k).map fun t => ((n : Int), t))
 | some bI => ((List.range k).filter fun j => (dK b.last b.nx.length j bI).isNone).map fun j => ((n : Int), b.nx.getD j 0)
def cZ (B : List AB) (s : AS) (n : Nat) : List (Int × Int) := (List.range n).flatMap fun j => if s.reach.getD j false = true then dO (B.getD j ⟨[], []⟩) j (B.getD j ⟨[], []⟩).nx.length (s.bH.getD j []) else []
theorem Mz {op : Int} (h1 : 2 ≤ op) (h2 : op ≤ 13) : 6 ≤ nT op ∧ nT op ≤ 18 := by unfold nT; split <;> omega
theorem R16.at_ {r : RG} (h : R16 r) (k : Int) : aP (rg r k).1 ∧ aP (rg r k).2 := by
 unfold rg
 by_cases hk : k.toNat < r.length
 ·have e : r.getD k.toNat (0, 0) = r[k.toNat] := by simp [List.getD, List.getElem?_eq_getElem hk]
  rw [e]
  exact h.wi _ (List.getElem_mem hk)
 ·have e : r.getD k.toNat (0, 0) = (0, 0) := by simp [List.getD, List.getElem?_eq_none (Nat.le_of_not_lt hk)]
  rw [e]
  unfold aP
  simp only
  omega
theorem R16.set {r : RG} (h : R16 r) (k : Nat) {x : Int × Int} (hx : aP x.1 ∧ aP x.2) : R16 (r.set k x) :=
 ⟨by rw [List.length_set]; exact h.len, fun y hy => by rcases List.mem_or_eq_of_mem_set hy with h1 | rfl; exact h.wi _ h1; exact hx⟩
theorem R16.aW {r : RG} (h : R16 r) (k : Int) {x : Int × Int} (hx : aP x.1 ∧ aP x.2) : R16 (aW r k x) := by
 unfold Go.Proofs.YtebklpnkcicpjaaGreatDoor.aW
 split
 ·exact h
 ·exact h.set _ hx
theorem R16.zero : R16 aq := ⟨by simp [aq], fun x hx => by rw [(List.mem_replicate.1 hx).2]; unfold aP; simp only; omega⟩
end
section
open Go.RowKit
def mR (x : Int × Int) : Nat := if x.2 < x.1 then (if x = (1, 0) then 3 else 4) else (if -2147483648 < x.1 then 1 else 0) + (if x.2 < 2147483647 then 1 else 0)
def mD (r : RG) : Nat := (r.map mR).sum
def kA (s : AS) (k : Nat) : Nat := if s.reach.getD k false = false then 70 else (2 - (s.rep.getD k 0).toNat) + mD (s.bH.getD k [])
def gH (s : AS) (n : Nat) : Nat := ((List.range n).map (kA s)).sum
theorem JJ (x : Int × Int) : mR x ≤ 4 := by unfold mR; split <;> split <;> (try split) <;> omega
theorem MF {x y : Int × Int} (hx : aP x.1 ∧ aP x.2) (hy : aP y.1 ∧ aP y.2) : aP (bR x y).1 ∧ aP (bR x y).2 := by
 unfold bR aP at *
 split <;> split <;> first | omega | (simp only; omega)
theorem Jl {x y : Int × Int} (hx : aP x.1 ∧ aP x.2) (hy : aP y.1 ∧ aP y.2) : aP (aO x y).1 ∧ aP (aO x y).2 := by
 unfold aO aP at *
 split
 ·split <;> first | omega | (simp only; omega)
 ·split
  ·exact hx
  ·simp only
   constructor <;> split <;> omega
theorem Gh {x y : Int × Int} (hx : aP x.1 ∧ aP x.2) (hy : aP y.1 ∧ aP y.2) : mR (bR x y) ≤ mR x := by
 obtain ⟨a, b⟩ := x
 obtain ⟨c, d⟩ := y
 unfold aP at hx hy
 simp only at hx hy
 unfold bR emp mR
 by_cases h1 : b < a <;> by_cases h2 : d < c <;> simp only [h1, h2, decide_true, decide_false, if_true, if_false, Bool.false_eq_true, Prod.mk.injEq]
 ·simp; split <;> omega
 ·split <;> split <;> split <;> omega
 ·exact Nat.le_refl _
 ·rw [if_neg abo]
  split <;> split <;> split <;> split <;> omega
theorem Dc {x y : Int × Int} (hx : aP x.1 ∧ aP x.2) (hy : aP y.1 ∧ aP y.2) : mR (aO x (bR x y)) ≤ mR x ∧ (bR x y ≠ x → mR (aO x (bR x y)) < mR x) := by
 obtain ⟨a, b⟩ := x
 obtain ⟨c, d⟩ := y
 unfold aP at hx hy
 simp only at hx hy
 by_cases h1 : b < a
 ·by_cases h2 : d < c
  ·have e : bR (a, b) (c, d) = (1, 0) := by unfold bR emp; simp [h1, h2]
   have e2 : aO (a, b) (1, 0) = (1, 0) := by unfold aO emp; simp [h1]
   rw [e, e2]
   have e3 : mR (1, 0) = 3 := by unfold mR; simp
   rw [e3]
   unfold mR
   simp only [h1, if_true]
   refine ⟨by split <;> omega, fun hn => ?_⟩
   rw [if_neg (fun h => hn h.symm)]
   omega
  ·have e : bR (a, b) (c, d) = (c, d) := by unfold bR emp; simp [h1, h2]
   have e2 : aO (a, b) (c, d) = (c, d) := by unfold aO emp; simp [h1, h2]
   rw [e, e2]
   unfold mR
   simp only [h1, h2, if_true, if_false]
   constructor
   ·split <;> split <;> split <;> omega
   ·intro _; split <;> split <;> split <;> omega
 ·by_cases h2 : d < c
  ·have e : bR (a, b) (c, d) = (a, b) := by unfold bR emp; simp [h1, h2]
   have e2 : aO (a, b) (a, b) = (a, b) := by unfold aO emp; simp [h1]
   rw [e, e2]
   exact ⟨Nat.le_refl _, fun h => absurd rfl h⟩
  ·have e : bR (a, b) (c, d) = (min a c, max b d) := by unfold bR emp; simp [h1, h2]
   have h3 : ¬ max b d < min a c := by omega
   have e2 : aO (a, b) (min a c, max b d) = (if min a c < a then -2147483648 else a, if b < max b d then 2147483647 else b) := by unfold aO emp; simp [h1, h3]
   rw [e, e2]
   unfold mR
   simp only [h1, if_false]
   have h4 : ¬ (if b < max b d then (2147483647 : Int) else b) < (if min a c < a then -2147483648 else a) := by (repeat' split) <;> omega
   have z1 : ¬ ((-2147483648 : Int) < -2147483648) := by decide
   have z2 : ¬ ((2147483647 : Int) < 2147483647) := by decide
   rw [if_neg h4]
   simp only [ne_eq, Prod.mk.injEq, not_and]
   by_cases q1 : min a c < a <;> by_cases q2 : b < max b d <;> simp only [q1, q2, if_true, if_false, z1, z2]
   ·refine ⟨by (repeat' split) <;> omega, fun _ => ?_⟩
    rw [if_pos (show -2147483648 < a by omega), if_pos (show b < 2147483647 by omega)]
    decide
   ·refine ⟨by (repeat' split) <;> omega, fun _ => ?_⟩
    rw [if_pos (show -2147483648 < a by omega)]
    split <;> omega
   ·refine ⟨by (repeat' split) <;> omega, fun _ => ?_⟩
    rw [if_pos (show b < 2147483647 by omega)]
    split <;> omega
   ·exact ⟨Nat.le_refl _, fun h => absurd (show max b d = b by omega) (h abo)⟩
theorem R16.join {x y : RG} (hx : R16 x) (hy : R16 y) : R16 (bF x y) :=
 ⟨by simp [bF, hx.len, hy.len], fun z hz => by
  obtain ⟨i, hi, e⟩ := List.getElem_of_mem hz
  simp only [bF, List.length_zipWith] at hi
  simp only [bF, List.getElem_zipWith] at e
  rw [← e]
  exact MF (hx.wi _ (List.getElem_mem _)) (hy.wi _ (List.getElem_mem _))⟩
theorem R16.qF {x y : RG} (hx : R16 x) (hy : R16 y) : R16 (dG x y) :=
 ⟨by simp [dG, hx.len, hy.len], fun z hz => by
  obtain ⟨i, hi, e⟩ := List.getElem_of_mem hz
  simp only [dG, List.length_zipWith] at hi
  simp only [dG, List.getElem_zipWith] at e
  rw [← e]
  exact Jl (hx.wi _ (List.getElem_mem _)) (hy.wi _ (List.getElem_mem _))⟩
theorem uz : ∀ {x y : RG}, x.length = y.length → (∀ z ∈ x, aP z.1 ∧ aP z.2) → (∀ z ∈ y, aP z.1 ∧ aP z.2) → mD (bF x y) ≤ mD x
 | [], [], _, _, _ => Nat.le_refl _
 | a :: x, b :: y, hl, hx, hy => by
  have ih := uz (x := x) (y := y) (by simpa using hl) (fun z hz => hx z (List.mem_cons_of_mem _ hz)) (fun z hz => hy z (List.mem_cons_of_mem _ hz))
  have h := Gh (hx a (List.mem_cons_self ..)) (hy b (List.mem_cons_self ..))
  simp only [bF, mD, List.zipWith_cons_cons, List.map_cons, List.sum_cons] at *
  omega
theorem rI : ∀ {x y : RG}, x.length = y.length → (∀ z ∈ x, aP z.1 ∧ aP z.2) → (∀ z ∈ y, aP z.1 ∧ aP z.2) → mD (dG x (bF x y)) ≤ mD x ∧ (bF x y ≠ x → mD (dG x (bF x y)) < mD x)
 | [], [], _, _, _ => ⟨Nat.le_refl _, fun h => absurd rfl h⟩
 | a :: x, b :: y, hl, hx, hy => by
  obtain ⟨i1, i2⟩ := rI (x := x) (y := y) (by simpa using hl) (fun z hz => hx z (List.mem_cons_of_mem _ hz)) (fun z hz => hy z (List.mem_cons_of_mem _ hz))
  obtain ⟨h1, h2⟩ := Dc (hx a (List.mem_cons_self ..)) (hy b (List.mem_cons_self ..))
  simp only [bF, dG, mD, List.zipWith_cons_cons, List.map_cons, List.sum_cons, ne_eq, List.cons.injEq, not_and] at *
  refine ⟨by omega, fun hn => ?_⟩
  by_cases q : bR a b = a
  ·have := i2 (hn q); omega
  ·have := h2 q; omega
theorem vJ : ∀ {r : RG}, mD r ≤ 4 * r.length
 | [] => Nat.le_refl _
 | a :: r => by
  have ih := vJ (r := r)
  have h := JJ a
  simp only [mD, List.map_cons, List.sum_cons, List.length_cons] at *
  omega
structure wA (n : Nat) (s : AS) : Prop where
 l1 : s.reach.length = n
 l2 : s.bH.length = n
 l3 : s.rep.length = n
 r16 : ∀ r ∈ s.bH, R16 r
 rep : ∀ x ∈ s.rep, 0 ≤ x ∧ x + (gH s n : Int) ≤ 70 * (n : Int)
theorem qN {f g : Nat → Nat} {n t : Nat} (ht : t < n) (h : ∀ k, k ≠ t → g k = f k) : ((List.range n).map g).sum + f t = ((List.range n).map f).sum + g t := by
 induction n with
 | zero => omega
 | succ n ih =>
  simp only [List.range_succ, List.map_append, List.map_cons, List.map_nil, List.sum_append, List.sum_cons, List.sum_nil]
  by_cases e : t = n
  ·subst e
   have : (List.range t).map g = (List.range t).map f := List.map_congr_left fun k hk => h k (by have := List.mem_range.1 hk; omega)
   rw [this]; omega
  ·have := ih abo
   rw [h n (fun e2 => e e2.symm)]; omega
theorem wA.get {n : Nat} {s : AS} (h : wA n s) {t : Nat} (ht : t < n) : R16 (s.bH.getD t []) := by
 have hl : t < s.bH.length := by rw [h.l2]; exact ht
 have e : s.bH.getD t [] = s.bH[t] := by simp [List.getD, List.getElem?_eq_getElem hl]
 rw [e]
 exact h.r16 _ (List.getElem_mem hl)
theorem wA.nP {n : Nat} {s : AS} (h : wA n s) {t : Nat} (ht : t < n) : 0 ≤ s.rep.getD t 0 ∧ s.rep.getD t 0 + (gH s n : Int) ≤ 70 * (n : Int) := by
 have hl : t < s.rep.length := by rw [h.l3]; exact ht
 have e : s.rep.getD t 0 = s.rep[t] := by simp [List.getD, List.getElem?_eq_getElem hl]
 rw [e]
 exact h.rep _ (List.getElem_mem hl)
theorem bL {α : Type} {l : List α} {t : Nat} {x d : α} (ht : t < l.length) : (l.set t x).getD t d = x := by simp [List.getD, ht]
theorem aT {α : Type} {l : List α} {t k : Nat} {x d : α} (hk : k ≠ t) : (l.set t x).getD k d = l.getD k d := by simp [List.getD, List.getElem?_set, Ne.symm hk]
theorem gW {n : Nat} {s : AS} (h : wA n s) {t : Nat} (ht : t < n) (o : Option RG) (ho : ∀ r, o = some r → R16 r) : wA n (cy s t o).1 ∧ ((cy s t o).2 = true → gH (cy s t o).1 n < gH s n) ∧ ((cy s t o).2 = false → (cy s t o).1 = s) := by
 cases o with
 | none => exact ⟨h, (fun e => by cases e), fun _ => rfl⟩
 | some r =>
  have hr := ho r rfl
  have hg := h.get ht
  have G4 := h.nP ht
  unfold cy
  simp only
  by_cases h1 : s.reach.getD t false = false
  ·rw [if_pos h1]
   have hp : gH ⟨s.reach.set t true, s.bH.set t r, s.rep⟩ n < gH s n := by
    have hu := qN (f := kA s) (g := kA ⟨s.reach.set t true, s.bH.set t r, s.rep⟩) ht (fun k hk => by unfold kA; simp only; rw [aT hk, aT hk])
    have e1 : kA s t = 70 := by unfold kA; rw [if_pos h1]
    have e2 : kA ⟨s.reach.set t true, s.bH.set t r, s.rep⟩ t ≤ 66 := by
     unfold kA
     simp only
     rw [bL (by rw [h.l1]; exact ht), bL (by rw [h.l2]; exact ht)]
     have := vJ (r := r)
     rw [hr.len] at this
     simp
     omega
    unfold gH
    omega
   refine ⟨⟨by simp [h.l1], by simp [h.l2], h.l3, fun x hx => ?_, fun x hx => ?_⟩, fun _ => hp, (fun e => by cases e)⟩
   ·rcases List.mem_or_eq_of_mem_set hx with h2 | rfl
    ·exact h.r16 _ h2
    ·exact hr
   ·have := h.rep x hx
    dsimp only
    omega
  ·rw [if_neg h1]
   have hreach : s.reach.getD t false = true := by simpa using h1
   by_cases h2 : bF (s.bH.getD t []) r = s.bH.getD t []
   ·rw [if_pos h2]
    exact ⟨h, (fun e => by cases e), fun _ => rfl⟩
   ·rw [if_neg h2]
    simp only
    obtain ⟨j, hj⟩ : ∃ j, (if 2 ≤ s.rep.getD t 0 then dG (s.bH.getD t []) (bF (s.bH.getD t []) r) else bF (s.bH.getD t []) r) = j := ⟨_, rfl⟩
    have LG := hg.join hr
    have TP : R16 j := by rw [← hj]; split; exact hg.qF LG; exact LG
    have hjp : (2 - (s.rep.getD t 0 + 1).toNat) + mD j < (2 - (s.rep.getD t 0).toNat) + mD (s.bH.getD t []) := by
     have hlen : (s.bH.getD t []).length = r.length := by rw [hg.len, hr.len]
     rw [← hj]
     split
     ·rename_i h3
      have := (rI hlen hg.wi hr.wi).2 h2
      omega
     ·have := uz hlen hg.wi hr.wi
      omega
    rw [hj]
    have hp : gH ⟨s.reach, s.bH.set t j, s.rep.set t (s.rep.getD t 0 + 1)⟩ n < gH s n := by
     have hu := qN (f := kA s) (g := kA ⟨s.reach, s.bH.set t j, s.rep.set t (s.rep.getD t 0 + 1)⟩) ht (fun k hk => by unfold kA; simp only; rw [aT hk, aT hk])
     have e1 : kA s t = (2 - (s.rep.getD t 0).toNat) + mD (s.bH.getD t []) := by unfold kA; rw [if_neg h1]
     have e2 : kA ⟨s.reach, s.bH.set t j, s.rep.set t (s.rep.getD t 0 + 1)⟩ t = (2 - (s.rep.getD t 0 + 1).toNat) + mD j := by
      unfold kA
      simp only
      rw [bL (by rw [h.l3]; exact ht), bL (by rw [h.l2]; exact ht), if_neg h1]
     unfold gH
     omega
    refine ⟨⟨h.l1, by simp [h.l2], by simp [h.l3], fun x hx => ?_, fun x hx => ?_⟩, fun _ => hp, (fun e => by cases e)⟩
    ·rcases List.mem_or_eq_of_mem_set hx with h3 | rfl
     ·exact h.r16 _ h3
     ·exact TP
    ·rcases List.mem_or_eq_of_mem_set hx with h3 | rfl
     ·have := h.rep x h3
      omega
     ·omega
end
section
open Go.RowKit
theorem bu {P : Program} {ops : Array Oper} {rest : List Oper} {op : Oper} {a : Act} {w : World} {Q : Exit → Act → World → Prop} (hw : Region.wanted op (yielded ops a.tmps) = true) (ty : TypeId) (x : Operand) (ho : op.op = .load ty x)
  (b o : Nat) (hx : a.eval x = .pointer (some ⟨b, o, none⟩)) (cs : List Value) (d : TypeDesc) (hc : w.rangeAt b o cs)
  (hu : P.underlying ty = some d) (hd : d.isRow = true) (hi : (P.info? ty).map (·.size) = some cs.length)
  (h : wpList P ops Q rest (a.put op.dst (.agg cs.toArray)) w) : wpList P ops Q (op :: rest) a w :=
 wpList_step fun K hK => by simp only [hw, if_true]; exact wp_load_mid ty x ho b o hx cs d hc hu hd hi (hK _ _ h)
theorem ax (r : RG) : (aa r).length = r.length * 2 := by
 induction r with
 | nil => rfl
 | cons a l ih => simp only [aa, List.flatMap_cons, List.length_append, List.length_cons] at *; rw [ih]; simp; omega
theorem ig : ∀ (r : RG) (k j : Nat) (x : Int × Int), r[k]? = some x → j < 2 → (aa r)[k * 2 + j]? = [Value.int .i32 x.1, .int .i32 x.2][j]?
 | y :: L, 0, j, x, h, hj => by
  simp at h; subst h
  unfold aa
  rw [List.flatMap_cons, Nat.zero_mul, Nat.zero_add, List.getElem?_append_left (by simpa using hj)]
 | y :: L, k + 1, j, x, h, hj => by
  have h' : L[k]? = some x := by simpa using h
  have ih := ig L k j x h' hj
  unfold aa at ih ⊢
  rw [List.flatMap_cons, List.getElem?_append_right abA, ← ih]
  simp only [List.length_cons, List.length_nil]
  congr 1
  omega
theorem jV : ∀ (r : RG) (k : Nat) (x : Int × Int), ((aa r).set (k * 2) (.int .i32 x.1)).set (k * 2 + 1) (.int .i32 x.2) = aa (r.set k x)
 | [], k, x => by simp [aa]
 | y :: L, 0, x => by simp [aa]
 | y :: L, k + 1, x => by
  have ih := jV L k x
  simp only [aa, List.flatMap_cons, acJ] at ih ⊢
  rw [← ih, show (k + 1) * 2 = k * 2 + 2 by omega]
  simp
theorem dH (r : RG) (k : Nat) : rg r (k : Int) = r.getD k (0, 0) := by simp [rg]
theorem eZ {r : RG} {k : Nat} (hk : k < r.length) : r[k]? = some (rg r (k : Int)) := by
 rw [dH]
 simp [List.getD, List.getElem?_eq_getElem hk]
theorem sJ {r : RG} {k : Nat} (hk : k < r.length) : (aa r).toArray.extract (k * 2) (k * 2 + 2) = #[.int .i32 (rg r (k : Int)).1, .int .i32 (rg r (k : Int)).2] := by
 have hl := ax r
 apply Array.ext
 ·simp; omega
 ·intro i h1 h2
  have h3 : i < 2 := by simpa using h2
  have := ig r k i _ (eZ hk) h3
  rw [List.getElem?_eq_getElem abo] at this
  simp only [Array.getElem_extract, acE]
  rw [List.getElem?_eq_getElem (by simpa using h3)] at this
  simpa using this
theorem oZ {r : RG} {k : Nat} (hk : k < r.length) (w : World) : (part 54 (aa r).toArray (k * 2)).run Tryz.prog w = .ok (.agg #[.int .i32 (rg r (k : Int)).1, .int .i32 (rg r (k : Int)).2]) w := by
 have h1 : (isAgg 54).run Tryz.prog w = .ok true w := by kernel_rfl
 have h2 : (sizeOf 54).run Tryz.prog w = .ok 2 w := by kernel_rfl
 unfold part
 simp only [Sem.run_bind, h1, h2, Result.andThen_ok, if_true, Sem.run_pure]
 rw [sJ hk]
theorem zQ {r : RG} (hr : r.length = 16) {k : Nat} (hk : k < 16) (w : World) : (Instr.index 56 (.agg (aa r).toArray) (.int .i64 (k : Int))).run Tryz.prog w = .ok (.agg #[.int .i32 (rg r (k : Int)).1, .int .i32 (rg r (k : Int)).2]) w := by
 have h2 : (sizeOf 54).run Tryz.prog w = .ok 2 w := by kernel_rfl
 have h3 : (0 : Int) ≤ k ∧ (k : Int) < ((16 : Nat) : Int) := by omega
 have h4 := oZ (r := r) (k := k) abo w
 simp [Instr.index, run_underlying Tryz.underlying56, asIntOf, Sem.run_bind, h2, hk, h4]
theorem pH {P : Program} {w : World} (q : Nat → Bool) (g : Nat → Option Bool × PUnit → Sem (ForInStep (Option Bool × PUnit))) : ∀ (l : List Nat), (∀ i ∈ l, ∀ s, (g i s).run P w = .ok (if q i then .yield (none, ()) else .done (some false, ())) w) →
  (forIn l ((none, ()) : Option Bool × PUnit) g).run P w = .ok (if l.all q then (none, ()) else (some false, ())) w
 | [], _ => by simp
 | i :: l, h => by
  have ih := pH q g l (fun j hj => h j (List.mem_cons_of_mem _ hj))
  have h1 := h i (List.mem_cons_self ..) (none, ())
  rw [List.forIn_cons, Sem.run_bind, h1]
  cases hq : q i <;> simp [hq, ih]
theorem uQ (d : Nat) {a b : RG} (ha : a.length = 16) (hb : b.length = 16) (w : World) : (Op.equalIn (d + 1 + 1 + 1) 56 (.agg (aa a).toArray) (.agg (aa b).toArray)).run Tryz.prog w = .ok (decide (a = b)) w := by
 rw [Op.equalIn]
 simp [run_underlying Tryz.underlying56, Sem.run_bind]
 rw [pH (fun i => decide (rg a (i : Int) = rg b (i : Int)))]
 ·have e : (List.range' 0 16).all (fun i => decide (rg a (i : Int) = rg b (i : Int))) = decide (a = b) := by
   rw [Bool.eq_iff_iff, List.all_eq_true, decide_eq_true_eq]
   constructor
   ·intro h
    apply List.ext_getElem?
    intro i
    by_cases hi : i < 16
    ·have := h i (by simp [List.mem_range'_1]; omega)
     rw [decide_eq_true_eq] at this
     rw [eZ abo, eZ abo, this]
    ·rw [List.getElem?_eq_none abo, List.getElem?_eq_none abo]
   ·rintro rfl i _
    simp
  rw [e]
  cases decide (a = b) <;> simp
 ·intro i hi s
  have hi2 : i < 16 := by simp [List.mem_range'_1] at hi; omega
  have h1 := oZ (r := a) (k := i) abo w
  have h2 := oZ (r := b) (k := i) abo w
  have h3 := Bx d (rg a (i : Int)).1 (rg a (i : Int)).2 (rg b (i : Int)).1 (rg b (i : Int)).2 w
  simp only [Sem.run_bind, h1, h2, Result.andThen_ok, h3]
  by_cases h4 : rg a (i : Int) = rg b (i : Int)
  ·simp [h4]
  ·have : ((rg a (i : Int)).1 == (rg b (i : Int)).1 && (rg a (i : Int)).2 == (rg b (i : Int)).2) = false := by
    rw [Bool.eq_false_iff]
    intro h5
    rw [Bool.and_eq_true] at h5
    exact h4 (Prod.ext (by simpa using h5.1) (by simpa using h5.2))
   simp [this, h4]
theorem Bu {a b : RG} (ha : a.length = 16) (hb : b.length = 16) (w : World) : (binOp .eql 56 (.agg (aa a).toArray) (.agg (aa b).toArray)).run Tryz.prog w = .ok (.bool (decide (a = b))) w := by
 simp only [binOp]
 simp [Op.equal, Op.maxDepth, uQ 9997 ha hb]
def aH (w : World) (b : Nat) (T : TypeId) (r : RG) : Prop := w.heap[b]? = some (.cells (aa r).toArray T (0, 0))
section
variable {w : World} {b : Nat} {T : TypeId} {r : RG}
theorem aH.lt (h : aH w b T r) : b < w.heap.size := (Array.getElem?_eq_some_iff.1 h).1
theorem aH.lo (h : aH w b T r) {k : Nat} (hk : k < r.length) : w.cell? ⟨b, k * 2, none⟩ = some (.int .i32 (rg r (k : Int)).1) := by
 have := ig r k 0 _ (eZ hk) abo
 unfold aH at h
 simpa [World.cell?, h] using this
theorem aH.hi (h : aH w b T r) {k : Nat} (hk : k < r.length) : w.cell? ⟨b, k * 2 + 1, none⟩ = some (.int .i32 (rg r (k : Int)).2) := by
 have := ig r k 1 _ (eZ hk) abo
 unfold aH at h
 simpa [World.cell?, h] using this
theorem aH.fz (h : aH w b T r) (o : Nat) : w.frozen? ⟨b, o, none⟩ = false := by unfold aH at h; simp [World.frozen?, h]
theorem aH.keep {w' : World} (h : aH w b T r) (hb : Below w.heap.size w w') : aH w' b T r := (hb.block b h.lt).trans h
theorem aH.set (h : aH w b T r) (k : Nat) (x : Int × Int) : aH ((w.setCell ⟨b, k * 2, none⟩ (.int .i32 x.1)).setCell ⟨b, k * 2 + 1, none⟩ (.int .i32 x.2)) b T (r.set k x) := by
 unfold aH at h ⊢
 rw [heap_setCell_same _ b _ _ T _ (heap_setCell_same w b _ _ T _ h), ← jV]
 simp
theorem aH.range (h : aH w b T r) : w.rangeAt b 0 (aa r) := fun j v hv => by
 unfold aH at h
 simp [World.cell?, h, hv]
end
end
section
open Go.RowKit
theorem lK (w : World) (cA cB : Array Value) (tA tB : TypeId) (x : Ext ((w.alloc (.cells cA tA)).alloc (.cells cB tB))) : w.heap.size + 1 < x.w.heap.size ∧ x.w.heap[w.heap.size]? = some (.cells cA tA (0, 0)) ∧ x.w.heap[w.heap.size + 1]? = some (.cells cB tB (0, 0)) ∧ Below w.heap.size w x.w := by
 have e2 : ((w.alloc (.cells cA tA)).alloc (.cells cB tB)).heap.size = w.heap.size + 1 + 1 := by simp only [World.size_alloc]
 have hs := x.h.size
 refine ⟨by omega, ?_, ?_, Ext.below (((Below.refl _ _).alloc (Nat.le_refl _) _).alloc aby _) abo x⟩
 ·rw [x.h.block _ abo, heap_alloc_old _ _ aby]; exact heap_alloc_new _ _
 ·rw [x.h.block _ abo]; exact bB _ _ aby
theorem nR (op : Int) (h1 : 2 ≤ op) (h2 : op ≤ 13) (w : World) : Calls Tryz.prog 36 #[.int .u8 op] w fun e w' => e = .returned (.int .u8 (nT op)) ∧ w = w' := by
 have h : op = 2 ∨ op = 3 ∨ op = 4 ∨ op = 5 ∨ op = 6 ∨ op = 7 ∨ op = 8 ∨ op = 9 ∨ op = 10 ∨ op = 11 ∨ op = 12 ∨ op = 13 := by omega
 rcases h with rfl | rfl | rfl | rfl | rfl | rfl | rfl | rfl | rfl | rfl | rfl | rfl
 all_goals
  go_enter Tryz.func36, Tryz.ntmps36
  go_wp2
  go_ret
  exact ⟨rfl, rfl⟩
theorem yQ (xl xh : Int) (h1 : xl = 0) (h2 : xh = 0) (w : World) : Calls Tryz.prog 48 #[.agg #[.int .i32 xl, .int .i32 xh]] w fun e w' => e = .returned (.agg #[.int .i32 (1), .int .i32 (0)]) ∧ Below w.heap.size w w' := by
 have E := iO xl xh 0 0
 have hb : (xl == 0 && xh == 0) = true := by simp [h1, h2]
 rw [hb] at E
 clear h1 h2
 go_enter Tryz.func48, Tryz.ntmps48
 go_wp2
 refine az abp abp ?_
 repeat (go_big_quiet_step (exact Calls.ay (cN 0 _)))
 refine wpQuiet_nil ?_
 rintro _ ⟨x, rfl⟩
 obtain ⟨hz2, k0, k1, fA⟩ := lK w _ _ _ _ x
 have hz1 : w.heap.size < x.w.heap.size := by omega
 have c0 : x.w.cell? ⟨w.heap.size, 0, none⟩ = some (.int .i32 xl) := by rw [cell_of_row _ _ _ _ _ _ k0]; rfl
 have c1 : x.w.cell? ⟨w.heap.size, 1, none⟩ = some (.int .i32 xh) := by rw [cell_of_row _ _ _ _ _ _ k0]; rfl
 have c2 : x.w.cell? ⟨w.heap.size + 1, 0, none⟩ = some (.int .i32 0) := by rw [cell_of_row _ _ _ _ _ _ k1]; rfl
 have c3 : x.w.cell? ⟨w.heap.size + 1, 1, none⟩ = some (.int .i32 0) := by rw [cell_of_row _ _ _ _ _ _ k1]; rfl
 clear k0 k1 fA
 go_wp2_with (go_at_call 49; refine (Calls.ay (aB _)).mono ?_; rintro e w' ⟨rfl, y, rfl⟩)
 all_goals
  refine bodyPost_ret (v := .agg #[.int .i32 (1), .int .i32 (0)]) ?hr rfl ⟨rfl, ?aF⟩
  case hr =>
   simp [results, Tryz.results48, go_sem]
  case aF =>
   exact acA
theorem yS (xl xh : Int) (h1 : xl = 0) (h2 : xh ≠ 0) (w : World) : Calls Tryz.prog 48 #[.agg #[.int .i32 xl, .int .i32 xh]] w fun e w' => e = .returned (.agg #[.int .i32 (1), .int .i32 (xh)]) ∧ Below w.heap.size w w' := by
 have E := iO xl xh 0 0
 have hb : (xl == 0 && xh == 0) = false := by simp [h2]
 rw [hb] at E
 have d1 : (xl == 0) = true := by simp [h1]
 clear h1 h2
 go_enter Tryz.func48, Tryz.ntmps48
 go_wp2
 refine az abp abp ?_
 repeat (go_big_quiet_step (exact Calls.ay (cN 0 _)))
 refine wpQuiet_nil ?_
 rintro _ ⟨x, rfl⟩
 obtain ⟨hz2, k0, k1, fA⟩ := lK w _ _ _ _ x
 have hz1 : w.heap.size < x.w.heap.size := by omega
 have c0 : x.w.cell? ⟨w.heap.size, 0, none⟩ = some (.int .i32 xl) := by rw [cell_of_row _ _ _ _ _ _ k0]; rfl
 have c1 : x.w.cell? ⟨w.heap.size, 1, none⟩ = some (.int .i32 xh) := by rw [cell_of_row _ _ _ _ _ _ k0]; rfl
 have c2 : x.w.cell? ⟨w.heap.size + 1, 0, none⟩ = some (.int .i32 0) := by rw [cell_of_row _ _ _ _ _ _ k1]; rfl
 have c3 : x.w.cell? ⟨w.heap.size + 1, 1, none⟩ = some (.int .i32 0) := by rw [cell_of_row _ _ _ _ _ _ k1]; rfl
 clear k0 k1 fA
 go_wp2_with (go_at_call 49; refine (Calls.ay (aB _)).mono ?_; rintro e w' ⟨rfl, y, rfl⟩)
 all_goals
  refine bodyPost_ret (v := .agg #[.int .i32 (1), .int .i32 (xh)]) ?hr rfl ⟨rfl, ?aF⟩
  case hr =>
   simp [results, Tryz.results48, go_sem]
  case aF =>
   exact acA
theorem yT (xl xh : Int) (h1 : xl ≠ 0) (h2 : xh = 0) (w : World) : Calls Tryz.prog 48 #[.agg #[.int .i32 xl, .int .i32 xh]] w fun e w' => e = .returned (.agg #[.int .i32 (xl), .int .i32 (-1)]) ∧ Below w.heap.size w w' := by
 have E := iO xl xh 0 0
 have hb : (xl == 0 && xh == 0) = false := by simp [h1]
 rw [hb] at E
 have d1 : (xl == 0) = false := by simp [h1]
 have d2 : (xh == 0) = true := by simp [h2]
 clear h1 h2
 go_enter Tryz.func48, Tryz.ntmps48
 go_wp2
 refine az abp abp ?_
 repeat (go_big_quiet_step (exact Calls.ay (cN 0 _)))
 refine wpQuiet_nil ?_
 rintro _ ⟨x, rfl⟩
 obtain ⟨hz2, k0, k1, fA⟩ := lK w _ _ _ _ x
 have hz1 : w.heap.size < x.w.heap.size := by omega
 have c0 : x.w.cell? ⟨w.heap.size, 0, none⟩ = some (.int .i32 xl) := by rw [cell_of_row _ _ _ _ _ _ k0]; rfl
 have c1 : x.w.cell? ⟨w.heap.size, 1, none⟩ = some (.int .i32 xh) := by rw [cell_of_row _ _ _ _ _ _ k0]; rfl
 have c2 : x.w.cell? ⟨w.heap.size + 1, 0, none⟩ = some (.int .i32 0) := by rw [cell_of_row _ _ _ _ _ _ k1]; rfl
 have c3 : x.w.cell? ⟨w.heap.size + 1, 1, none⟩ = some (.int .i32 0) := by rw [cell_of_row _ _ _ _ _ _ k1]; rfl
 clear k0 k1 fA
 go_wp2_with (go_at_call 49; refine (Calls.ay (aB _)).mono ?_; rintro e w' ⟨rfl, y, rfl⟩)
 all_goals
  refine bodyPost_ret (v := .agg #[.int .i32 (xl), .int .i32 (-1)]) ?hr rfl ⟨rfl, ?aF⟩
  case hr =>
   simp [results, Tryz.results48, go_sem]
  case aF =>
   exact acA
theorem yR (xl xh : Int) (h1 : xl ≠ 0) (h2 : xh ≠ 0) (w : World) : Calls Tryz.prog 48 #[.agg #[.int .i32 xl, .int .i32 xh]] w fun e w' => e = .returned (.agg #[.int .i32 (xl), .int .i32 (xh)]) ∧ Below w.heap.size w w' := by
 have E := iO xl xh 0 0
 have hb : (xl == 0 && xh == 0) = false := by simp [h1]
 rw [hb] at E
 have d1 : (xl == 0) = false := by simp [h1]
 have d2 : (xh == 0) = false := by simp [h2]
 clear h1 h2
 go_enter Tryz.func48, Tryz.ntmps48
 go_wp2
 refine az abp abp ?_
 repeat (go_big_quiet_step (exact Calls.ay (cN 0 _)))
 refine wpQuiet_nil ?_
 rintro _ ⟨x, rfl⟩
 obtain ⟨hz2, k0, k1, fA⟩ := lK w _ _ _ _ x
 have hz1 : w.heap.size < x.w.heap.size := by omega
 have c0 : x.w.cell? ⟨w.heap.size, 0, none⟩ = some (.int .i32 xl) := by rw [cell_of_row _ _ _ _ _ _ k0]; rfl
 have c1 : x.w.cell? ⟨w.heap.size, 1, none⟩ = some (.int .i32 xh) := by rw [cell_of_row _ _ _ _ _ _ k0]; rfl
 have c2 : x.w.cell? ⟨w.heap.size + 1, 0, none⟩ = some (.int .i32 0) := by rw [cell_of_row _ _ _ _ _ _ k1]; rfl
 have c3 : x.w.cell? ⟨w.heap.size + 1, 1, none⟩ = some (.int .i32 0) := by rw [cell_of_row _ _ _ _ _ _ k1]; rfl
 clear k0 k1 fA
 go_wp2_with (go_at_call 49; refine (Calls.ay (aB _)).mono ?_; rintro e w' ⟨rfl, y, rfl⟩)
 all_goals
  refine bodyPost_ret (v := .agg #[.int .i32 (xl), .int .i32 (xh)]) ?hr rfl ⟨rfl, ?aF⟩
  case hr =>
   simp [results, Tryz.results48, go_sem]
  case aF =>
   exact acA
theorem wJ (xl xh : Int) (w : World) : Calls Tryz.prog 48 #[.agg #[.int .i32 xl, .int .i32 xh]] w fun e w' => e = .returned (.agg #[.int .i32 (eT (xl, xh)).1, .int .i32 (eT (xl, xh)).2]) ∧ Below w.heap.size w w' := by
 by_cases h1 : xl = 0 <;> by_cases h2 : xh = 0
 ·refine (yQ xl xh h1 h2 w).mono fun e w' ⟨q, hb⟩ => ⟨q.trans ?_, hb⟩
  simp [eT, h1, h2]
 ·refine (yS xl xh h1 h2 w).mono fun e w' ⟨q, hb⟩ => ⟨q.trans ?_, hb⟩
  simp [eT, h1, h2]
 ·refine (yT xl xh h1 h2 w).mono fun e w' ⟨q, hb⟩ => ⟨q.trans ?_, hb⟩
  simp [eT, h1, h2]
 ·refine (yR xl xh h1 h2 w).mono fun e w' ⟨q, hb⟩ => ⟨q.trans ?_, hb⟩
  simp [eT, h1, h2]
theorem mQ {r : RG} {k : Nat} (hk : k < r.length) (h : (rg r (k : Int)).2 < (rg r (k : Int)).1) : aC r = false := by
 have : r.all (fun x => decide (x.1 ≤ x.2)) = false := by
  rw [List.all_eq_false]
  refine ⟨rg r (k : Int), List.mem_of_getElem? (eZ hk), ?_⟩
  simp; omega
 simp [aC, this]
theorem pU {r : RG} (h : ∀ k, k < r.length → (rg r (k : Int)).1 ≤ (rg r (k : Int)).2) : aC r = decide (rg r 0 = (0, 0)) := by
 have : r.all (fun x => decide (x.1 ≤ x.2)) = true := by
  rw [List.all_eq_true]
  intro x hx
  obtain ⟨k, hk⟩ := List.mem_iff_getElem?.1 hx
  have hl := (List.getElem?_eq_some_iff.1 hk).1
  have e := eZ hl
  rw [hk] at e
  have := h k hl
  rw [← Option.some.inj e] at this
  simpa using this
 simp [aC, this]
theorem eU (r : RG) (hr : r.length = 16) (w : World) : Calls Tryz.prog 33 #[.agg (aa r).toArray] w fun e w' => e = .returned (.bool (aC r)) ∧ Below w.heap.size w w' := by
 obtain ⟨V, hV⟩ : ∃ V, w.alloc (.cells (aa r).toArray 56) = V := ⟨_, rfl⟩
 have bV : Below w.heap.size w V := hV ▸ (Below.refl _ _).alloc (Nat.le_refl _) _
 have kV : aH V w.heap.size 56 r := by rw [← hV]; exact heap_alloc_new _ _
 have hrg := kV.range
 have DU : (Tryz.prog.info? 56).map (·.size) = some (aa r).length := by rw [ax, hr]; kernel_rfl
 have sV := kV.lt
 have KV := acD kV
 have BV := acD bV
 have HR := acD hr
 clear kV bV hr
 go_enter Tryz.func33, Tryz.ntmps33
 go_upto_region 2 with (refine wpList_load_mid rfl 56 (.tmp 1) rfl w.heap.size 0 rfl (aa r) _ hrg Tryz.underlying56 rfl DU ?_)
 clear hV
 go_loopw [4, 6] (fun a4 a6 wr => ∃ k : Nat, k ≤ 16 ∧ a6 = .int .i64 (k : Int) ∧ (∀ j : Nat, j < k → (rg r (j : Int)).1 ≤ (rg r (j : Int)).2) ∧ Below V.heap.size V wr) (fun _ a6 _ => 16 - (intOf a6).toNat)
 case atStart => exact ⟨0, by omega, rfl, fun j hj => by omega, Below.refl _ _⟩
 case round =>
  obtain ⟨k, hk, rfl, hall, hb⟩ := hrel
  have HA := acD hall
  have HB := acD hb
  have hsz := hb.size
  clear hall hb
  by_cases hlt : k < 16
  ·have dl : decide ((k : Int) < 16) = true := decide_eq_true abo
   have hix := zQ HR.out hlt
   obtain ⟨lo, hlo⟩ : ∃ lo, (rg r (k : Int)).1 = lo := ⟨_, rfl⟩
   obtain ⟨hi, hhi⟩ : ∃ hi, (rg r (k : Int)).2 = hi := ⟨_, rfl⟩
   rw [hlo, hhi] at hix
   have QU := acD hlo
   have QY := acD hhi
   clear hlo hhi
   have Ma := acD (af lo hi)
   by_cases he : hi < lo
   ·have d2 : decide (hi < lo) = true := decide_eq_true he
    go_wp2_with (go_at_call 39; refine (Ma.out _).mono ?_; rintro e w' ⟨rfl, hb2⟩)
    go_ret
    refine ⟨by rw [mQ acu (by rw [QU.out, QY.out]; exact he)]; rfl, BV.out.trans ((HB.out.trans ?_).mono BV.out.size)⟩
    exact (((Below.refl _ _).alloc (Nat.le_refl _) _).trans (hb2.mono aby)).mono hsz
   ·have d2 : decide (hi < lo) = false := decide_eq_false he
    go_wp2_with (go_at_call 39; refine (Ma.out _).mono ?_; rintro e w' ⟨rfl, hb2⟩)
    go_roundw
    case rel =>
     refine ⟨k + 1, by omega, by go_num, fun j hj => ?_, HB.out.trans ((((Below.refl _ _).alloc (Nat.le_refl _) _).trans (hb2.mono aby)).mono hsz)⟩
     by_cases hjk : j = k
     ·subst hjk; rw [QU.out, QY.out]; omega
     ·exact HA.out j abo
    case measure => simp [intOf]; omega
  ·have HK := acD (show k = 16 by omega)
   have HP := acD (pU (r := r) (fun j hj => HA.out j (by rw [HR.out] at hj; rw [HK.out]; exact hj)))
   have KW := KV.out.keep HB.out
   obtain ⟨lo, hlo⟩ : ∃ lo, (rg r 0).1 = lo := ⟨_, rfl⟩
   obtain ⟨hi, hhi⟩ : ∃ hi, (rg r 0).2 = hi := ⟨_, rfl⟩
   have c0 : wr.cell? ⟨w.heap.size, 0, none⟩ = some (.int .i32 lo) := by rw [← hlo]; simpa using KW.lo (k := 0) (by rw [HR.out]; omega)
   have c1 : wr.cell? ⟨w.heap.size, 1, none⟩ = some (.int .i32 hi) := by rw [← hhi]; simpa using KW.hi (k := 0) (by rw [HR.out]; omega)
   have E := iO lo hi 0 0
   have HQ := acD (show aC r = (lo == 0 && hi == 0) by
    rw [HP.out, ← hlo, ← hhi, Bool.eq_iff_iff, decide_eq_true_eq, Bool.and_eq_true, beq_iff_eq, beq_iff_eq, Prod.ext_iff])
   have sW : w.heap.size < wr.heap.size := by omega
   clear KW hlo hhi hrg
   have dl : decide ((k : Int) < 16) = false := decide_eq_false abo
   go_upto_region 7 with fail
   refine az abp abp ?_
   repeat (go_big_quiet_step (exact Calls.ay (cN 0 _)))
   refine wpQuiet_nil ?_
   rintro _ ⟨x, rfl⟩
   go_wp2_with fail
   go_ret
   exact ⟨by rw [HQ.out]; rfl, BV.out.trans ((HB.out.trans (x.h.mono hsz)).mono BV.out.size)⟩
end
section
open Go.RowKit
def cM : Option RG → Value
 | none => .tuple #[.agg (aa aq).toArray, .bool false]
 | some r => .tuple #[.agg (aa r).toArray, .bool true]
theorem aQ {w : World} {ib : Nat} {o a b c i : Int} (h : w.heap[ib]? = some (.cells #[.int .u8 o, .int .i64 a, .int .i64 b, .int .i64 c, .int .i64 i] 64 (0, 0))) :
  w.cell? ⟨ib, 0, none⟩ = some (.int .u8 o) ∧ w.cell? ⟨ib, 1, none⟩ = some (.int .i64 a) ∧ w.cell? ⟨ib, 2, none⟩ = some (.int .i64 b) ∧ w.cell? ⟨ib, 3, none⟩ = some (.int .i64 c) ∧ w.cell? ⟨ib, 4, none⟩ = some (.int .i64 i) ∧ ib < w.heap.size :=
 ⟨cell_of_row _ _ _ _ _ _ h, cell_of_row _ _ _ _ _ _ h, cell_of_row _ _ _ _ _ _ h, cell_of_row _ _ _ _ _ _ h, cell_of_row _ _ _ _ _ _ h, (Array.getElem?_eq_some_iff.1 h).1⟩
theorem cm (w : World) (cA cB cC : Array Value) (tA tB tC : TypeId) : ∃ V, ((w.alloc (.cells cA tA)).alloc (.cells cB tB)).alloc (.cells cC tC) = V ∧ V.heap[w.heap.size]? = some (.cells cA tA (0, 0)) ∧ V.heap[w.heap.size + 1]? = some (.cells cB tB (0, 0)) ∧ V.heap[w.heap.size + 1 + 1]? = some (.cells cC tC (0, 0)) ∧ Below w.heap.size w V ∧ w.heap.size + 1 + 1 < V.heap.size := by
 refine ⟨_, rfl, ?_, ?_, bB _ _ aby, (((Below.refl _ _).alloc (Nat.le_refl _) _).alloc aby _).alloc abA _, by simp⟩
 ·rw [heap_alloc_old _ _ abA, heap_alloc_old _ _ aby]; exact heap_alloc_new _ _
 ·rw [heap_alloc_old _ _ aby]; exact bB _ _ aby
theorem aj (r : RG) : (aa r).toArray.all (·.oneCell') = true := all_oneCell_toArray fun v hv => by
 unfold aa at hv
 obtain ⟨x, _, h⟩ := List.mem_flatMap.1 hv
 simp only [List.mem_cons, List.not_mem_nil, or_false] at h
 rcases h with rfl | rfl <;> rfl
theorem wM (op a b c im : Int) (h0 : 0 ≤ op) (r : RG) (hr : R16 r) (w : World) (T : iU w) (hno : aU ⟨op, a, b, c, im⟩ = false ∨ (aU ⟨op, a, b, c, im⟩ = true ∧ aC r = false)) :
  Calls Tryz.prog 12 #[.agg #[.int .u8 op, .int .i64 a, .int .i64 b, .int .i64 c, .int .i64 im], .agg (aa r).toArray] w fun e w' => e = .returned (cM none) ∧ Below w.heap.size w w' := by
 obtain ⟨V, hV, k0, k1, k2, bV, sV⟩ := cm w #[.int .u8 op, .int .i64 a, .int .i64 b, .int .i64 c, .int .i64 im] (aa r).toArray acM.toArray 64 56 56
 obtain ⟨a0, a1, a2, a3, a4, lV⟩ := aQ k0
 have K1 := acD (show aH V (w.heap.size + 1) 56 r from k1)
 have mG := acD (show (Tryz.prog.info? 56).map (·.size) = some (aa r).length by rw [ax, hr.len]; kernel_rfl)
 have K2 := acD k2
 have BV := acD bV
 have gM := acD (Calls.ext (eM ⟨op, a, b, c, im⟩ h0 V (T.below bV)))
 have j8 := acD (fun x : Ext V => Calls.ay (x := x) (eU r hr.len x.w))
 clear k0 k1 k2 bV
 go_enter Tryz.func12, Tryz.ntmps12
 go_upto_region 1 with fail
 clear hV
 rcases hno with hv | ⟨hv, hp⟩
 ·rw [hv] at gM
  go_wp2_with (first | (go_at_call 32; refine gM.out.mono ?_; rintro e w' ⟨rfl, y, rfl⟩) | (refine wpList_store_row rfl 56 (.tmp 4) (.tmp 16) rfl (w.heap.size + 1 + 1) acM.toArray rfl rfl 56 _ (((Ext.h _).block _ sV).trans K2.out) abp rfl abt ?_))
  refine bodyPost_ret (results_cell_tmp (P := Tryz.prog) Tryz.results12 _ _ (w.heap.size + 1 + 1) acM _ rfl (au (setRow_heap _ _ _ _ _ _ ((y.h.block _ sV).trans K2.out))) Tryz.underlying56 rfl abp) rfl ⟨rfl, below_setRow (BV.out.trans (y.h.mono BV.out.size)) abo _⟩
 ·rw [hv] at gM
  rw [hp] at j8
  go_wp2_with (first | (go_at_call 32; refine gM.out.mono ?_; rintro e w' ⟨rfl, y, rfl⟩) | (go_at_call 33; refine (j8.out _).mono ?_; rintro e w' ⟨rfl, z, rfl⟩) | (refine bu abx _ _ rfl _ _ rfl (aa r) _ (K1.out.keep (Ext.h _)).range Tryz.underlying56 rfl mG.out ?_) | (refine wpList_store_row rfl 56 (.tmp 4) (.tmp 16) rfl (w.heap.size + 1 + 1) acM.toArray rfl rfl 56 _ (((Ext.h _).block _ sV).trans K2.out) abp rfl abt ?_))
  refine bodyPost_ret (results_cell_tmp (P := Tryz.prog) Tryz.results12 _ _ (w.heap.size + 1 + 1) acM _ rfl (au (setRow_heap _ _ _ _ _ _ ((z.h.block _ sV).trans K2.out))) Tryz.underlying56 rfl abp) rfl ⟨rfl, below_setRow (BV.out.trans (z.h.mono BV.out.size)) abo _⟩
theorem wV {r : RG} (hl : r.length = 16) (h0 : rg r 0 = (0, 0)) (an : Nat) (x : Int × Int) : (r.set an x).set 0 (0, 0) = aW r (an : Int) x := by
 have hz : r.set 0 (0, 0) = r := by
  apply List.ext_getElem?
  intro i
  by_cases hi : i = 0
  ·subst hi
   rw [List.getElem?_set]
   have := eZ (r := r) (k := 0) abo
   rw [show ((0 : Nat) : Int) = 0 from rfl] at this
   rw [this]
   simp [hl]
   exact h0.symm
  ·rw [List.getElem?_set]; simp [Ne.symm hi]
 unfold aW
 by_cases ha : an = 0
 ·subst ha
  simp [hz]
 ·rw [if_neg abo, List.set_comm _ _ ha, hz]
  simp
theorem um {r : RG} (hl : r.length = 16) (h0 : rg r 0 = (0, 0)) : r.set 0 (0, 0) = r := by
 have h := wV hl h0 0 (0, 0)
 rw [List.set_set] at h
 rw [h]
 rfl
theorem kP {r : RG} (h : aC r = true) : rg r 0 = (0, 0) := by
 unfold aC at h
 rw [Bool.and_eq_true, decide_eq_true_eq] at h
 exact h.2
end
section
open Go.RowKit
theorem r8 (w : World) (cA cB cC cD : Array Value) (tA tB tC tD : TypeId) : ∃ V, (((w.alloc (.cells cA tA)).alloc (.cells cB tB)).alloc (.cells cC tC)).alloc (.cells cD tD) = V ∧ V.heap[w.heap.size]? = some (.cells cA tA (0, 0)) ∧ V.heap[w.heap.size + 1]? = some (.cells cB tB (0, 0)) ∧ V.heap[w.heap.size + 1 + 1]? = some (.cells cC tC (0, 0)) ∧ V.heap[w.heap.size + 1 + 1 + 1]? = some (.cells cD tD (0, 0)) ∧ Below w.heap.size w V ∧ w.heap.size + 1 + 1 + 1 < V.heap.size := by
 obtain ⟨V, e, h0, h1, h2, hb, hs⟩ := cm w cA cB cC tA tB tC
 have hs3 : V.heap.size = w.heap.size + 1 + 1 + 1 := by rw [← e]; simp
 refine ⟨V.alloc (.cells cD tD), by rw [← e], ?_, ?_, ?_, ?_, hb.alloc abo _, by simp; omega⟩
 ·rw [heap_alloc_old _ _ abo]; exact h0
 ·rw [heap_alloc_old _ _ abo]; exact h1
 ·rw [heap_alloc_old _ _ abo]; exact h2
 ·rw [← hs3]; exact heap_alloc_new _ _
theorem rQ {x y z : RG} {F : Int × Int → Int × Int → Int × Int} (hx : x.length = 16) (hy : y.length = 16) (hz : z.length = 16) (h : ∀ j : Nat, j < 16 → rg z (j : Int) = F (rg x (j : Int)) (rg y (j : Int))) : z = List.zipWith F x y := by
 apply List.ext_getElem?
 intro i
 by_cases hi : i < 16
 ·have := h i hi
  rw [eZ abo, this]
  rw [List.getElem?_zipWith, eZ abo, eZ abo]
 ·rw [List.getElem?_eq_none abo, List.getElem?_eq_none (by rw [List.length_zipWith]; omega)]
theorem jc (fid : FuncId) (F : Int × Int → Int × Int → Int × Int) (he : ∀ (args : Array Value) (w : World), (callFunc fid args).run Tryz.prog w = .ok (.enter fid args) w)
  (hF : ∀ a b c d w, Calls Tryz.prog fid #[.agg #[.int .i32 a, .int .i32 b], .agg #[.int .i32 c, .int .i32 d]] w fun e w' => e = .returned (.agg #[.int .i32 (F (a, b) (c, d)).1, .int .i32 (F (a, b) (c, d)).2]) ∧ Below w.heap.size w w')
  (x y : RG) (hx : x.length = 16) (hy : y.length = 16) (w : World) :
  Calls Tryz.prog 63 #[.agg (aa x).toArray, .agg (aa y).toArray, .func (.func fid) #[] #[]] w fun e w' => e = .returned (.agg (aa (List.zipWith F x y)).toArray) ∧ Below w.heap.size w w' := by
 obtain ⟨V, hV, k0, k1, k2, k3, bV, sV⟩ := r8 w (aa x).toArray (aa y).toArray acM.toArray acM.toArray 56 56 56 56
 have K0 := acD (show aH V w.heap.size 56 x from k0)
 have K1 := acD (show aH V (w.heap.size + 1) 56 y from k1)
 have K2 := acD k2
 have K3 := acD (show aH V (w.heap.size + 1 + 1 + 1) 56 aq from k3)
 have BV := acD bV
 have HX := acD hx
 have HY := acD hy
 have HF := acD hF
 clear k0 k1 k2 k3 bV hF hx hy
 go_enter Tryz.func63, Tryz.ntmps63
 go_upto_region 3 with fail
 clear hV
 go_loopw [9] (fun a9 wr => ∃ k : Nat, ∃ z : RG, k ≤ 16 ∧ a9 = .int .i64 (k : Int) ∧ z.length = 16 ∧ (∀ j : Nat, j < k → rg z (j : Int) = F (rg x (j : Int)) (rg y (j : Int))) ∧ Below (w.heap.size + 1 + 1 + 1) V wr ∧ aH wr (w.heap.size + 1 + 1 + 1) 56 z) (fun a9 _ => 16 - (intOf a9).toNat)
 case atStart => exact ⟨0, aq, by omega, rfl, by simp [aq], fun j hj => by omega, Below.refl _ _, K3.out⟩
 case round =>
  obtain ⟨k, z, hk, rfl, hz, hall, hb, kz⟩ := hrel
  have HA := acD hall
  have HB := acD hb
  have HZ := acD hz
  have UO := acD hb.size
  clear hall hb hz
  by_cases hlt : k < 16
  ·have dl : decide ((k : Int) < 16) = true := decide_eq_true abo
   have ik : (k : Int) < 16 := by omega
   have KX : aH wr w.heap.size 56 x := (HB.out.block _ abo).trans K0.out
   have KY : aH wr (w.heap.size + 1) 56 y := (HB.out.block _ abo).trans K1.out
   obtain ⟨xl, hxl⟩ : ∃ v, (rg x (k : Int)).1 = v := ⟨_, rfl⟩
   obtain ⟨xh, DI⟩ : ∃ v, (rg x (k : Int)).2 = v := ⟨_, rfl⟩
   obtain ⟨yl, DF⟩ : ∃ v, (rg y (k : Int)).1 = v := ⟨_, rfl⟩
   obtain ⟨yh, DG⟩ : ∃ v, (rg y (k : Int)).2 = v := ⟨_, rfl⟩
   have c0 : wr.cell? ⟨w.heap.size, k * 2, none⟩ = some (.int .i32 xl) := by rw [← hxl]; exact KX.lo (by rw [HX.out]; exact hlt)
   have c1 : wr.cell? ⟨w.heap.size, k * 2 + 1, none⟩ = some (.int .i32 xh) := by rw [← DI]; exact KX.hi (by rw [HX.out]; exact hlt)
   have c2 : wr.cell? ⟨w.heap.size + 1, k * 2, none⟩ = some (.int .i32 yl) := by rw [← DF]; exact KY.lo abR
   have c3 : wr.cell? ⟨w.heap.size + 1, k * 2 + 1, none⟩ = some (.int .i32 yh) := by rw [← DG]; exact KY.hi abR
   have l0 : w.heap.size < wr.heap.size := KX.lt
   have l1 : w.heap.size + 1 < wr.heap.size := KY.lt
   have l3 : w.heap.size + 1 + 1 + 1 < wr.heap.size := kz.lt
   have f0 : wr.frozen? ⟨w.heap.size + 1 + 1 + 1, k * 2, none⟩ = false := kz.fz _
   have f1 : wr.frozen? ⟨w.heap.size + 1 + 1 + 1, k * 2 + 1, none⟩ = false := kz.fz _
   have z0 : wr.cell? ⟨w.heap.size + 1 + 1 + 1, k * 2, none⟩ = some (.int .i32 (rg z (k : Int)).1) := kz.lo abJ
   have z1 : wr.cell? ⟨w.heap.size + 1 + 1 + 1, k * 2 + 1, none⟩ = some (.int .i32 (rg z (k : Int)).2) := kz.hi abJ
   obtain ⟨p, q, hp⟩ : ∃ p q, F (xl, xh) (yl, yh) = (p, q) := ⟨_, _, rfl⟩
   have HG := acD (show ∀ w, Calls Tryz.prog fid #[.agg #[.int .i32 xl, .int .i32 xh], .agg #[.int .i32 yl, .int .i32 yh]] w fun e w' => e = .returned (.agg #[.int .i32 p, .int .i32 q]) ∧ Below w.heap.size w w' from fun w => by
    have := HF.out xl xh yl yh w
    rw [hp] at this
    exact this)
   have HP := acD (show F (rg x (k : Int)) (rg y (k : Int)) = (p, q) by rw [← hp, ← hxl, ← DI, ← DF, ← DG])
   have KZ := acD kz
   clear hp hxl DI DF DG KX KY kz
   go_upto_region 5 with fail
   refine aG 9 abp abp ?_
   simp only [acK, List.take_zero, acL, List.drop_zero]
   repeat (go_big_quiet_step (exact Calls.ay (HG.out _)))
   refine wpQuiet_nil ?_
   rintro _ ⟨x1, rfl⟩
   go_wp2_with fail
   go_roundw
   case rel =>
    refine ⟨k + 1, z.set k (p, q), by omega, by go_num, by rw [List.length_set]; exact HZ.out, fun j hj => ?_, ?_, (KZ.out.keep x1.h).set k (p, q)⟩
    ·by_cases hjk : j = k
     ·subst hjk
      rw [HP.out, dH]
      simp [List.getD, show j < z.length by rw [HZ.out]; exact hlt]
     ·have := HA.out j abo
      rw [← this, dH, dH]
      simp [List.getD, List.getElem?_set, Ne.symm hjk]
    ·exact Below.setCell (Below.setCell (HB.out.trans (x1.h.mono (by have := UO.out; omega))) (Nat.le_refl _) _) (Nat.le_refl _) _
   case measure => simp [intOf]; omega
  ·obtain rfl : k = 16 := by omega
   have HR := acD (rQ HX.out HY.out HZ.out HA.out)
   have gK := acD kz.range
   have yK := acD (show (Tryz.prog.info? 56).map (·.size) = some (aa z).length by rw [ax, HZ.out]; kernel_rfl)
   have wC := acD (show (Tryz.prog.info? 56).map (·.size) = some (aa z).toArray.size by rw [List.size_toArray, ax, HZ.out]; kernel_rfl)
   have KQ := acD (show (acM.toArray : Array Value).size = (aa z).toArray.size by rw [show (aa z).toArray.size = 32 by rw [List.size_toArray, ax, HZ.out]]; rfl)
   have wq := acD (aj z)
   have KO := acD ((HB.out.block _ abo).trans K2.out)
   go_wp2_with (first | (refine wpList_load_mid rfl _ _ rfl _ _ rfl (aa z) _ gK.out Tryz.underlying56 rfl yK.out ?_) | (refine wpList_store_row rfl 56 (.tmp 6) (.tmp 23) rfl (w.heap.size + 1 + 1) (aa z).toArray rfl rfl 56 _ KO.out wC.out KQ.out wq.out ?_))
   refine bodyPost_ret (eH (P := Tryz.prog) Tryz.results63 _ _ (w.heap.size + 1 + 1) (aa z) _ rfl (au (setRow_heap _ _ _ _ _ _ KO.out)) Tryz.underlying56 rfl yK.out) rfl ⟨?_, below_setRow (BV.out.trans (HB.out.mono abo)) abo _⟩
   rw [HR.out]
end
section
open Go.RowKit
theorem rW (l : List Int) : aP (aD l).1 ∧ aP (aD l).2 := by
 rcases rU l with h | ⟨h, h1, h2⟩
 ·rw [h]; unfold aP; simp only; omega
 ·rw [h]
  have h3 : zL l ≤ zS l := by
   by_cases hl : l = []
   ·subst hl; decide
   ·exact Int.le_trans (Gz (nW hl)) (GG (nW hl))
  unfold aP
  simp only
  omega
theorem K8 (a n : Bool) : aP (eD a n).1 ∧ aP (eD a n).2 := by cases a <;> cases n <;> (unfold eD aP; simp)
theorem zI {x y : Int × Int} (hx : aP x.1 ∧ aP x.2) (hy : aP y.1 ∧ aP y.2) : aP (aJ x y).1 ∧ aP (aJ x y).2 := by
 unfold aJ aP at *
 split <;> simp only <;> omega
theorem Mk {x y : Int} (h : aP x) : aP (x.tmod y) := by
 unfold aP at *
 have h1 := Int.natAbs_tmod x y
 have h2 : x.natAbs % y.natAbs ≤ x.natAbs := Nat.mod_le _ _
 by_cases h0 : 0 ≤ x
 ·have := Int.tmod_nonneg y h0
  omega
 ·have h3 : 0 ≤ (-x).tmod y := Int.tmod_nonneg y abo
  rw [Int.neg_tmod] at h3
  omega
theorem FL {a : Int} (h : aP a) (n : Nat) : aP (a / 2 ^ n) := by
 have h1 := vu a n
 unfold aP at *
 by_cases h2 : 0 ≤ a
 ·have := h1.1 h2; omega
 ·have := h1.2 abo; omega
theorem Ql (b : Bool) : aP (jq b) := by cases b <;> (unfold aP jq; simp)
theorem O7 {c : Prop} [Decidable c] {a b : Int} (ha : aP a) (hb : aP b) : aP (if c then a else b) := by split <;> assumption
theorem OC {op a b : Int} (ha : aP a) : aP (wv op a b) := by
 have z : aP 0 := by unfold aP; omega
 unfold wv
 repeat' (first | exact eR _ | exact mq _ _ _ | exact Ql _ | exact z | exact Mk ha | exact FL ha _ | refine O7 ?_ ?_)
theorem fR {op : Int} {x y : Int × Int} (hx : aP x.1 ∧ aP x.2) (hy : aP y.1 ∧ aP y.2) : aP (aN op x y).1 ∧ aP (aN op x y).2 := by
 have full : aP ((-2147483648, 2147483647) : Int × Int).1 ∧ aP ((-2147483648, 2147483647) : Int × Int).2 := by unfold aP; simp
 have em : aP ((1, 0) : Int × Int).1 ∧ aP ((1, 0) : Int × Int).2 := by unfold aP; simp
 unfold aN
 split
 ·exact full
 split
 ·exact em
 rename_i ne
 split
 ·split
  ·rename_i h
   exact ⟨OC hx.1, OC hx.1⟩
  ·exact em
 unfold fq
 split; exact rW _
 split; exact rW _
 split; exact rW _
 split
 ·unfold kF
  split; exact em
  split; exact full
  exact rW _
 split
 ·unfold eV
  split
  ·exact em
  ·unfold aP o7 at *
   simp only
   constructor <;> split <;> omega
 split
 ·unfold kG
  have ho : ∀ n : Int, aP n → 0 ≤ n → aP (eK n) := fun n h1 h2 => by
   have h3 := zH (n := n) (m := 2147483647) h1.2
   have h4 := GF h2 h1.2
   have h5 : eK 2147483647 = 2147483647 := by decide
   unfold aP at *
   omega
  have hm : aP (max x.2 y.2) := by unfold aP at *; omega
  split; · unfold aP at *; simp only; omega
  split; · unfold aP at *; simp only; omega
  split; · unfold aP at *; simp only; omega
  split
  ·refine ⟨by unfold aP at *; simp only; omega, ho _ hm abo⟩
  split; · unfold aP at *; simp only; omega
  split
  ·refine ⟨by unfold aP; simp, ho _ hm abo⟩
  exact full
 split
 ·unfold tE
  split
  ·split
   ·exact rW _
   ·exact full
  ·split
   ·exact ⟨FL hx.1 _, FL hx.2 _⟩
   ·unfold aP at *
    simp only
    constructor <;> split <;> omega
 split
 ·unfold sF
  (repeat' split) <;> exact K8 _ _
 ·unfold vP
  split <;> exact K8 _ _
theorem Bi {i : aZ} (hv : aU i = true) (h0 : 0 ≤ i.op) : aP i.aS ∧ aP (i.aS - 1) := by
 obtain ⟨k, hk⟩ := (cU h0).1 hv
 have h1 := hk.aS
 have h2 : ∀ k, k < 30 → -131072 ≤ kf k ∧ kj k ≤ 131071 := by decide
 have := h2 k hk.lt
 unfold aP
 omega
theorem gT {i : aZ} {r r' : RG} (h0 : 0 ≤ i.op) (hr : R16 r) (h : bT i r = some r') : R16 r' := by
 unfold bT at h
 split at h
 ·rename_i hv
  obtain ⟨w1, w2⟩ := Bi hv.1 h0
  have z : aP 0 := by unfold aP; omega
  split at h
  ·split at h
   ·cases h
   ·cases h
    exact hr.aW _ (fR (hr.at_ _) (hr.at_ _))
  split at h
  ·cases h; exact hr.aW _ ⟨w1, w1⟩
  split at h
  ·cases h; exact hr.aW _ (fR (hr.at_ _) ⟨w1, w1⟩)
  split at h
  ·cases h; exact hr.aW _ (fR (hr.at_ _) ⟨w1, w1⟩)
  split at h
  ·cases h; exact hr.aW _ (fR (hr.at_ _) ⟨w1, w1⟩)
  split at h
  ·cases h; exact hr.aW _ (by unfold uP aP; simp)
  split at h
  ·split at h
   ·cases h
   ·cases h; exact hr.aW _ (zI (hr.at_ _) ⟨z, w2⟩)
  cases h
  exact hr
 ·cases h
theorem Gk {op : Int} {t : Bool} {x : Int × Int} (hx : aP x.1 ∧ aP x.2) : aP (jP op t x).1 ∧ aP (jP op t x).2 := by
 unfold jP
 split
 ·exact zI hx (by unfold aP; simp)
 ·unfold eT aP at *
  (repeat' split) <;> first | omega | (simp only; omega)
theorem dB {i : aZ} {r r' : RG} {t : Bool} (hr : R16 r) (h : dI i r t = some r') : R16 r' := by
 unfold dI at h
 split at h
 ·split at h
  ·split at h
   ·cases h
   ·cases h; exact hr.aW _ (Gk (hr.at_ _))
  split at h
  ·split at h
   ·cases h; exact hr
   ·cases h
  ·split at h
   ·cases h
   ·cases h; exact hr
 ·cases h
theorem jK : ∀ {l : List aZ} {r r' : RG}, (∀ i ∈ l, 0 ≤ i.op) → R16 r → cQ l r = some r' → R16 r'
 | [], r, r', _, hr, h => by cases h; exact hr
 | i :: l, r, r', ho, hr, h => by
  unfold cQ at h
  cases e : bT i r with
  | none => rw [e] at h; cases h
  | some x =>
   rw [e] at h
   exact jK (fun j hj => ho j (List.mem_cons_of_mem _ hj)) (gT (ho i (List.mem_cons_self ..)) hr e) h
theorem lp {last : aZ} {m k : Nat} {r r' : RG} (hr : R16 r) (h : dK last m k r = some r') : R16 r' := by
 unfold dK at h
 split at h
 ·cases h; exact hr
 split at h
 ·exact dB hr h
 ·split at h
  ·exact dB hr h
  ·rename_i h1 _
   cases h
   exact dB hr h1
  ·rename_i h1 h2
   cases h
   exact (dB hr h1).join (dB hr h2)
theorem wL {n : Nat} {last : aZ} {nx : List Int} {bI : RG} (ha : R16 bI) (gQ : ∀ t ∈ nx, 0 ≤ t ∧ t < n) {s : AS} (hs : wA n s) : ∀ k, k ≤ nx.length → wA n (gN last nx bI s k).1 ∧ ((gN last nx bI s k).2 = true → gH (gN last nx bI s k).1 n < gH s n) ∧ ((gN last nx bI s k).2 = false → (gN last nx bI s k).1 = s)
 | 0, _ => ⟨hs, (fun h => by cases h), fun _ => rfl⟩
 | k + 1, hk => by
  obtain ⟨h1, h2, h3⟩ := wL ha gQ hs k abo
  have ht : 0 ≤ nx.getD k 0 ∧ nx.getD k 0 < n := by
   have e : nx.getD k 0 = nx[k] := by simp [List.getD, List.getElem?_eq_getElem (show k < nx.length by omega)]
   rw [e]
   exact gQ _ (List.getElem_mem _)
  obtain ⟨g1, g2, g3⟩ := gW h1 (t := (nx.getD k 0).toNat) abo (dK last nx.length k bI) (fun r hr => lp ha hr)
  unfold gN
  simp only
  refine ⟨g1, fun h => ?_, fun h => ?_⟩
  ·rw [Bool.or_eq_true] at h
   cases q1 : (gN last nx bI s k).2 <;> cases q2 : (cy (gN last nx bI s k).1 (nx.getD k 0).toNat (dK last nx.length k bI)).2
   ·rw [q1, q2] at h; simp at h
   ·have := g2 q2; rw [h3 q1] at this ⊢; exact this
   ·rw [g3 q2]; exact h2 q1
   ·have := g2 q2; have := h2 q1; omega
  ·rw [Bool.or_eq_false_iff] at h
   rw [g3 h.2, h3 h.1]
structure K6 (n : Nat) (b : AB) : Prop where
 op : ∀ i ∈ b.code, 0 ≤ i.op
 nx : ∀ t ∈ b.nx, 0 ≤ t ∧ t < n
theorem Fv {n : Nat} {b : AB} (hb : K6 n b) {s : AS} (hs : wA n s) {k : Nat} (hk : k < n) : wA n (fS b k s).1 ∧ ((fS b k s).2 = true → gH (fS b k s).1 n < gH s n) ∧ ((fS b k s).2 = false → (fS b k s).1 = s) := by
 unfold fS
 split
 ·exact ⟨hs, (fun h => by cases h), fun _ => rfl⟩
 ·rename_i bI h
  exact wL (jK hb.op (hs.get hk) h) hb.nx hs _ (Nat.le_refl _)
theorem oW {n : Nat} {B : List AB} (hB : ∀ b ∈ B, K6 n b) (hl : B.length = n) {s : AS} (hs : wA n s) : ∀ k, k ≤ n → wA n (bQ B s k).1 ∧ ((bQ B s k).2 = true → gH (bQ B s k).1 n < gH s n) ∧ ((bQ B s k).2 = false → (bQ B s k).1 = s)
 | 0, _ => ⟨hs, (fun h => by cases h), fun _ => rfl⟩
 | k + 1, hk => by
  obtain ⟨h1, h2, h3⟩ := oW hB hl hs k abo
  have e : B.getD k ⟨[], []⟩ = B[k]'abo := by simp [List.getD, List.getElem?_eq_getElem (show k < B.length by omega)]
  obtain ⟨g1, g2, g3⟩ := Fv (hB _ (List.getElem_mem (show k < B.length by omega))) h1 (k := k) abo
  rw [← e] at g1 g2 g3
  unfold bQ
  simp only
  split
  ·simp only
   refine ⟨g1, fun h => ?_, fun h => ?_⟩
   ·rw [Bool.or_eq_true] at h
    cases q1 : (bQ B s k).2 <;> cases q2 : (fS (B.getD k ⟨[], []⟩) k (bQ B s k).1).2
    ·rw [q1, q2] at h; simp at h
    ·have := g2 q2; rw [h3 q1] at this ⊢; exact this
    ·rw [g3 q2]; exact h2 q1
    ·have := g2 q2; have := h2 q1; omega
   ·rw [Bool.or_eq_false_iff] at h
    rw [g3 h.2, h3 h.1]
  ·exact ⟨h1, h2, h3⟩
theorem qP (n : Nat) : wA n (ct n) := by
 refine ⟨by simp [ct], by simp [ct], by simp [ct], fun r hr => by rw [(List.mem_replicate.1 hr).2]; exact R16.zero, fun x hx => ?_⟩
 rw [(List.mem_replicate.1 hx).2]
 have hb : ∀ k, kA (ct n) k ≤ 70 := fun k => by
  unfold kA
  split
  ·exact Nat.le_refl _
  ·have h : mD ((ct n).bH.getD k []) ≤ 64 := by
    have := vJ (r := (ct n).bH.getD k [])
    have hl : ((ct n).bH.getD k []).length ≤ 16 := by
     unfold ct
     simp only [List.getD]
     by_cases hk : k < n
     ·simp [hk, aq]
     ·simp [hk]
    omega
   omega
 have : ∀ m, ((List.range m).map (kA (ct n))).sum ≤ 70 * m := fun m => by
  induction m with
  | zero => simp
  | succ m ih =>
   simp only [List.range_succ, List.map_append, List.map_cons, List.map_nil, List.sum_append, List.sum_cons, List.sum_nil]
   have := hb m
   omega
 have := this n
 unfold gH
 omega
end
section
open Go.RowKit
def eX (l : List aZ) : List Value := l.flatMap fun i => [.int .u8 i.op, .int .i64 i.a, .int .i64 i.b, .int .i64 i.c, .int .i64 i.aS]
theorem fK : ∀ (l : List aZ) (k j : Nat) (i : aZ), l[k]? = some i → j < 5 → (eX l)[k * 5 + j]? = [Value.int .u8 i.op, .int .i64 i.a, .int .i64 i.b, .int .i64 i.c, .int .i64 i.aS][j]?
 | y :: L, 0, j, x, h, hj => by
  simp at h; subst h
  unfold eX
  rw [List.flatMap_cons, Nat.zero_mul, Nat.zero_add, List.getElem?_append_left (by simpa using hj)]
 | y :: L, k + 1, j, x, h, hj => by
  have h' : L[k]? = some x := by simpa using h
  have ih := fK L k j x h' hj
  unfold eX at ih ⊢
  rw [List.flatMap_cons, List.getElem?_append_right abA, ← ih]
  simp only [List.length_cons, List.length_nil]
  congr 1
  omega
theorem tP (l : List aZ) (i : aZ) : eX (l ++ [i]) = eX l ++ [.int .u8 i.op, .int .i64 i.a, .int .i64 i.b, .int .i64 i.c, .int .i64 i.aS] := by simp [eX]
def jk (L : List RG) : List Value := L.flatMap aa
theorem gz : ∀ {L : List RG}, (∀ r ∈ L, r.length = 16) → (jk L).length = L.length * 32
 | [], _ => rfl
 | r :: L, h => by
  have ih := gz (L := L) (fun x hx => h x (List.mem_cons_of_mem _ hx))
  have h1 := h r (List.mem_cons_self ..)
  unfold jk at ih ⊢
  rw [List.flatMap_cons, List.length_append, ih, ax, h1, List.length_cons]
  omega
theorem iY : ∀ {L : List RG} {k : Nat} {r : RG}, (∀ r ∈ L, r.length = 16) → L[k]? = some r → ∀ j, j < 32 → (jk L)[k * 32 + j]? = (aa r)[j]?
 | y :: L, 0, r, h, hk, j, hj => by
  simp at hk; subst hk
  unfold jk
  rw [List.flatMap_cons, Nat.zero_mul, Nat.zero_add, List.getElem?_append_left (by rw [ax, h y (List.mem_cons_self ..)]; omega)]
 | y :: L, k + 1, r, h, hk, j, hj => by
  have hk' : L[k]? = some r := by simpa using hk
  have ih := iY (fun x hx => h x (List.mem_cons_of_mem _ hx)) hk' j hj
  unfold jk at ih ⊢
  rw [List.flatMap_cons, List.getElem?_append_right (by rw [ax, h y (List.mem_cons_self ..)]; omega), ← ih, ax, h y (List.mem_cons_self ..)]
  congr 1
  omega
theorem xe {L : List RG} (h : ∀ r ∈ L, r.length = 16) {k : Nat} (hk : k < L.length) {r : RG} (hr : r.length = 16) :
  (jk L).take (k * 32) ++ aa r ++ (jk L).drop (k * 32 + 32) = jk (L.set k r) := by
 have hl := gz h
 have h' : ∀ x ∈ L.set k r, x.length = 16 := fun x hx => by rcases List.mem_or_eq_of_mem_set hx with h1 | rfl; exact h _ h1; exact hr
 have hl' := gz h'
 rw [List.length_set] at hl'
 have hc : (aa r).length = 32 := by rw [ax, hr]
 apply List.ext_getElem?
 intro q
 by_cases hq : q < L.length * 32
 ·obtain ⟨a, b, hb, rfl⟩ : ∃ a b, b < 32 ∧ q = a * 32 + b := ⟨q / 32, q % 32, Nat.mod_lt _ abo, by omega⟩
  have ha : a < L.length := by omega
  by_cases e : a = k
  ·subst e
   rw [iY h' (r := r) (by simp [ha]) b hb, List.append_assoc, List.getElem?_append_right acj, List.length_take, Nat.min_eq_left abo, show a * 32 + b - a * 32 = b by omega, List.getElem?_append_left abo]
  ·rw [iY h' (r := L[a]) (by rw [List.getElem?_set]; simp [Ne.symm e, ha]) b hb, ← iY h (List.getElem?_eq_getElem ha) b hb]
   by_cases e2 : a < k
   ·rw [List.append_assoc, List.getElem?_append_left acj, List.getElem?_take, if_pos abo]
   ·rw [List.getElem?_append_right (by rw [List.length_append, List.length_take]; omega), List.length_append, List.length_take, hc, Nat.min_eq_left abo, List.getElem?_drop]
    congr 1
    omega
 ·rw [List.getElem?_eq_none (by rw [List.length_append, List.length_append, List.length_take, List.length_drop, hc]; omega), List.getElem?_eq_none abo]
structure An (V w : World) (ab cb rb ib pb : Nat) (bv pv : Value) (G : List dL) (B : List AB) (val : Nat → Value) (s : AS) : Prop where
 aF : Below V.heap.size V w
 Nj : gh V bv G
 lG : G.length = B.length
 Uk : ∀ (k : Nat) (x : dL) (b : AB), G[k]? = some x → B[k]? = some b → x.nx = b.nx
 lB : B.length ≤ 1000000
 aV : V.heap.size ≤ ab
 rV : V.heap.size ≤ rb
 iV : V.heap.size ≤ ib
 pV : V.heap.size ≤ pb
 head : w.heap[ab]? = some (.cells #[bv, pv, .slice (some ⟨cb, 0, none⟩) B.length B.length, .slice (some ⟨rb, 0, none⟩) B.length B.length, .slice (some ⟨ib, 0, none⟩) B.length B.length, .slice (some ⟨pb, 0, none⟩) B.length B.length] 84 (0, 0))
 lu : w.ownsRow V.heap.size 50 1 (.slice (some ⟨cb, 0, none⟩) B.length B.length) B.length ((List.range B.length).map val)
 own : ∀ (k : Nat) (b : AB), B[k]? = some b → w.ownsRow V.heap.size 64 5 (val k) b.code.length (eX b.code)
 dZ : w.heap[rb]? = some (.cells (s.reach.map Value.bool).toArray 4 (0, 0))
 eC : w.heap[ib]? = some (.cells (jk s.bH).toArray 56 (0, 0))
 cP : w.heap[pb]? = some (.cells (s.rep.map (Value.int .i64)).toArray 3 (0, 0))
 kH : wA B.length s
section
variable {V w : World} {ab cb rb ib pb : Nat} {bv pv : Value} {G : List dL} {B : List AB} {val : Nat → Value} {s : AS}
theorem An.lt (h : An V w ab cb rb ib pb bv pv G B val s) : ab < w.heap.size ∧ cb < w.heap.size ∧ rb < w.heap.size ∧ ib < w.heap.size ∧ pb < w.heap.size :=
 ⟨ag h.head, (h.lu.lt cb rfl).2, ag h.dZ, ag h.eC, ag h.cP⟩
theorem dW {w : World} {B : Nat} {e : TypeId} {z n q : Nat} {v : Value} {xs : List Value} (h : w.ownsRow B e z v n xs) (hq : v.ownBlock = some q) : ∃ cs, w.heap[q]? = some (.cells cs e (0, 0)) := by
 rcases h.2 with ⟨rfl, _⟩ | ⟨g, cap, cur, rfl, _, hg, _⟩
 ·cases hq
 ·cases hq; exact ⟨_, hg⟩
theorem aL {w : World} {q q' : Nat} {cs cs' : Array Value} {e e' : TypeId} (h : w.heap[q]? = some (.cells cs e (0, 0))) (h' : w.heap[q']? = some (.cells cs' e' (0, 0))) (hne : e ≠ e') : q ≠ q' := by
 rintro rfl
 rw [h] at h'
 cases h'
 exact hne rfl
theorem An.ne (h : An V w ab cb rb ib pb bv pv G B val s) : ab ≠ rb ∧ ab ≠ ib ∧ ab ≠ pb ∧ cb ≠ rb ∧ cb ≠ ib ∧ cb ≠ pb ∧ rb ≠ ib ∧ rb ≠ pb ∧ ib ≠ pb := by
 obtain ⟨cs, hc⟩ := dW h.lu (q := cb) rfl
 exact ⟨aL h.head h.dZ abr, aL h.head h.eC abr, aL h.head h.cP abr, aL hc h.dZ abr, aL hc h.eC abr, aL hc h.cP abr, aL h.dZ h.eC abr, aL h.dZ h.cP abr, aL h.eC h.cP abr⟩
def uh (rb ib pb : Nat) : Nat → Prop := fun k => k = rb ∨ k = ib ∨ k = pb
theorem An.to {w' : World} {s' : AS} (h : An V w ab cb rb ib pb bv pv G B val s) (hf : Fr (uh rb ib pb) w w')
  (hr : w'.heap[rb]? = some (.cells (s'.reach.map Value.bool).toArray 4 (0, 0))) (hi : w'.heap[ib]? = some (.cells (jk s'.bH).toArray 56 (0, 0)))
  (hp : w'.heap[pb]? = some (.cells (s'.rep.map (Value.int .i64)).toArray 3 (0, 0))) (ha : wA B.length s') : An V w' ab cb rb ib pb bv pv G B val s' := by
 obtain ⟨n1, n2, n3, n4, n5, n6, _⟩ := h.ne
 have hS : ∀ k, uh rb ib pb k → V.heap.size ≤ k := fun k hk => by
  have := h.rV; have := h.iV; have := h.pV
  rcases hk with rfl | rfl | rfl <;> assumption
 have hq : ∀ {e : TypeId} {z n : Nat} {v : Value} {xs : List Value}, w.ownsRow V.heap.size e z v n xs → e ≠ 4 → e ≠ 56 → e ≠ 3 → ∀ q, v.ownBlock = some q → ¬ uh rb ib pb q := fun ho e1 e2 e3 q hq hk => by
  obtain ⟨cs, hc⟩ := dW ho hq
  rcases hk with rfl | rfl | rfl
  ·exact aL hc h.dZ e1 rfl
  ·exact aL hc h.eC e2 rfl
  ·exact aL hc h.cP e3 rfl
 refine ⟨h.aF.trans (hf.below h.aF.size hS), h.Nj, h.lG, h.Uk, h.lB, h.aV, h.rV, h.iV, h.pV, ?_, ?_, fun k b hk => ?_, hr, hi, hp, ha⟩
 ·rw [hf.block ab h.lt.1 (by unfold uh; omega)]; exact h.head
 ·exact hf.own h.lu (hq h.lu abr abr abr)
 ·exact hf.own (h.own k b hk) (hq (h.own k b hk) abr abr abr)
theorem An.below {w' : World} (h : An V w ab cb rb ib pb bv pv G B val s) (hb : Below w.heap.size w w') : An V w' ab cb rb ib pb bv pv G B val s := by
 obtain ⟨l1, l2, l3, l4, l5⟩ := h.lt
 exact h.to (Fr.of hb) ((hb.block _ l3).trans h.dZ) ((hb.block _ l4).trans h.eC) ((hb.block _ l5).trans h.cP) h.kH
theorem An.cells (h : An V w ab cb rb ib pb bv pv G B val s) : w.cell? ⟨ab, 0, none⟩ = some bv ∧ w.cell? ⟨ab, 2, none⟩ = some (.slice (some ⟨cb, 0, none⟩) B.length B.length) ∧ w.cell? ⟨ab, 3, none⟩ = some (.slice (some ⟨rb, 0, none⟩) B.length B.length) ∧ w.cell? ⟨ab, 4, none⟩ = some (.slice (some ⟨ib, 0, none⟩) B.length B.length) ∧ w.cell? ⟨ab, 5, none⟩ = some (.slice (some ⟨pb, 0, none⟩) B.length B.length) := by
 refine ⟨?_, ?_, ?_, ?_, ?_⟩ <;> simp [World.cell?, h.head]
theorem An.code (h : An V w ab cb rb ib pb bv pv G B val s) {k : Nat} {b : AB} (hk : B[k]? = some b) : w.cell? ⟨cb, k, none⟩ = some (val k) ∧ (val k = .slice none 0 0 ∧ b.code = [] ∨ ∃ q cap, val k = .slice (some ⟨q, 0, none⟩) b.code.length cap ∧ b.code.length ≤ cap ∧ cap ≤ maxLen ∧ q < w.heap.size ∧ ∀ j i, b.code[j]? = some i →
  w.cell? ⟨q, j * 5, none⟩ = some (.int .u8 i.op) ∧ w.cell? ⟨q, j * 5 + 1, none⟩ = some (.int .i64 i.a) ∧ w.cell? ⟨q, j * 5 + 2, none⟩ = some (.int .i64 i.b) ∧ w.cell? ⟨q, j * 5 + 3, none⟩ = some (.int .i64 i.c) ∧ w.cell? ⟨q, j * 5 + 4, none⟩ = some (.int .i64 i.aS)) := by
 have hlt := (List.getElem?_eq_some_iff.1 hk).1
 refine ⟨by rw [h.lu.cellAt _ abo, List.getElem?_map, List.getElem?_range hlt]; rfl, ?_⟩
 have ho := h.own k b hk
 rcases ho.2 with ⟨h1, h2⟩ | ⟨g, cap, cur, h1, h2, h3, h4, h5, h6, h7⟩
 ·exact .inl ⟨h1, List.length_eq_zero_iff.1 h2⟩
 ·refine .inr ⟨g, cap, h1, h4, h5, ag h3, fun j i hi => ?_⟩
  have hj := (List.getElem?_eq_some_iff.1 hi).1
  rw [h1] at ho
  refine ⟨?_, ?_, ?_, ?_, ?_⟩
  ·rw [ho.cellAt _ abo, show j * 5 = j * 5 + 0 by omega, fK _ _ _ _ hi abo]; rfl
  ·rw [ho.cellAt _ abo, fK _ _ _ _ hi abo]; rfl
  ·rw [ho.cellAt _ abo, fK _ _ _ _ hi abo]; rfl
  ·rw [ho.cellAt _ abo, fK _ _ _ _ hi abo]; rfl
  ·rw [ho.cellAt _ abo, fK _ _ _ _ hi abo]; rfl
theorem An.gO (h : An V w ab cb rb ib pb bv pv G B val s) {t : Nat} (ht : t < B.length) : w.cell? ⟨rb, t, none⟩ = some (.bool (s.reach.getD t false)) ∧ w.frozen? ⟨rb, t, none⟩ = false := by
 have hl : t < s.reach.length := by rw [h.kH.l1]; exact ht
 constructor
 ·simp [World.cell?, h.dZ, List.getD, List.getElem?_eq_getElem hl]
 ·simp [World.frozen?, h.dZ]
theorem An.nP (h : An V w ab cb rb ib pb bv pv G B val s) {t : Nat} (ht : t < B.length) : w.cell? ⟨pb, t, none⟩ = some (.int .i64 (s.rep.getD t 0)) ∧ w.frozen? ⟨pb, t, none⟩ = false := by
 have hl : t < s.rep.length := by rw [h.kH.l3]; exact ht
 constructor
 ·simp [World.cell?, h.cP, List.getD, List.getElem?_eq_getElem hl]
 ·simp [World.frozen?, h.cP]
theorem An.xC (h : An V w ab cb rb ib pb bv pv G B val s) : ∀ r ∈ s.bH, r.length = 16 := fun r hr => (h.kH.r16 r hr).len
theorem oU {w : World} {q : Nat} {T : TypeId} {xs cs : List Value} {o : Nat} (h : w.heap[q]? = some (.cells xs.toArray T (0, 0))) (hc : ∀ j, j < cs.length → xs[o + j]? = cs[j]?) : w.rangeAt q o cs := fun j v hv => by
 have hj := (List.getElem?_eq_some_iff.1 hv).1
 have := hc j hj
 rw [hv] at this
 simp [World.cell?, h, this]
theorem An.gJ (h : An V w ab cb rb ib pb bv pv G B val s) {t : Nat} (ht : t < B.length) : w.rangeAt ib (t * 32) (aa (s.bH.getD t [])) := by
 have hl : t < s.bH.length := by rw [h.kH.l2]; exact ht
 have e : s.bH.getD t [] = s.bH[t] := by simp [List.getD, List.getElem?_eq_getElem hl]
 have h16 := h.xC _ (List.getElem_mem hl)
 refine oU h.eC (fun j hj => ?_)
 rw [e] at hj ⊢
 rw [ax, h16] at hj
 exact iY h.xC (List.getElem?_eq_getElem hl) j hj
end
end
section
open Go.RowKit
theorem refine_no (op a b c im : Int) (h0 : 0 ≤ op) (r : RG) (hr : R16 r) (tk : Bool) (w : World) (T : iU w) (hno : aU ⟨op, a, b, c, im⟩ = false ∨ (aU ⟨op, a, b, c, im⟩ = true ∧ aC r = false)) :
  Calls Tryz.prog 15 #[.agg #[.int .u8 op, .int .i64 a, .int .i64 b, .int .i64 c, .int .i64 im], .agg (aa r).toArray, .bool tk] w fun e w' => e = .returned (cM none) ∧ Below w.heap.size w w' := by
 obtain ⟨V, hV, k0, k1, k2, bV, sV⟩ := cm w #[.int .u8 op, .int .i64 a, .int .i64 b, .int .i64 c, .int .i64 im] (aa r).toArray acM.toArray 64 56 56
 obtain ⟨a0, a1, a2, a3, a4, lV⟩ := aQ k0
 have K1 := acD (show aH V (w.heap.size + 1) 56 r from k1)
 have mG := acD (show (Tryz.prog.info? 56).map (·.size) = some (aa r).length by rw [ax, hr.len]; kernel_rfl)
 have K2 := acD k2
 have BV := acD bV
 have gM := acD (Calls.ext (eM ⟨op, a, b, c, im⟩ h0 V (T.below bV)))
 have j8 := acD (fun x : Ext V => Calls.ay (x := x) (eU r hr.len x.w))
 clear k0 k1 k2 bV
 go_enter Tryz.func15, Tryz.ntmps15
 go_upto_region 1 with fail
 clear hV
 rcases hno with hv | ⟨hv, hp⟩
 ·rw [hv] at gM
  go_wp2_with (first | (go_at_call 32; refine gM.out.mono ?_; rintro e w' ⟨rfl, y, rfl⟩) | (refine wpList_store_row rfl 56 (.tmp 6) (.tmp 16) rfl (w.heap.size + 1 + 1) acM.toArray rfl rfl 56 _ (((Ext.h _).block _ sV).trans K2.out) abp rfl abt ?_))
  refine bodyPost_ret (results_cell_tmp (P := Tryz.prog) Tryz.results15 _ _ (w.heap.size + 1 + 1) acM _ rfl (au (setRow_heap _ _ _ _ _ _ ((y.h.block _ sV).trans K2.out))) Tryz.underlying56 rfl abp) rfl ⟨rfl, below_setRow (BV.out.trans (y.h.mono BV.out.size)) abo _⟩
 ·rw [hv] at gM
  rw [hp] at j8
  go_wp2_with (first | (go_at_call 32; refine gM.out.mono ?_; rintro e w' ⟨rfl, y, rfl⟩) | (go_at_call 33; refine (j8.out _).mono ?_; rintro e w' ⟨rfl, z, rfl⟩) | (refine bu abx _ _ rfl _ _ rfl (aa r) _ (K1.out.keep (Ext.h _)).range Tryz.underlying56 rfl mG.out ?_) | (refine wpList_store_row rfl 56 (.tmp 6) (.tmp 16) rfl (w.heap.size + 1 + 1) acM.toArray rfl rfl 56 _ (((Ext.h _).block _ sV).trans K2.out) abp rfl abt ?_))
  refine bodyPost_ret (results_cell_tmp (P := Tryz.prog) Tryz.results15 _ _ (w.heap.size + 1 + 1) acM _ rfl (au (setRow_heap _ _ _ _ _ _ ((z.h.block _ sV).trans K2.out))) Tryz.underlying56 rfl abp) rfl ⟨rfl, below_setRow (BV.out.trans (z.h.mono BV.out.size)) abo _⟩
theorem refine_rest (op : Int) (an bn cn : Nat) (im : Int) (ha : an < 16) (hop : (0 ≤ op ∧ op ≤ 21) ∨ (25 ≤ op ∧ op ≤ 29)) (r : RG) (hr : R16 r) (w : World) (T : iU w) (hv : aU ⟨op, an, bn, cn, im⟩ = true) (hp : aC r = true) :
  Calls Tryz.prog 15 #[.agg #[.int .u8 op, .int .i64 (an : Int), .int .i64 (bn : Int), .int .i64 (cn : Int), .int .i64 im], .agg (aa r).toArray, .bool false] w fun e w' => e = .returned (cM (some r)) ∧ Below w.heap.size w w' := by
 have h0 : 0 ≤ op := by omega
 have oH := acD hop
 clear hop
 obtain ⟨V, hV, k0, k1, k2, bV, sV⟩ := cm w #[.int .u8 op, .int .i64 (an : Int), .int .i64 (bn : Int), .int .i64 (cn : Int), .int .i64 im] (aa r).toArray acM.toArray 64 56 56
 obtain ⟨a0, a1, a2, a3, a4, lV⟩ := aQ k0
 have K1 := acD (show aH V (w.heap.size + 1) 56 r from k1)
 have mG := acD (show (Tryz.prog.info? 56).map (·.size) = some (aa r).length by rw [ax, hr.len]; kernel_rfl)
 have K2 := acD k2
 have BV := acD bV
 have gM := acD (Calls.ext (eM ⟨op, an, bn, cn, im⟩ h0 V (T.below bV)))
 have j8 := acD (fun x : Ext V => Calls.ay (x := x) (eU r hr.len x.w))
 clear k0 k1 k2 bV
 go_enter Tryz.func15, Tryz.ntmps15
 go_upto_region 1 with fail
 clear hV
 rw [hv] at gM
 rw [hp] at j8
 have HP := acD hp
 clear hp hv
 have hop := oH.out
 clear oH
 have e1 : (op == 22) = false := by rw [beq_eq_false_iff_ne]; omega
 have e2 : (op == 23) = false := by rw [beq_eq_false_iff_ne]; omega
 have e3 : (op == 24) = false := by rw [beq_eq_false_iff_ne]; omega
 clear hop
 go_upto_region 16 with (first | (go_at_call 32; refine gM.out.mono ?_; rintro e w' ⟨rfl, y, rfl⟩) | (go_at_call 33; refine (j8.out _).mono ?_; rintro e w' ⟨rfl, z, rfl⟩) | (refine bu abx _ _ rfl _ _ rfl (aa r) _ (K1.out.keep (Ext.h _)).range Tryz.underlying56 rfl mG.out ?_))
 obtain ⟨r3, hr3⟩ : ∃ r3, r = r3 := ⟨_, rfl⟩
 have l3 : r3.length = 16 := by rw [← hr3]; exact hr.len
 have p8 := acD hr3
 obtain ⟨Z, hZ⟩ : ∃ Z, z.w = Z := ⟨_, rfl⟩
 have kZ : aH Z (w.heap.size + 1) 56 r3 := by rw [← hZ]; exact p8.out ▸ K1.out.keep z.h
 have GQ : Z.heap[w.heap.size + 1 + 1]? = some (.cells acM.toArray 56 (0, 0)) := by rw [← hZ]; exact (z.h.block _ sV).trans K2.out
 have bZ : Below w.heap.size w Z := by rw [← hZ]; exact BV.out.trans (z.h.mono BV.out.size)
 rw [hZ]
 have gK := acD kZ.range
 have IB := acD GQ
 have BZ := acD bZ
 have yK := acD (show (Tryz.prog.info? 56).map (·.size) = some (aa r3).length by rw [ax, l3]; kernel_rfl)
 have wC := acD (show (Tryz.prog.info? 56).map (·.size) = some (aa r3).toArray.size by rw [List.size_toArray, ax, l3]; kernel_rfl)
 have KQ := acD (show (acM.toArray : Array Value).size = (aa r3).toArray.size by rw [show (aa r3).toArray.size = 32 by rw [List.size_toArray, ax, l3]]; rfl)
 have wq := acD (aj r3)
 clear hZ kZ GQ bZ l3
 go_wp2_with (first | (refine wpList_load_mid rfl _ _ rfl _ _ rfl (aa r3) _ gK.out Tryz.underlying56 rfl yK.out ?_) | (refine wpList_store_row rfl 56 (.tmp 6) (.tmp 57) rfl (w.heap.size + 1 + 1) (aa r3).toArray rfl rfl 56 _ IB.out wC.out KQ.out wq.out ?_))
 refine bodyPost_ret (results_cell_tmp (P := Tryz.prog) Tryz.results15 _ _ (w.heap.size + 1 + 1) (aa r3) _ rfl (au (setRow_heap _ _ _ _ _ _ IB.out)) Tryz.underlying56 rfl yK.out) rfl ⟨?_, below_setRow BZ.out abo _⟩
 rw [p8.out]
 rfl
theorem refine_restT (op : Int) (an bn cn : Nat) (im : Int) (ha : an < 16) (hop : (0 ≤ op ∧ op ≤ 21) ∨ (25 ≤ op ∧ op ≤ 29)) (r : RG) (hr : R16 r) (w : World) (T : iU w) (hv : aU ⟨op, an, bn, cn, im⟩ = true) (hp : aC r = true) :
  Calls Tryz.prog 15 #[.agg #[.int .u8 op, .int .i64 (an : Int), .int .i64 (bn : Int), .int .i64 (cn : Int), .int .i64 im], .agg (aa r).toArray, .bool true] w fun e w' => e = .returned (cM (none)) ∧ Below w.heap.size w w' := by
 have h0 : 0 ≤ op := by omega
 have oH := acD hop
 clear hop
 obtain ⟨V, hV, k0, k1, k2, bV, sV⟩ := cm w #[.int .u8 op, .int .i64 (an : Int), .int .i64 (bn : Int), .int .i64 (cn : Int), .int .i64 im] (aa r).toArray acM.toArray 64 56 56
 obtain ⟨a0, a1, a2, a3, a4, lV⟩ := aQ k0
 have K1 := acD (show aH V (w.heap.size + 1) 56 r from k1)
 have mG := acD (show (Tryz.prog.info? 56).map (·.size) = some (aa r).length by rw [ax, hr.len]; kernel_rfl)
 have K2 := acD k2
 have BV := acD bV
 have gM := acD (Calls.ext (eM ⟨op, an, bn, cn, im⟩ h0 V (T.below bV)))
 have j8 := acD (fun x : Ext V => Calls.ay (x := x) (eU r hr.len x.w))
 clear k0 k1 k2 bV
 go_enter Tryz.func15, Tryz.ntmps15
 go_upto_region 1 with fail
 clear hV
 rw [hv] at gM
 rw [hp] at j8
 have HP := acD hp
 clear hp hv
 have hop := oH.out
 clear oH
 have e1 : (op == 22) = false := by rw [beq_eq_false_iff_ne]; omega
 have e2 : (op == 23) = false := by rw [beq_eq_false_iff_ne]; omega
 have e3 : (op == 24) = false := by rw [beq_eq_false_iff_ne]; omega
 clear hop
 go_wp2_with (first | (go_at_call 32; refine gM.out.mono ?_; rintro e w' ⟨rfl, y, rfl⟩) | (go_at_call 33; refine (j8.out _).mono ?_; rintro e w' ⟨rfl, z, rfl⟩) | (refine bu abx _ _ rfl _ _ rfl (aa r) _ (K1.out.keep (Ext.h _)).range Tryz.underlying56 rfl mG.out ?_) | (refine wpList_store_row rfl 56 (.tmp 6) (.tmp 20) rfl (w.heap.size + 1 + 1) acM.toArray rfl rfl 56 _ (((Ext.h _).block _ sV).trans K2.out) abp rfl abt ?_))
 refine bodyPost_ret (results_cell_tmp (P := Tryz.prog) Tryz.results15 _ _ (w.heap.size + 1 + 1) acM _ rfl (au (setRow_heap _ _ _ _ _ _ ((z.h.block _ sV).trans K2.out))) Tryz.underlying56 rfl abp) rfl ⟨rfl, below_setRow (BV.out.trans (z.h.mono BV.out.size)) abo _⟩
theorem refine_jmp (op : Int) (an bn cn : Nat) (im : Int) (ha : an < 16) (hop : op = 24) (r : RG) (hr : R16 r) (w : World) (T : iU w) (hv : aU ⟨op, an, bn, cn, im⟩ = true) (hp : aC r = true) :
  Calls Tryz.prog 15 #[.agg #[.int .u8 op, .int .i64 (an : Int), .int .i64 (bn : Int), .int .i64 (cn : Int), .int .i64 im], .agg (aa r).toArray, .bool true] w fun e w' => e = .returned (cM (some r)) ∧ Below w.heap.size w w' := by
 have h0 : 0 ≤ op := by omega
 have oH := acD hop
 clear hop
 obtain ⟨V, hV, k0, k1, k2, bV, sV⟩ := cm w #[.int .u8 op, .int .i64 (an : Int), .int .i64 (bn : Int), .int .i64 (cn : Int), .int .i64 im] (aa r).toArray acM.toArray 64 56 56
 obtain ⟨a0, a1, a2, a3, a4, lV⟩ := aQ k0
 have K1 := acD (show aH V (w.heap.size + 1) 56 r from k1)
 have mG := acD (show (Tryz.prog.info? 56).map (·.size) = some (aa r).length by rw [ax, hr.len]; kernel_rfl)
 have K2 := acD k2
 have BV := acD bV
 have gM := acD (Calls.ext (eM ⟨op, an, bn, cn, im⟩ h0 V (T.below bV)))
 have j8 := acD (fun x : Ext V => Calls.ay (x := x) (eU r hr.len x.w))
 clear k0 k1 k2 bV
 go_enter Tryz.func15, Tryz.ntmps15
 go_upto_region 1 with fail
 clear hV
 rw [hv] at gM
 rw [hp] at j8
 have HP := acD hp
 clear hp hv
 have hop := oH.out
 clear oH
 subst hop
 go_upto_region 16 with (first | (go_at_call 32; refine gM.out.mono ?_; rintro e w' ⟨rfl, y, rfl⟩) | (go_at_call 33; refine (j8.out _).mono ?_; rintro e w' ⟨rfl, z, rfl⟩) | (refine bu abx _ _ rfl _ _ rfl (aa r) _ (K1.out.keep (Ext.h _)).range Tryz.underlying56 rfl mG.out ?_))
 obtain ⟨r3, hr3⟩ : ∃ r3, r = r3 := ⟨_, rfl⟩
 have l3 : r3.length = 16 := by rw [← hr3]; exact hr.len
 have p8 := acD hr3
 obtain ⟨Z, hZ⟩ : ∃ Z, z.w = Z := ⟨_, rfl⟩
 have kZ : aH Z (w.heap.size + 1) 56 r3 := by rw [← hZ]; exact p8.out ▸ K1.out.keep z.h
 have GQ : Z.heap[w.heap.size + 1 + 1]? = some (.cells acM.toArray 56 (0, 0)) := by rw [← hZ]; exact (z.h.block _ sV).trans K2.out
 have bZ : Below w.heap.size w Z := by rw [← hZ]; exact BV.out.trans (z.h.mono BV.out.size)
 rw [hZ]
 have gK := acD kZ.range
 have IB := acD GQ
 have BZ := acD bZ
 have yK := acD (show (Tryz.prog.info? 56).map (·.size) = some (aa r3).length by rw [ax, l3]; kernel_rfl)
 have wC := acD (show (Tryz.prog.info? 56).map (·.size) = some (aa r3).toArray.size by rw [List.size_toArray, ax, l3]; kernel_rfl)
 have KQ := acD (show (acM.toArray : Array Value).size = (aa r3).toArray.size by rw [show (aa r3).toArray.size = 32 by rw [List.size_toArray, ax, l3]]; rfl)
 have wq := acD (aj r3)
 clear hZ kZ GQ bZ l3
 go_wp2_with (first | (refine wpList_load_mid rfl _ _ rfl _ _ rfl (aa r3) _ gK.out Tryz.underlying56 rfl yK.out ?_) | (refine wpList_store_row rfl 56 (.tmp 6) (.tmp 57) rfl (w.heap.size + 1 + 1) (aa r3).toArray rfl rfl 56 _ IB.out wC.out KQ.out wq.out ?_))
 refine bodyPost_ret (results_cell_tmp (P := Tryz.prog) Tryz.results15 _ _ (w.heap.size + 1 + 1) (aa r3) _ rfl (au (setRow_heap _ _ _ _ _ _ IB.out)) Tryz.underlying56 rfl yK.out) rfl ⟨?_, below_setRow BZ.out abo _⟩
 rw [p8.out]
 rfl
theorem refine_jmpF (op : Int) (an bn cn : Nat) (im : Int) (ha : an < 16) (hop : op = 24) (r : RG) (hr : R16 r) (w : World) (T : iU w) (hv : aU ⟨op, an, bn, cn, im⟩ = true) (hp : aC r = true) :
  Calls Tryz.prog 15 #[.agg #[.int .u8 op, .int .i64 (an : Int), .int .i64 (bn : Int), .int .i64 (cn : Int), .int .i64 im], .agg (aa r).toArray, .bool false] w fun e w' => e = .returned (cM (none)) ∧ Below w.heap.size w w' := by
 have h0 : 0 ≤ op := by omega
 have oH := acD hop
 clear hop
 obtain ⟨V, hV, k0, k1, k2, bV, sV⟩ := cm w #[.int .u8 op, .int .i64 (an : Int), .int .i64 (bn : Int), .int .i64 (cn : Int), .int .i64 im] (aa r).toArray acM.toArray 64 56 56
 obtain ⟨a0, a1, a2, a3, a4, lV⟩ := aQ k0
 have K1 := acD (show aH V (w.heap.size + 1) 56 r from k1)
 have mG := acD (show (Tryz.prog.info? 56).map (·.size) = some (aa r).length by rw [ax, hr.len]; kernel_rfl)
 have K2 := acD k2
 have BV := acD bV
 have gM := acD (Calls.ext (eM ⟨op, an, bn, cn, im⟩ h0 V (T.below bV)))
 have j8 := acD (fun x : Ext V => Calls.ay (x := x) (eU r hr.len x.w))
 clear k0 k1 k2 bV
 go_enter Tryz.func15, Tryz.ntmps15
 go_upto_region 1 with fail
 clear hV
 rw [hv] at gM
 rw [hp] at j8
 have HP := acD hp
 clear hp hv
 have hop := oH.out
 clear oH
 subst hop
 go_wp2_with (first | (go_at_call 32; refine gM.out.mono ?_; rintro e w' ⟨rfl, y, rfl⟩) | (go_at_call 33; refine (j8.out _).mono ?_; rintro e w' ⟨rfl, z, rfl⟩) | (refine bu abx _ _ rfl _ _ rfl (aa r) _ (K1.out.keep (Ext.h _)).range Tryz.underlying56 rfl mG.out ?_) | (refine wpList_store_row rfl 56 (.tmp 6) (.tmp 51) rfl (w.heap.size + 1 + 1) acM.toArray rfl rfl 56 _ (((Ext.h _).block _ sV).trans K2.out) abp rfl abt ?_) | (refine wpList_store_row rfl 56 (.tmp 6) (.tmp 56) rfl (w.heap.size + 1 + 1) acM.toArray rfl rfl 56 _ (((Ext.h _).block _ sV).trans K2.out) abp rfl abt ?_))
 refine bodyPost_ret (results_cell_tmp (P := Tryz.prog) Tryz.results15 _ _ (w.heap.size + 1 + 1) acM _ rfl (au (setRow_heap _ _ _ _ _ _ ((z.h.block _ sV).trans K2.out))) Tryz.underlying56 rfl abp) rfl ⟨rfl, below_setRow (BV.out.trans (z.h.mono BV.out.size)) abo _⟩
theorem Jz : ∀ k, k < 30 → (di k).BK ≤ 15 ∧ (di k).BH ≤ 15 ∧ (di k).BF ≤ 15 ∧ -131072 ≤ kf k ∧ kj k ≤ 131071 := by decide
def R3 (op : Int) (tk : Bool) (r : RG) (a : Int) : Option RG := if emp (jP op tk (rg r a)) = true then none else some (aW r a (jP op tk (rg r a)))
theorem Mq {op : Int} {tk : Bool} {r : RG} (hl : r.length = 16) (h0 : rg r 0 = (0, 0)) {an : Nat} {x : Int × Int} (hx : jP op tk (rg r (an : Int)) = x) (he : ¬ emp x = true) : r.set an x = aW r (an : Int) x := by
 unfold aW
 by_cases ha : an = 0
 ·subst ha
  rw [if_pos (show ((0 : Nat) : Int) = 0 from rfl)]
  rw [show ((0 : Nat) : Int) = 0 from rfl, h0] at hx
  have : x = (0, 0) := by
   unfold jP at hx
   split at hx
   ·rw [← hx]; decide
   ·exfalso
    apply he
    rw [← hx]
    decide
  rw [this]
  exact um hl h0
 ·rw [if_neg abo]
  simp
theorem Mv {r : RG} {an : Nat} {x : Int × Int} (h : an < r.length) : rg (r.set an x) (an : Int) = x := by
 rw [dH]
 simp [List.getD, h]
theorem refine_br (op : Int) (an bn cn : Nat) (im : Int) (ha : an < 16) (hop : op = 22 ∨ op = 23) (r : RG) (hr : R16 r) (tk : Bool) (w : World) (T : iU w) (hv : aU ⟨op, an, bn, cn, im⟩ = true) (hp : aC r = true) :
  Calls Tryz.prog 15 #[.agg #[.int .u8 op, .int .i64 (an : Int), .int .i64 (bn : Int), .int .i64 (cn : Int), .int .i64 im], .agg (aa r).toArray, .bool tk] w fun e w' => e = .returned (cM (R3 op tk r (an : Int))) ∧ Below w.heap.size w w' := by
 have h0 : 0 ≤ op := by omega
 have oH := acD hop
 clear hop
 obtain ⟨V, hV, k0, k1, k2, bV, sV⟩ := cm w #[.int .u8 op, .int .i64 (an : Int), .int .i64 (bn : Int), .int .i64 (cn : Int), .int .i64 im] (aa r).toArray acM.toArray 64 56 56
 obtain ⟨a0, a1, a2, a3, a4, lV⟩ := aQ k0
 have K1 := acD (show aH V (w.heap.size + 1) 56 r from k1)
 have mG := acD (show (Tryz.prog.info? 56).map (·.size) = some (aa r).length by rw [ax, hr.len]; kernel_rfl)
 have K2 := acD k2
 have BV := acD bV
 have gM := acD (Calls.ext (eM ⟨op, an, bn, cn, im⟩ h0 V (T.below bV)))
 have j8 := acD (fun x : Ext V => Calls.ay (x := x) (eU r hr.len x.w))
 clear k0 k1 k2 bV
 go_enter Tryz.func15, Tryz.ntmps15
 go_upto_region 1 with fail
 clear hV
 rw [hv] at gM
 rw [hp] at j8
 have HP := acD hp
 clear hp hv
 have hop := oH.out
 clear oH
 obtain ⟨O, hO⟩ : ∃ O, R3 op tk r (an : Int) = O := ⟨_, rfl⟩
 have HO := acD hO
 have E0 := acD (show ∀ x, jP op tk (rg r (an : Int)) = x → (emp x = true → O = none) ∧ (¬ emp x = true → O = some (r.set an x)) from fun x hx => ⟨fun h => by rw [← hO]; unfold R3; rw [hx, if_pos h], fun h => by rw [← hO]; unfold R3; rw [hx, if_neg h, Mq hr.len (kP HP.out) hx h]⟩)
 clear hO
 obtain ⟨al, hal⟩ : ∃ al, (rg r (an : Int)).1 = al := ⟨_, rfl⟩
 obtain ⟨ah, zX⟩ : ∃ ah, (rg r (an : Int)).2 = ah := ⟨_, rfl⟩
 have r4 : V.cell? ⟨w.heap.size + 1, an * 2, none⟩ = some (.int .i32 al) := by rw [← hal]; exact K1.out.lo abE
 have r5 : V.cell? ⟨w.heap.size + 1, an * 2 + 1, none⟩ = some (.int .i32 ah) := by rw [← zX]; exact K1.out.hi abE
 have rf0 : V.frozen? ⟨w.heap.size + 1, an * 2, none⟩ = false := K1.out.fz _
 have rf1 : V.frozen? ⟨w.heap.size + 1, an * 2 + 1, none⟩ = false := K1.out.fz _
 have je := acD (show rg r (an : Int) = (al, ah) from Prod.ext hal zX)
 have ia : (an : Int) < 16 := by omega
 have lR : w.heap.size + 1 < V.heap.size := by omega
 clear hal zX
 have hc : ((op = 22 ∧ tk = true) ∨ (op = 23 ∧ tk = false)) ∨ (op = 22 ∧ tk = false) ∨ (op = 23 ∧ tk = true) := by rcases hop with h | h <;> cases tk <;> simp [h]
 clear hop
 rcases hc with hc | hc
 focus
  obtain ⟨xa, xb, hx⟩ : ∃ xa xb, aJ (al, ah) (0, 0) = (xa, xb) := ⟨_, _, rfl⟩
  have hf := fun w => nY al ah 0 0 w
  rw [hx] at hf
  have HF := acD hf
  have HX := acD (show jP op tk (rg r (an : Int)) = (xa, xb) by rw [je.out]; unfold jP; rw [if_pos (by rcases hc with ⟨rfl, rfl⟩ | ⟨rfl, rfl⟩ <;> decide)]; exact hx)
  clear hf hx
  rcases hc with ⟨rfl, rfl⟩ | ⟨rfl, rfl⟩
  all_goals
   go_upto_region 9 with (first | (go_at_call 32; refine gM.out.mono ?_; rintro e w' ⟨rfl, y, rfl⟩) | (go_at_call 33; refine (j8.out _).mono ?_; rintro e w' ⟨rfl, z, rfl⟩) | (refine bu abx _ _ rfl _ _ rfl (aa r) _ (K1.out.keep (Ext.h _)).range Tryz.underlying56 rfl mG.out ?_))
   refine dF 9 abp abp ?_
   simp only [acK, List.take_zero, acL, List.drop_zero]
   repeat (go_big_quiet_step (first | (go_at_call 34; exact Calls.ay (cN 0 _)) | (go_at_call 38; exact Calls.ay (HF.out _))))
   refine wpQuiet_nil ?_
   rintro _ ⟨x1, rfl⟩
   go_upto_region 11 with fail
 rotate_left 2
 focus
  obtain ⟨xa, xb, hx⟩ : ∃ xa xb, eT (al, ah) = (xa, xb) := ⟨_, _, rfl⟩
  have hf := fun w => wJ al ah w
  rw [hx] at hf
  have HF := acD hf
  have HX := acD (show jP op tk (rg r (an : Int)) = (xa, xb) by rw [je.out]; unfold jP; rw [if_neg (by rcases hc with ⟨rfl, rfl⟩ | ⟨rfl, rfl⟩ <;> decide)]; exact hx)
  clear hf hx
  rcases hc with ⟨rfl, rfl⟩ | ⟨rfl, rfl⟩
  all_goals
   go_upto_region 10 with (first | (go_at_call 32; refine gM.out.mono ?_; rintro e w' ⟨rfl, y, rfl⟩) | (go_at_call 33; refine (j8.out _).mono ?_; rintro e w' ⟨rfl, z, rfl⟩) | (refine bu abx _ _ rfl _ _ rfl (aa r) _ (K1.out.keep (Ext.h _)).range Tryz.underlying56 rfl mG.out ?_))
   refine dF 8 abp abp ?_
   simp only [acK, List.take_zero, acL, List.drop_zero]
   repeat (go_big_quiet_step (first | (go_at_call 48; exact Calls.ay (HF.out _))))
   refine wpQuiet_nil ?_
   rintro _ ⟨x1, rfl⟩
   go_upto_region 11 with fail
 all_goals
  obtain ⟨Y, hY⟩ : ∃ Y, (x1.w.setCell ⟨w.heap.size + 1, an * 2, none⟩ (.int .i32 xa)).setCell ⟨w.heap.size + 1, an * 2 + 1, none⟩ (.int .i32 xb) = Y := ⟨_, rfl⟩
  obtain ⟨r3, hr3⟩ : ∃ r3, r.set an (xa, xb) = r3 := ⟨_, rfl⟩
  have l3 : r3.length = 16 := by rw [← hr3, List.length_set]; exact hr.len
  have kY : aH Y (w.heap.size + 1) 56 r3 := by rw [← hY, ← hr3]; exact (K1.out.keep x1.h).set an (xa, xb)
  have kO : Y.heap[w.heap.size + 1 + 1]? = some (.cells acM.toArray 56 (0, 0)) := by
   rw [← hY, Below.heap_setCell _ _ _ _ abK, Below.heap_setCell _ _ _ _ abK]
   exact (x1.h.block _ sV).trans K2.out
  have bY : Below w.heap.size w Y := by rw [← hY]; exact Below.setCell (Below.setCell (BV.out.trans (x1.h.mono BV.out.size)) abP _) abP _
  have kI : Y.cell? ⟨w.heap.size, 1, none⟩ = some (.int .i64 (an : Int)) := by
   rw [← hY, World.cell?_of_block (Below.heap_setCell _ _ _ _ abT), World.cell?_of_block (Below.heap_setCell _ _ _ _ abT), x1.h.cell (p := ⟨w.heap.size, 1, none⟩) lV]
   exact a1
  rw [hY]
  have lY : w.heap.size + 1 < Y.heap.size := kY.lt
  have lYI : w.heap.size < Y.heap.size := by omega
  have O1 : w.heap.size + 1 + 1 < Y.heap.size := (Array.getElem?_eq_some_iff.1 kO).1
  have DV : rg r3 (an : Int) = (xa, xb) := by rw [← hr3]; exact Mv abE
  have z0 : Y.cell? ⟨w.heap.size + 1, an * 2, none⟩ = some (.int .i32 xa) := by have h := kY.lo (k := an) (by rw [l3]; exact ha); rw [DV] at h; exact h
  have z1 : Y.cell? ⟨w.heap.size + 1, an * 2 + 1, none⟩ = some (.int .i32 xb) := by have h := kY.hi (k := an) (by rw [l3]; exact ha); rw [DV] at h; exact h
  have KY := acD kY
  have KO := acD kO
  have BY := acD bY
  have p8 := acD hr3
  have Ma := acD (Calls.ext (af xa xb Y))
  clear hY kY kO bY hr3 DV r4 r5 rf0 rf1 a0 a1 a2 a3 a4
  by_cases he : xb < xa
  ·have d := decide_eq_true he
   have AV := acD (show emp (xa, xb) = true by unfold emp; simpa using he)
   clear he
   go_wp2_with (first | (go_at_call 39; refine Ma.out.mono ?_; rintro e w' ⟨rfl, y5, rfl⟩) | (refine wpList_store_row rfl 56 (.tmp 6) (.tmp 51) rfl (w.heap.size + 1 + 1) acM.toArray rfl rfl 56 _ (((Ext.h _).block _ O1).trans KO.out) abp rfl abt ?_))
   refine bodyPost_ret (results_cell_tmp (P := Tryz.prog) Tryz.results15 _ _ (w.heap.size + 1 + 1) acM _ rfl (au (setRow_heap _ _ _ _ _ _ ((y5.h.block _ O1).trans KO.out))) Tryz.underlying56 rfl abp) rfl ⟨?_, below_setRow (BY.out.trans (y5.h.mono BY.out.size)) abo _⟩
   rw [HO.out, (E0.out _ HX.out).1 AV.out]
   rfl
  ·have d := decide_eq_false he
   have AV := acD (show ¬ emp (xa, xb) = true by unfold emp; simpa using he)
   clear he
   go_upto_region 16 with (go_at_call 39; refine Ma.out.mono ?_; rintro e w' ⟨rfl, y5, rfl⟩)
   obtain ⟨Z, hZ⟩ : ∃ Z, y5.w = Z := ⟨_, rfl⟩
   have kZ : aH Z (w.heap.size + 1) 56 r3 := by rw [← hZ]; exact KY.out.keep y5.h
   have GQ : Z.heap[w.heap.size + 1 + 1]? = some (.cells acM.toArray 56 (0, 0)) := by rw [← hZ]; exact (y5.h.block _ O1).trans KO.out
   have bZ : Below w.heap.size w Z := by rw [← hZ]; exact BY.out.trans (y5.h.mono BY.out.size)
   rw [hZ]
   have gK := acD kZ.range
   have IB := acD GQ
   have BZ := acD bZ
   have yK := acD (show (Tryz.prog.info? 56).map (·.size) = some (aa r3).length by rw [ax, l3]; kernel_rfl)
   have wC := acD (show (Tryz.prog.info? 56).map (·.size) = some (aa r3).toArray.size by rw [List.size_toArray, ax, l3]; kernel_rfl)
   have KQ := acD (show (acM.toArray : Array Value).size = (aa r3).toArray.size by rw [show (aa r3).toArray.size = 32 by rw [List.size_toArray, ax, l3]]; rfl)
   have wq := acD (aj r3)
   clear hZ kZ GQ bZ l3 z0 z1
   go_wp2_with (first | (refine wpList_load_mid rfl _ _ rfl _ _ rfl (aa r3) _ gK.out Tryz.underlying56 rfl yK.out ?_) | (refine wpList_store_row rfl 56 (.tmp 6) (.tmp 57) rfl (w.heap.size + 1 + 1) (aa r3).toArray rfl rfl 56 _ IB.out wC.out KQ.out wq.out ?_))
   refine bodyPost_ret (results_cell_tmp (P := Tryz.prog) Tryz.results15 _ _ (w.heap.size + 1 + 1) (aa r3) _ rfl (au (setRow_heap _ _ _ _ _ _ IB.out)) Tryz.underlying56 rfl yK.out) rfl ⟨?_, below_setRow BZ.out abo _⟩
   rw [HO.out, (E0.out _ HX.out).2 AV.out, p8.out]
   rfl
theorem refine_any (op a b c im : Int) (h0 : 0 ≤ op) (r : RG) (hr : R16 r) (tk : Bool) (w : World) (T : iU w) :
  Calls Tryz.prog 15 #[.agg #[.int .u8 op, .int .i64 a, .int .i64 b, .int .i64 c, .int .i64 im], .agg (aa r).toArray, .bool tk] w fun e w' => e = .returned (cM (dI ⟨op, a, b, c, im⟩ r tk)) ∧ Below w.heap.size w w' := by
 by_cases hvp : aU ⟨op, a, b, c, im⟩ = true ∧ aC r = true
 case neg =>
  refine (refine_no op a b c im h0 r hr tk w T (by
   cases h1 : aU ⟨op, a, b, c, im⟩ <;> cases h2 : aC r <;> simp_all)).mono fun e w' ⟨q, hb⟩ => ⟨q.trans ?_, hb⟩
  unfold dI
  rw [if_neg hvp]
 obtain ⟨hv, hp⟩ := hvp
 obtain ⟨k, g1, g2, ⟨a1, a2⟩, ⟨b1, b2⟩, ⟨c1, c2⟩, i1, i2⟩ := (cU (i := ⟨op, a, b, c, im⟩) h0).1 hv
 obtain ⟨s1, s2, s3, s4, s5⟩ := Jz k g2
 simp only at g1 a1 a2 b1 b2 c1 c2 i1 i2
 obtain ⟨an, rfl⟩ : ∃ n : Nat, a = (n : Int) := ⟨a.toNat, by omega⟩
 obtain ⟨bn, rfl⟩ : ∃ n : Nat, b = (n : Int) := ⟨b.toNat, by omega⟩
 obtain ⟨cn, rfl⟩ : ∃ n : Nat, c = (n : Int) := ⟨c.toNat, by omega⟩
 have ha : an < 16 := by omega
 have hT : ∀ o : Option RG, dI ⟨op, an, bn, cn, im⟩ r tk = o → (∀ e w', (e = Ending.returned (cM o) ∧ Below w.heap.size w w') → (e = .returned (cM (dI ⟨op, an, bn, cn, im⟩ r tk)) ∧ Below w.heap.size w w')) := fun o h e w' ⟨q, hb⟩ => ⟨by rw [h]; exact q, hb⟩
 have hO : op = 22 ∨ op = 23 ∨ op = 24 ∨ ((0 ≤ op ∧ op ≤ 21) ∨ (25 ≤ op ∧ op ≤ 29)) := by omega
 rcases hO with rfl | rfl | rfl | h
 ·cases tk
  ·exact (refine_br 22 an bn cn im ha (.inl rfl) r hr false w T hv hp).mono (hT _ (by unfold dI; rw [if_pos ⟨hv, hp⟩, if_pos (.inl rfl)]; rfl))
  ·exact (refine_br 22 an bn cn im ha (.inl rfl) r hr true w T hv hp).mono (hT _ (by unfold dI; rw [if_pos ⟨hv, hp⟩, if_pos (.inl rfl)]; rfl))
 ·cases tk
  ·exact (refine_br 23 an bn cn im ha (.inr rfl) r hr false w T hv hp).mono (hT _ (by unfold dI; rw [if_pos ⟨hv, hp⟩, if_pos (.inr rfl)]; rfl))
  ·exact (refine_br 23 an bn cn im ha (.inr rfl) r hr true w T hv hp).mono (hT _ (by unfold dI; rw [if_pos ⟨hv, hp⟩, if_pos (.inr rfl)]; rfl))
 ·cases tk
  ·exact (refine_jmpF 24 an bn cn im ha rfl r hr w T hv hp).mono (hT _ (by unfold dI; rw [if_pos ⟨hv, hp⟩, if_neg aby, if_pos rfl, if_neg abr]))
  ·exact (refine_jmp 24 an bn cn im ha rfl r hr w T hv hp).mono (hT _ (by unfold dI; rw [if_pos ⟨hv, hp⟩, if_neg aby, if_pos rfl, if_pos rfl]))
 ·cases tk
  ·exact (refine_rest op an bn cn im ha h r hr w T hv hp).mono (hT _ (by unfold dI; rw [if_pos ⟨hv, hp⟩, if_neg abQ, if_neg abQ, if_neg abr]))
  ·exact (refine_restT op an bn cn im ha h r hr w T hv hp).mono (hT _ (by unfold dI; rw [if_pos ⟨hv, hp⟩, if_neg abQ, if_neg abQ, if_pos rfl]))
end
section
open Go.RowKit
def Ii (r : RG) (a im : Int) : Option RG := if emp (aJ (rg r a) (0, im - 1)) = true then none else some (aW r a (aJ (rg r a) (0, im - 1)))
theorem BD {W0 wx : World} {g : Nat} {a b : Value} (k : bO W0 wx) (h1 : wx.cell? ⟨g, 0, none⟩ = some a) (h2 : wx.cell? ⟨g, 1, none⟩ = some b) (h5 : g < wx.heap.size) :
  ∃ (g' : Nat) (v : Ext W0), Value.pointer (some ⟨g, 0, none⟩) = .pointer (some ⟨g', 0, none⟩) ∧ wx = v.w ∧ v.w.cell? ⟨g', 0, none⟩ = some a ∧ v.w.cell? ⟨g', 1, none⟩ = some b ∧ g' < v.w.heap.size := ⟨g, ⟨wx, k⟩, rfl, rfl, h1, h2, h5⟩
theorem pM (k bl bh cl ch : Int) (hb : aP bl ∧ aP bh) (hc : aP cl ∧ aP ch) : ∃ xa xb, aN k (bl, bh) (cl, ch) = (xa, xb) ∧ ∀ w, Calls Tryz.prog 35 #[.int .u8 k, .agg #[.int .i32 bl, .int .i32 bh], .agg #[.int .i32 cl, .int .i32 ch]] w fun e w' => e = .returned (.agg #[.int .i32 xa, .int .i32 xb]) ∧ Below w.heap.size w w' :=
 ⟨_, _, rfl, fun w => pN k bl bh cl ch w hb.1.1 hb.1.2 hb.2.1 hb.2.2 hc.1.1 hc.1.2 hc.2.1 hc.2.2⟩
theorem vq (op : Int) (an bn cn : Nat) (im : Int) (ha : an < 16) (hb : bn < 16) (hc : cn < 16) (J5 : -131072 ≤ im ∧ im ≤ 131071) (h0 : 0 ≤ op) (h30 : op < 30) (r : RG) (hr : R16 r) (w : World) (T : iU w) (hv : aU ⟨op, an, bn, cn, im⟩ = true) (hp : aC r = true) :
  Calls Tryz.prog 12 #[.agg #[.int .u8 op, .int .i64 (an : Int), .int .i64 (bn : Int), .int .i64 (cn : Int), .int .i64 im], .agg (aa r).toArray] w fun e w' => e = .returned (cM (bT ⟨op, an, bn, cn, im⟩ r)) ∧ Below w.heap.size w w' := by
 have QE := acD (fun (o1 : 2 ≤ op ∧ op ≤ 13) (hz : (op = 5 ∨ op = 6) ∧ rg r (cn : Int) = (0, 0)) => show bT ⟨op, an, bn, cn, im⟩ r = none by unfold bT; rw [if_pos ⟨hv, hp⟩, if_pos o1, if_pos hz])
 have LZ := acD (fun (o1 : 2 ≤ op ∧ op ≤ 13) (hz : ¬ ((op = 5 ∨ op = 6) ∧ rg r (cn : Int) = (0, 0))) => show bT ⟨op, an, bn, cn, im⟩ r = some (aW r (an : Int) (aN (nT op) (rg r (bn : Int)) (rg r (cn : Int)))) by unfold bT; rw [if_pos ⟨hv, hp⟩, if_pos o1, if_neg hz])
 have yz := acD (fun (o1 : ¬ (2 ≤ op ∧ op ≤ 13)) => show bT ⟨op, an, bn, cn, im⟩ r = (if op = 14 then some (aW r an (im, im)) else if op = 15 then some (aW r an (aN 6 (rg r bn) (im, im))) else if op = 16 then some (aW r an (aN 14 (rg r bn) (im, im)))
   else if op = 17 then some (aW r an (aN 12 (rg r bn) (im, im))) else if op = 18 ∨ op = 20 ∨ op = 26 then some (aW r an uP) else if op = 25 then Ii r an im else some r) by
  unfold bT Ii
  rw [if_pos ⟨hv, hp⟩, if_neg o1])
 obtain ⟨O, hO⟩ : ∃ O, bT ⟨op, an, bn, cn, im⟩ r = O := ⟨_, rfl⟩
 rw [hO] at QE LZ yz ⊢
 clear hO
 obtain ⟨V, hV, k0, k1, k2, bV, sV⟩ := cm w #[.int .u8 op, .int .i64 (an : Int), .int .i64 (bn : Int), .int .i64 (cn : Int), .int .i64 im] (aa r).toArray acM.toArray 64 56 56
 obtain ⟨a0, a1, a2, a3, a4, lV⟩ := aQ k0
 have K1 := acD (show aH V (w.heap.size + 1) 56 r from k1)
 have mG := acD (show (Tryz.prog.info? 56).map (·.size) = some (aa r).length by rw [ax, hr.len]; kernel_rfl)
 have K2 := acD k2
 have BV := acD bV
 have gM := acD (Calls.ext (eM ⟨op, an, bn, cn, im⟩ h0 V (T.below bV)))
 have j8 := acD (fun x : Ext V => Calls.ay (x := x) (eU r hr.len x.w))
 clear k0 k1 k2 bV
 go_enter Tryz.func12, Tryz.ntmps12
 go_upto_region 1 with fail
 clear hV
 rw [hv] at gM
 rw [hp] at j8
 have Vw : IntKind.i32.wrap im = im := IntWalk.i32_in _ abo
 go_upto_region 4 with (first | (go_at_call 32; refine gM.out.mono ?_; rintro e w' ⟨rfl, y, rfl⟩) | (go_at_call 33; refine (j8.out _).mono ?_; rintro e w' ⟨rfl, z, rfl⟩) | (refine bu abx _ _ rfl _ _ rfl (aa r) _ (K1.out.keep (Ext.h _)).range Tryz.underlying56 rfl mG.out ?_) | (go_at_call 34; refine (Calls.ay (cN im _)).mono ?_; rintro e w' ⟨rfl, q, rfl⟩))
 obtain ⟨cb, hcb⟩ : ∃ cb, q.w.heap.size = cb := ⟨_, rfl⟩
 obtain ⟨U, hU⟩ : ∃ U, q.w.alloc (.cells #[.int .i32 im, .int .i32 im] 54) = U := ⟨_, rfl⟩
 have bU : Below V.heap.size V U := hU ▸ q.h.alloc q.h.size _
 have kC : U.heap[q.w.heap.size]? = some (.cells #[.int .i32 im, .int .i32 im] 54 (0, 0)) := hU ▸ heap_alloc_new _ _
 rw [hU]
 rw [hcb] at kC ⊢
 have g0 : U.cell? ⟨cb, 0, none⟩ = some (.int .i32 im) := cell_of_row _ _ _ _ _ _ kC
 have g1 : U.cell? ⟨cb, 1, none⟩ = some (.int .i32 im) := cell_of_row _ _ _ _ _ _ kC
 have lC : cb < U.heap.size := (Array.getElem?_eq_some_iff.1 kC).1
 have u0 : U.cell? ⟨w.heap.size, 0, none⟩ = some (.int .u8 op) := by rw [bU.cell (p := ⟨w.heap.size, 0, none⟩) lV]; exact a0
 have u1 : U.cell? ⟨w.heap.size, 1, none⟩ = some (.int .i64 (an : Int)) := by rw [bU.cell (p := ⟨w.heap.size, 1, none⟩) lV]; exact a1
 have u2 : U.cell? ⟨w.heap.size, 2, none⟩ = some (.int .i64 (bn : Int)) := by rw [bU.cell (p := ⟨w.heap.size, 2, none⟩) lV]; exact a2
 have u3 : U.cell? ⟨w.heap.size, 3, none⟩ = some (.int .i64 (cn : Int)) := by rw [bU.cell (p := ⟨w.heap.size, 3, none⟩) lV]; exact a3
 have u4 : U.cell? ⟨w.heap.size, 4, none⟩ = some (.int .i64 im) := by rw [bU.cell (p := ⟨w.heap.size, 4, none⟩) lV]; exact a4
 have EY := acD (K1.out.keep bU)
 have Qr := acD ((bU.block _ sV).trans K2.out)
 have sU := bU.size
 have BU := acD (BV.out.trans (bU.mono BV.out.size))
 obtain ⟨bl, hbl⟩ : ∃ bl, (rg r (bn : Int)).1 = bl := ⟨_, rfl⟩
 obtain ⟨bh, M8⟩ : ∃ bh, (rg r (bn : Int)).2 = bh := ⟨_, rfl⟩
 obtain ⟨cl, hcl⟩ : ∃ cl, (rg r (cn : Int)).1 = cl := ⟨_, rfl⟩
 obtain ⟨ch, hch⟩ : ∃ ch, (rg r (cn : Int)).2 = ch := ⟨_, rfl⟩
 obtain ⟨al, hal⟩ : ∃ al, (rg r (an : Int)).1 = al := ⟨_, rfl⟩
 obtain ⟨ah, zX⟩ : ∃ ah, (rg r (an : Int)).2 = ah := ⟨_, rfl⟩
 have r0 : U.cell? ⟨w.heap.size + 1, bn * 2, none⟩ = some (.int .i32 bl) := by rw [← hbl]; exact EY.out.lo abM
 have r1 : U.cell? ⟨w.heap.size + 1, bn * 2 + 1, none⟩ = some (.int .i32 bh) := by rw [← M8]; exact EY.out.hi abM
 have r2 : U.cell? ⟨w.heap.size + 1, cn * 2, none⟩ = some (.int .i32 cl) := by rw [← hcl]; exact EY.out.lo abL
 have r3 : U.cell? ⟨w.heap.size + 1, cn * 2 + 1, none⟩ = some (.int .i32 ch) := by rw [← hch]; exact EY.out.hi abL
 have r4 : U.cell? ⟨w.heap.size + 1, an * 2, none⟩ = some (.int .i32 al) := by rw [← hal]; exact EY.out.lo abE
 have r5 : U.cell? ⟨w.heap.size + 1, an * 2 + 1, none⟩ = some (.int .i32 ah) := by rw [← zX]; exact EY.out.hi abE
 have yO := acD (show rg r (bn : Int) = (bl, bh) from Prod.ext hbl M8)
 have oM := acD (show rg r (cn : Int) = (cl, ch) from Prod.ext hcl hch)
 have je := acD (show rg r (an : Int) = (al, ah) from Prod.ext hal zX)
 have ia : (an : Int) < 16 := by omega
 have ib : (bn : Int) < 16 := by omega
 have ic : (cn : Int) < 16 := by omega
 have lR : w.heap.size + 1 < U.heap.size := by omega
 have lI : w.heap.size < U.heap.size := by omega
 have lO : w.heap.size + 1 + 1 < U.heap.size := by omega
 have rf0 : U.frozen? ⟨w.heap.size + 1, an * 2, none⟩ = false := EY.out.fz _
 have rf1 : U.frozen? ⟨w.heap.size + 1, an * 2 + 1, none⟩ = false := EY.out.fz _
 have fA : aP bl ∧ aP bh := by have h := hr.at_ (bn : Int); rw [yO.out] at h; exact h
 have hcw : aP cl ∧ aP ch := by have h := hr.at_ (cn : Int); rw [oM.out] at h; exact h
 have Hi : aP al ∧ aP ah := by have h := hr.at_ (an : Int); rw [je.out] at h; exact h
 clear hcb hU bU kC a0 a1 a2 a3 a4 hbl M8 hcl hch hal zX gM j8 K1 K2 Vw hv
 have HP := acD hp
 clear hp
 have hC : (op = 0 ∨ op = 1 ∨ op = 19 ∨ op = 21 ∨ op = 22 ∨ op = 23 ∨ op = 24 ∨ op = 27 ∨ op = 28 ∨ op = 29) ∨ ((2 ≤ op ∧ op ≤ 13) ∧ (op = 5 ∨ op = 6) ∧ rg r (cn : Int) = (0, 0)) ∨ ((2 ≤ op ∧ op ≤ 13) ∧ ¬ ((op = 5 ∨ op = 6) ∧ rg r (cn : Int) = (0, 0)) ∧ (op = 5 ∨ op = 6)) ∨ ((2 ≤ op ∧ op ≤ 13) ∧ ¬ ((op = 5 ∨ op = 6) ∧ rg r (cn : Int) = (0, 0)) ∧ ¬ (op = 5 ∨ op = 6)) ∨ op = 14 ∨ op = 15 ∨ op = 16 ∨ op = 17 ∨ (op = 18 ∨ op = 20 ∨ op = 26) ∨ op = 25 := by
  by_cases hz : rg r (cn : Int) = (0, 0)
  ·simp only [hz, and_true]; omega
  ·simp only [hz, and_false, not_false_eq_true, true_and]; omega
 rcases hC with h | ⟨o1, hz⟩ | ⟨o1, hz, h5⟩ | ⟨o1, hz, h5⟩ | h | h | h | h | h | h
 focus
  have cH := yz.out abo
  rw [if_neg abo, if_neg abo, if_neg abo, if_neg abo, if_neg abo, if_neg abo] at cH
  have j5 := acD cH
  clear cH
  rcases h with rfl | rfl | rfl | rfl | rfl | rfl | rfl | rfl | rfl | rfl
  all_goals
   go_upto_region 23 with fail
   obtain ⟨Y, hY⟩ : ∃ Y, U = Y := ⟨_, rfl⟩
   obtain ⟨rs, JZ⟩ : ∃ rs, r = rs := ⟨_, rfl⟩
   have lrs : rs.length = 16 := by rw [← JZ]; exact hr.len
   have kY : aH Y (w.heap.size + 1) 56 rs := by rw [← hY, ← JZ]; exact EY.out
   have kO : Y.heap[w.heap.size + 1 + 1]? = some (.cells acM.toArray 56 (0, 0)) := by rw [← hY]; exact Qr.out
   have bY : Below w.heap.size w Y := by rw [← hY]; exact BU.out
   have oK := acD (show ∀ r3, rs.set 0 (0, 0) = r3 → O = some r3 from fun r3 h => by rw [j5.out, ← h, ← JZ, um hr.len (kP HP.out)])
   clear JZ
 rotate_left 10
 focus
  have EZ : ∀ w : World, (binOp .eql 54 (.agg #[.int .i32 cl, .int .i32 ch]) (.agg #[.int .i32 0, .int .i32 0])).run Tryz.prog w = .ok (.bool true) w := fun w => by
   rw [iO]
   have h := oM.out
   rw [hz.2] at h
   simp only [Prod.mk.injEq] at h
   rw [← h.1, ← h.2]
   rfl
  have j5 := acD (QE.out o1 hz)
  obtain ⟨hop, -⟩ := hz
  rcases hop with rfl | rfl
  all_goals
   go_upto_region 5 with fail
   refine az abp abp ?_
   repeat (go_big_quiet_step (first | (go_at_call 34; exact Calls.ay (cN 0 _))))
   refine wpQuiet_nil ?_
   rintro _ ⟨x, rfl⟩
   go_wp2_with (first | (refine wpList_store_row rfl 56 (.tmp 4) (.tmp 46) rfl (w.heap.size + 1 + 1) acM.toArray rfl rfl 56 _ (((Ext.h _).block _ lO).trans Qr.out) abp rfl abt ?_))
   refine bodyPost_ret (results_cell_tmp (P := Tryz.prog) Tryz.results12 _ _ (w.heap.size + 1 + 1) acM _ rfl (au (setRow_heap _ _ _ _ _ _ ((x.h.block _ lO).trans Qr.out))) Tryz.underlying56 rfl abp) rfl ⟨by rw [j5.out]; rfl, below_setRow (BU.out.trans (x.h.mono BU.out.size)) abo _⟩
 focus
  have d1 : decide (2 ≤ op) = true := decide_eq_true o1.1
  have d2 : decide (op ≤ 13) = true := decide_eq_true o1.2
  have nH := acD (nR op o1.1 o1.2)
  have j6 := LZ.out o1 hz
  have HZ := acD hz
  have hap := fun w => pN (nT op) bl bh cl ch w (fA).1.1 fA.1.2 fA.2.1 fA.2.2 hcw.1.1 hcw.1.2 hcw.2.1 hcw.2.2
  obtain ⟨xa, fY⟩ : ∃ xa, (aN (nT op) (bl, bh) (cl, ch)).1 = xa := ⟨_, rfl⟩
  obtain ⟨xb, hxb⟩ : ∃ xb, (aN (nT op) (bl, bh) (cl, ch)).2 = xb := ⟨_, rfl⟩
  rw [fY, hxb] at hap
  have uf := acD hap
  rw [yO.out, oM.out, show aN (nT op) (bl, bh) (cl, ch) = (xa, xb) from Prod.ext fY hxb] at j6
  have j5 := acD j6
  clear hz hap fY hxb fA hcw j6
  have EZ : ∀ w : World, (binOp .eql 54 (.agg #[.int .i32 cl, .int .i32 ch]) (.agg #[.int .i32 0, .int .i32 0])).run Tryz.prog w = .ok (.bool false) w := fun w => by
   rw [iO, show (cl == 0 && ch == 0) = false by
    rw [Bool.eq_false_iff]
    intro h
    rw [Bool.and_eq_true, beq_iff_eq, beq_iff_eq] at h
    exact HZ.out ⟨h5, by rw [oM.out, h.1, h.2]⟩]
  clear HZ
  rcases h5 with rfl | rfl
  all_goals
   go_upto_region 5 with fail
   refine az abp abp ?_
   repeat (go_big_quiet_step (first | (go_at_call 34; exact Calls.ay (cN 0 _))))
   refine wpQuiet_nil ?_
   rintro _ ⟨x, rfl⟩
   go_upto_region 7 with fail
   refine dF 15 abp abp ?_
   simp only [acK, List.take_zero, acL, List.drop_zero]
   repeat (go_big_quiet_step (first | (go_at_call 36; exact Calls.cV (nH.out _)) | (go_at_call 35; exact Calls.ay (uf.out _))))
   refine wpQuiet_nil ?_
   rintro _ ⟨x1, rfl⟩
   go_upto_region 23 with fail
   obtain ⟨W1, hW1⟩ : ∃ W1, x1.w = W1 := ⟨_, rfl⟩
   have wF := acD (show Below U.heap.size U W1 from hW1 ▸ x1.h)
   rw [hW1]
   clear hW1
 rotate_left 2
 focus
  have d1 : decide (2 ≤ op) = true := decide_eq_true o1.1
  have d2 : decide (op ≤ 13) = true := decide_eq_true o1.2
  have nH := acD (nR op o1.1 o1.2)
  have j6 := LZ.out o1 hz
  have HZ := acD hz
  have hap := fun w => pN (nT op) bl bh cl ch w (fA).1.1 fA.1.2 fA.2.1 fA.2.2 hcw.1.1 hcw.1.2 hcw.2.1 hcw.2.2
  obtain ⟨xa, fY⟩ : ∃ xa, (aN (nT op) (bl, bh) (cl, ch)).1 = xa := ⟨_, rfl⟩
  obtain ⟨xb, hxb⟩ : ∃ xb, (aN (nT op) (bl, bh) (cl, ch)).2 = xb := ⟨_, rfl⟩
  rw [fY, hxb] at hap
  have uf := acD hap
  rw [yO.out, oM.out, show aN (nT op) (bl, bh) (cl, ch) = (xa, xb) from Prod.ext fY hxb] at j6
  have j5 := acD j6
  clear hz hap fY hxb fA hcw j6
  have e5 : (op == 5) = false := by rw [Bool.eq_false_iff]; intro h; exact h5 (.inl abS)
  have e6 : (op == 6) = false := by rw [Bool.eq_false_iff]; intro h; exact h5 (.inr abS)
  clear h5
  go_upto_region 5 with fail
  refine az abp abp ?_
  repeat (go_big_quiet_step (fail))
  refine wpQuiet_nil ?_
  rintro _ ⟨x, rfl⟩
  go_upto_region 7 with fail
  refine dF 15 abp abp ?_
  simp only [acK, List.take_zero, acL, List.drop_zero]
  repeat (go_big_quiet_step (first | (go_at_call 36; exact Calls.cV (nH.out _)) | (go_at_call 35; exact Calls.ay (uf.out _))))
  refine wpQuiet_nil ?_
  rintro _ ⟨x1, rfl⟩
  go_upto_region 23 with fail
  obtain ⟨W1, hW1⟩ : ∃ W1, x1.w = W1 := ⟨_, rfl⟩
  have wF := acD (show Below U.heap.size U W1 from hW1 ▸ x1.h)
  rw [hW1]
  clear hW1
 rotate_left 1
 focus
  have cH := yz.out abo
  rw [if_pos h] at cH
  subst h
  obtain ⟨xa, fY⟩ : ∃ x, im = x := ⟨_, rfl⟩
  obtain ⟨xb, hxb⟩ : ∃ x, xa = x := ⟨_, rfl⟩
  rw [show ((im, im) : Int × Int) = (xa, xb) by rw [← hxb, ← fY]] at cH
  have j5 := acD cH
  rw [fY] at g0
  rw [fY, hxb] at g1
  clear cH fY hxb
  go_upto_region 23 with fail
  obtain ⟨W1, hW1⟩ : ∃ W1, U = W1 := ⟨_, rfl⟩
  have wF := acD (show Below U.heap.size U W1 from hW1 ▸ (Below.refl U.heap.size U))
  rw [hW1]
  clear hW1
 rotate_left 1
 focus
  have cH := yz.out abo
  rw [if_neg abo, if_pos h] at cH
  subst h
  obtain ⟨xa, xb, hx, hap⟩ := pM 6 bl bh im im fA abY
  have uf := acD hap
  rw [yO.out, hx] at cH
  have j5 := acD cH
  clear hap hx fA hcw cH
  go_upto_region 11 with fail
  refine aG 9 abp abp ?_
  simp only [acK, List.take_zero, acL, List.drop_zero]
  repeat (go_big_quiet_step (first | (go_at_call 35; exact Calls.ay (uf.out _))))
  refine wpQuiet_nil ?_
  rintro _ ⟨x1, rfl⟩
  go_upto_region 23 with fail
  obtain ⟨W1, hW1⟩ : ∃ W1, x1.w = W1 := ⟨_, rfl⟩
  have wF := acD (show Below U.heap.size U W1 from hW1 ▸ x1.h)
  rw [hW1]
  clear hW1
 rotate_left 1
 focus
  have cH := yz.out abo
  rw [if_neg abo, if_neg abo, if_pos h] at cH
  subst h
  obtain ⟨xa, xb, hx, hap⟩ := pM 14 bl bh im im fA abY
  have uf := acD hap
  rw [yO.out, hx] at cH
  have j5 := acD cH
  clear hap hx fA hcw cH
  go_upto_region 13 with fail
  refine aG 9 abp abp ?_
  simp only [acK, List.take_zero, acL, List.drop_zero]
  repeat (go_big_quiet_step (first | (go_at_call 35; exact Calls.ay (uf.out _))))
  refine wpQuiet_nil ?_
  rintro _ ⟨x1, rfl⟩
  go_upto_region 23 with fail
  obtain ⟨W1, hW1⟩ : ∃ W1, x1.w = W1 := ⟨_, rfl⟩
  have wF := acD (show Below U.heap.size U W1 from hW1 ▸ x1.h)
  rw [hW1]
  clear hW1
 rotate_left 1
 focus
  have cH := yz.out abo
  rw [if_neg abo, if_neg abo, if_neg abo, if_pos h] at cH
  subst h
  obtain ⟨xa, xb, hx, hap⟩ := pM 12 bl bh im im fA abY
  have uf := acD hap
  rw [yO.out, hx] at cH
  have j5 := acD cH
  clear hap hx fA hcw cH
  go_upto_region 15 with fail
  refine aG 9 abp abp ?_
  simp only [acK, List.take_zero, acL, List.drop_zero]
  repeat (go_big_quiet_step (first | (go_at_call 35; exact Calls.ay (uf.out _))))
  refine wpQuiet_nil ?_
  rintro _ ⟨x1, rfl⟩
  go_upto_region 23 with fail
  obtain ⟨W1, hW1⟩ : ∃ W1, x1.w = W1 := ⟨_, rfl⟩
  have wF := acD (show Below U.heap.size U W1 from hW1 ▸ x1.h)
  rw [hW1]
  clear hW1
 rotate_left 1
 focus
  have cH := yz.out abo
  rw [if_neg abo, if_neg abo, if_neg abo, if_neg abo, if_pos h] at cH
  obtain ⟨xa, fY⟩ : ∃ x, (-2147483648 : Int) = x := ⟨_, rfl⟩
  obtain ⟨xb, hxb⟩ : ∃ x, (2147483647 : Int) = x := ⟨_, rfl⟩
  rw [show uP = (xa, xb) by rw [← fY, ← hxb]; rfl] at cH
  have j5 := acD cH
  have XQ := acD (fun w => bK w)
  rw [fY, hxb] at XQ
  clear cH fY hxb
  rcases h with rfl | rfl | rfl
  all_goals
   go_upto_region 17 with fail
   refine aG 4 abp abp ?_
   simp only [acK, List.take_zero, acL, List.drop_zero]
   repeat (go_big_quiet_step (first | (go_at_call 37; exact Calls.ay (XQ.out _))))
   refine wpQuiet_nil ?_
   rintro _ ⟨x1, rfl⟩
   go_upto_region 23 with fail
   obtain ⟨W1, hW1⟩ : ∃ W1, x1.w = W1 := ⟨_, rfl⟩
   have wF := acD (show Below U.heap.size U W1 from hW1 ▸ x1.h)
   rw [hW1]
   clear hW1
 rotate_left 3
 focus
  have cH := yz.out abo
  rw [if_neg abo, if_neg abo, if_neg abo, if_neg abo, if_neg abo, if_pos h] at cH
  subst h
  obtain ⟨xa, xb, hx⟩ : ∃ xa xb, aJ (al, ah) (0, im - 1) = (xa, xb) := ⟨_, _, rfl⟩
  have hme := fun w => nY al ah 0 (im - 1) w
  rw [hx] at hme
  have NJ := acD hme
  have HX := acD (show aJ (rg r (an : Int)) (0, im - 1) = (xa, xb) by rw [je.out]; exact hx)
  have Rb := acD cH
  clear cH
  have w1 : IntKind.i64.wrap (im - 1) = im - 1 := IntWalk.i64_in _ abo
  have w2 : IntKind.i32.wrap (im - 1) = im - 1 := IntWalk.i32_in _ abo
  clear hme hx fA hcw Hi
  go_upto_region 19 with fail
  go_cut [7] from 131 to 140 (fun s7 wx => ∃ (g : Nat) (v : Ext U), s7 = .pointer (some ⟨g, 0, none⟩) ∧ wx = v.w ∧ v.w.cell? ⟨g, 0, none⟩ = some (.int .i32 xa) ∧ v.w.cell? ⟨g, 1, none⟩ = some (.int .i32 xb) ∧ g < v.w.heap.size)
  case first =>
   as_aux_lemma =>
    have K0 : bO U U := Below.refl _ _
    go_region_held3 (fun w' => (∀ b o, b < U.heap.size → w'.cell? ⟨b, o, none⟩ = U.cell? ⟨b, o, none⟩) ∧ bO U w') ((refine rN rfl ?_; (repeat (first | (with_reducible assumption) | (with_reducible refine bO.alloc ?_ _) | (with_reducible refine bO.ext ?_ _) | (with_reducible refine bO.set ?_ abO _) | (with_reducible refine bO.drew ?_)))))
     (first | (go_at_call 38; (first | (with_reducible refine (Calls.ay (NJ.out _)).mono ?_) | (with_reducible refine (Calls.ext (NJ.out _)).mono ?_)); rintro e _ ⟨rfl, y, rfl⟩; have KK : bO U y.w := (by (repeat (first | (with_reducible assumption) | (with_reducible refine bO.alloc ?_ _) | (with_reducible refine bO.ext ?_ _) | (with_reducible refine bO.set ?_ abO _) | (with_reducible refine bO.drew ?_)))); have KS : U.heap.size ≤ y.w.heap.size := KK.size; (have KZ := Below.size (Ext.h y)); (try simp only [World.size_alloc, World.size_drew] at KZ); (try have KM : U.heap.size < y.w.heap.size := abo)))
    all_goals (go_wp2_with fail; go_meet; refine BD ?_ ?_ ?_ ?_)
    all_goals first
     | (with_reducible show bO _ _; (repeat (first | (with_reducible assumption) | (with_reducible refine bO.alloc ?_ _) | (with_reducible refine bO.ext ?_ _) | (with_reducible refine bO.set ?_ abO _) | (with_reducible refine bO.drew ?_))); done)
     | (simp; done)
     | (simp; omega)
     | (go_simp; done)
     | (simp; refine World.cell?_setCell_same _ _ _ (u := .int .i32 0) ?_; go_simp; done)
     | (go_simp; refine World.cell?_setCell_same _ _ _ (u := .int .i32 0) ?_; go_simp; done)
  obtain ⟨tb, v, rfl, rfl, S9, S8, MC⟩ := hcut
  obtain ⟨U2, Bq⟩ : ∃ U2, v.w = U2 := ⟨_, rfl⟩
  have b2 : Below U.heap.size U U2 := Bq ▸ v.h
  rw [Bq] at S9 S8 MC ⊢
  have t0 := S9
  have t1 := S8
  have lt2 := MC
  have v1 : U2.cell? ⟨w.heap.size, 1, none⟩ = some (.int .i64 (an : Int)) := by rw [b2.cell (p := ⟨w.heap.size, 1, none⟩) lI]; exact u1
  have s4 : U2.cell? ⟨w.heap.size + 1, an * 2, none⟩ = some (.int .i32 al) := by rw [b2.cell (p := ⟨w.heap.size + 1, an * 2, none⟩) lR]; exact r4
  have s5 : U2.cell? ⟨w.heap.size + 1, an * 2 + 1, none⟩ = some (.int .i32 ah) := by rw [b2.cell (p := ⟨w.heap.size + 1, an * 2 + 1, none⟩) lR]; exact r5
  have sf0 : U2.frozen? ⟨w.heap.size + 1, an * 2, none⟩ = false := (EY.out.keep b2).fz _
  have sf1 : U2.frozen? ⟨w.heap.size + 1, an * 2 + 1, none⟩ = false := (EY.out.keep b2).fz _
  have li2 : w.heap.size < U2.heap.size := by have := b2.size; omega
  have lr2 : w.heap.size + 1 < U2.heap.size := by have := b2.size; omega
  have lo2 : w.heap.size + 1 + 1 < U2.heap.size := by have := b2.size; omega
  have B2 := acD b2
  have Xi := acD ((b2.block _ lO).trans Qr.out)
  clear S9 S8 MC Bq b2 r0 r1 r2 r3 r4 r5 u0 u1 u2 u3 u4 rf0 rf1 g0 g1 w1 w2
  have Ma := acD (Calls.ext (af xa xb U2))
  by_cases he : xb < xa
  ·have d := decide_eq_true he
   have AV := acD (show emp (xa, xb) = true by unfold emp; simpa using he)
   clear he
   go_wp2_with (first | (go_at_call 39; refine Ma.out.mono ?_; rintro e w' ⟨rfl, y, rfl⟩) | (refine wpList_store_row rfl 56 (.tmp 4) (.tmp 143) rfl (w.heap.size + 1 + 1) acM.toArray rfl rfl 56 _ (((Ext.h _).block _ lo2).trans Xi.out) abp rfl abt ?_))
   refine bodyPost_ret (results_cell_tmp (P := Tryz.prog) Tryz.results12 _ _ (w.heap.size + 1 + 1) acM _ rfl (au (setRow_heap _ _ _ _ _ _ ((y.h.block _ lo2).trans Xi.out))) Tryz.underlying56 rfl abp) rfl ⟨?_, below_setRow (BU.out.trans ((B2.out.trans (y.h.mono B2.out.size)).mono BU.out.size)) abo _⟩
   rw [Rb.out, show Ii r (an : Int) im = none by unfold Ii; rw [HX.out, if_pos AV.out]]
   rfl
  have d := decide_eq_false he
  have AV := acD (show ¬ emp (xa, xb) = true by unfold emp; simpa using he)
  clear he
  go_upto_region 22 with (go_at_call 39; refine Ma.out.mono ?_; rintro e w' ⟨rfl, y, rfl⟩)
  go_upto_region 23 with fail
  have j5 := acD (show O = some (aW r (an : Int) (xa, xb)) by rw [Rb.out]; unfold Ii; rw [HX.out, if_neg AV.out])
  have BY5 := acD (B2.out.trans (y.h.mono B2.out.size))
  obtain ⟨W1, hW1⟩ : ∃ W1, y.w = W1 := ⟨_, rfl⟩
  have wF := acD (show Below U.heap.size U W1 from hW1 ▸ BY5.out)
  rw [hW1]
  clear hW1
 rotate_left 1
 rotate_left 10
 iterate 11
  focus
   obtain ⟨Y, hY⟩ : ∃ Y, (W1.setCell ⟨w.heap.size + 1, an * 2, none⟩ (.int .i32 xa)).setCell ⟨w.heap.size + 1, an * 2 + 1, none⟩ (.int .i32 xb) = Y := ⟨_, rfl⟩
   obtain ⟨rs, JZ⟩ : ∃ rs, r.set an (xa, xb) = rs := ⟨_, rfl⟩
   have lrs : rs.length = 16 := by rw [← JZ, List.length_set]; exact hr.len
   have kY : aH Y (w.heap.size + 1) 56 rs := by rw [← hY, ← JZ]; exact (EY.out.keep wF.out).set an (xa, xb)
   have kO : Y.heap[w.heap.size + 1 + 1]? = some (.cells acM.toArray 56 (0, 0)) := by
    rw [← hY, Below.heap_setCell _ _ _ _ abK, Below.heap_setCell _ _ _ _ abK]
    exact (wF.out.block _ lO).trans Qr.out
   have bY : Below w.heap.size w Y := by rw [← hY]; exact Below.setCell (Below.setCell (BU.out.trans (wF.out.mono BU.out.size)) abP _) abP _
   have oK := acD (show ∀ r3, rs.set 0 (0, 0) = r3 → O = some r3 from fun r3 h => by rw [j5.out, ← h, ← JZ, wV hr.len (kP HP.out)])
   clear JZ
  rotate_left 1
 all_goals
  rw [hY]
  have lY : w.heap.size + 1 < Y.heap.size := kY.lt
  have O1 : w.heap.size + 1 + 1 < Y.heap.size := (Array.getElem?_eq_some_iff.1 kO).1
  have z0 : Y.cell? ⟨w.heap.size + 1, 0, none⟩ = some (.int .i32 (rg rs 0).1) := by simpa using kY.lo (k := 0) abo
  have z1 : Y.cell? ⟨w.heap.size + 1, 1, none⟩ = some (.int .i32 (rg rs 0).2) := by simpa using kY.hi (k := 0) abo
  have zf0 : Y.frozen? ⟨w.heap.size + 1, 0, none⟩ = false := kY.fz _
  have zf1 : Y.frozen? ⟨w.heap.size + 1, 1, none⟩ = false := kY.fz _
  have KY := acD kY
  have KO := acD kO
  have BY := acD bY
  have ZH := acD lrs
  have KI := acD (Calls.ext (cN 0 Y))
  clear hY kY kO bY lrs
  go_upto_region 24 with (go_at_call 34; refine KI.out.mono ?_; rintro e w' ⟨rfl, y2, rfl⟩)
  obtain ⟨Z, hZ⟩ : ∃ Z, (y2.w.setCell ⟨w.heap.size + 1, 0, none⟩ (.int .i32 0)).setCell ⟨w.heap.size + 1, 1, none⟩ (.int .i32 0) = Z := ⟨_, rfl⟩
  obtain ⟨r3, hr3⟩ : ∃ r3, rs.set 0 (0, 0) = r3 := ⟨_, rfl⟩
  have l3 : r3.length = 16 := by rw [← hr3, List.length_set]; exact ZH.out
  have kZ : aH Z (w.heap.size + 1) 56 r3 := by
   rw [← hZ, ← hr3]
   have h := (KY.out.keep y2.h).set 0 (0, 0)
   simpa using h
  have GQ : Z.heap[w.heap.size + 1 + 1]? = some (.cells acM.toArray 56 (0, 0)) := by
   rw [← hZ, Below.heap_setCell _ _ _ _ abK, Below.heap_setCell _ _ _ _ abK]
   exact (y2.h.block _ O1).trans KO.out
  have bZ : Below w.heap.size w Z := by rw [← hZ]; exact Below.setCell (Below.setCell (BY.out.trans (y2.h.mono BY.out.size)) abP _) abP _
  rw [hZ]
  have gK := acD kZ.range
  have IB := acD GQ
  have BZ := acD bZ
  have yK := acD (show (Tryz.prog.info? 56).map (·.size) = some (aa r3).length by rw [ax, l3]; kernel_rfl)
  have wC := acD (show (Tryz.prog.info? 56).map (·.size) = some (aa r3).toArray.size by rw [List.size_toArray, ax, l3]; kernel_rfl)
  have KQ := acD (show (acM.toArray : Array Value).size = (aa r3).toArray.size by rw [show (aa r3).toArray.size = 32 by rw [List.size_toArray, ax, l3]]; rfl)
  have wq := acD (aj r3)
  have ZU := acD (oK.out r3 hr3)
  clear hZ kZ GQ bZ hr3 l3 z0 z1 zf0 zf1
  go_wp2_with (first | (refine wpList_load_mid rfl _ _ rfl _ _ rfl (aa r3) _ gK.out Tryz.underlying56 rfl yK.out ?_) | (refine wpList_store_row rfl 56 (.tmp 4) (.tmp 150) rfl (w.heap.size + 1 + 1) (aa r3).toArray rfl rfl 56 _ IB.out wC.out KQ.out wq.out ?_))
  refine bodyPost_ret (results_cell_tmp (P := Tryz.prog) Tryz.results12 _ _ (w.heap.size + 1 + 1) (aa r3) _ rfl (au (setRow_heap _ _ _ _ _ _ IB.out)) Tryz.underlying56 rfl yK.out) rfl ⟨?_, below_setRow BZ.out abo _⟩
  rw [ZU.out]
  rfl
end
end Go.Proofs.YtebklpnkcicpjaaGreatDoor
