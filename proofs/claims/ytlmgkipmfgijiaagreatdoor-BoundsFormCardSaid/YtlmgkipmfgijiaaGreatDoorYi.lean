/-
  What is proved here: parts aDef, aPot, aMem, aFn1, aTr, aCb, aPot2, aAn, aRf.
-/
import Derived.Test.YtlmgkipmfgijiaaGreatDoorYa
import Derived.Test.YtlmgkipmfgijiaaGreatDoorYh
import Derived.Test.YtlmgkipmfgijiaaGreatDoorYc
import Derived.Deep.MidRow
import Derived.Deep.WholeRow
import Derived.Test.YtlmgkipmfgijiaaGreatDoorYg
import Derived.Test.YtlmgkipmfgijiaaGreatDoorYb
import Derived.Deep.QuietTactic
import Derived.BigQuiet
import Derived.Laws.CopyOwn
import Derived.Test.YtlmgkipmfgijiaaGreatDoorYd
namespace Go.Proofs.YtlmgkipmfgijiaaGreatDoor
set_option linter.unusedVariables false
set_option linter.unusedSimpArgs false
set_option maxRecDepth 100000
set_option maxHeartbeats 8000000
section
open Go.RowKit
abbrev RG := List (Int × Int)
def aa (r : RG) : List Value := r.flatMap fun x => [.int .i32 x.1, .int .i32 x.2]
def aA : RG := List.replicate 16 (0, 0)
def rg (r : RG) (k : Int) : Int × Int := r.getD k.toNat (0, 0)
def cK (r : RG) (k : Int) (x : Int × Int) : RG := if k = 0 then r else r.set k.toNat x
structure R16 (r : RG) : Prop where
 len : r.length = 16
 wi : ∀ x ∈ r, aY x.1 ∧ aY x.2
def cj (r : RG) : Bool := r.all (fun x => decide (x.1 ≤ x.2)) && decide (rg r 0 = (0, 0))
def FD (op : Int) : Int := if op = 13 then 18 else op + 4
def Bu : Int × Int := (-2147483648, 2147483647)
def eN (i : Ins) (r : RG) : Option RG :=
 if aU i = true ∧ cj r = true then
  if 2 ≤ i.op ∧ i.op ≤ 13 then
   if (i.op = 5 ∨ i.op = 6) ∧ rg r i.c = (0, 0) then none else some (cK r i.a (cH (FD i.op) (rg r i.b) (rg r i.c)))
  else if i.op = 14 then some (cK r i.a (i.aP, i.aP))
  else if i.op = 15 then some (cK r i.a (cH 6 (rg r i.b) (i.aP, i.aP)))
  else if i.op = 16 then some (cK r i.a (cH 14 (rg r i.b) (i.aP, i.aP)))
  else if i.op = 17 then some (cK r i.a (cH 12 (rg r i.b) (i.aP, i.aP)))
  else if i.op = 18 ∨ i.op = 20 ∨ i.op = 26 then some (cK r i.a Bu)
  else if i.op = 25 then (if emp (aJ (rg r i.a) (0, i.aP - 1)) = true then none else some (cK r i.a (aJ (rg r i.a) (0, i.aP - 1))))
  else some r
 else none
def fP (x : Int × Int) : Int × Int := if x = (0, 0) then (1, 0) else if x.1 = 0 then (1, x.2) else if x.2 = 0 then (x.1, -1) else x
def nB (op : Int) (taken : Bool) (x : Int × Int) : Int × Int := if (taken == decide (op = 22)) = true then aJ x (0, 0) else fP x
def eZ (i : Ins) (r : RG) (taken : Bool) : Option RG :=
 if aU i = true ∧ cj r = true then
  if i.op = 22 ∨ i.op = 23 then (if emp (nB i.op taken (rg r i.a)) = true then none else some (cK r i.a (nB i.op taken (rg r i.a))))
  else if i.op = 24 then (if taken = true then some r else none)
  else if taken = true then none else some r
 else none
def bK (x y : RG) : RG := List.zipWith bC x y
def dV (x y : RG) : RG := List.zipWith aL x y
def gG : List Ins → RG → Option RG
 | [], r => some r
 | i :: l, r => match eN i r with
  | none => none
  | some r' => gG l r'
def dS (last : Ins) (m k : Nat) (r : RG) : Option RG :=
 if ¬ (last.op = 22 ∨ last.op = 23) then some r
 else if m = 2 then eZ last r (decide (k = 1))
 else match eZ last r false, eZ last r true with
  | none, y => y
  | some x, none => some x
  | some x, some y => some (bK x y)
structure AS where
 reach : List Bool
 bu : List RG
 rep : List Int
def eu (s : AS) (t : Nat) : Option RG → AS × Bool
 | none => (s, false)
 | some r =>
  if s.reach.getD t false = false then (⟨s.reach.set t true, s.bu.set t r, s.rep⟩, true)
  else if bK (s.bu.getD t []) r = s.bu.getD t [] then (s, false)
  else (⟨s.reach, s.bu.set t (if 2 ≤ s.rep.getD t 0 then dV (s.bu.getD t []) (bK (s.bu.getD t []) r) else bK (s.bu.getD t []) r), s.rep.set t (s.rep.getD t 0 + 1)⟩, true)
def ie (last : Ins) (nx : List Int) (bk : RG) (s : AS) : Nat → AS × Bool
 | 0 => (s, false)
 | k + 1 => let p := ie last nx bk s k; let q := eu p.1 (nx.getD k 0).toNat (dS last nx.length k bk); (q.1, p.2 || q.2)
structure AB where
 code : List Ins
 nx : List Int
def AB.last (b : AB) : Ins := b.code.getD (b.code.length - 1) ⟨0, 0, 0, 0, 0⟩
def jd (b : AB) (n : Nat) (s : AS) : AS × Bool := match gG b.code (s.bu.getD n []) with
 | none => (s, false)
 | some bk => ie b.last b.nx bk s b.nx.length
def cz (B : List AB) (s : AS) : Nat → AS × Bool
 | 0 => (s, false)
 | n + 1 => let p := cz B s n; if p.1.reach.getD n false = true then (let q := jd (B.getD n ⟨[], []⟩) n p.1; (q.1, p.2 || q.2)) else p
inductive Ends (B : List AB) : AS → AS → Prop
 | done {s : AS} (h : (cz B s B.length).2 = false) : Ends B s (cz B s B.length).1
 | more {s s' : AS} (h : (cz B s B.length).2 = true) (k : Ends B (cz B s B.length).1 s') : Ends B s s'
theorem Ends.Mp {B : List AB} {s a b : AS} (h : Ends B s a) (k : Ends B s b) : a = b := by
 induction h with
 | done h => cases k with
  | done _ => rfl
  | more h' _ => rw [h] at h'; cases h'
 | more h _ ih => cases k with
  | done h' => rw [h] at h'; cases h'
  | more _ k' => exact ih k'
def cF (n : Nat) : AS := ⟨(List.replicate n false).set 0 true, List.replicate n aA, List.replicate n 0⟩
def fo (b : AB) (n k : Nat) (r : RG) : List (Int × Int) := match gG b.code r with
 | none => ((b.nx.take k).map fun t => ((n : Int), t))
 | some bk => ((List.range k).filter fun j => (dS b.last b.nx.length j bk).isNone).map fun j => ((n : Int), b.nx.getD j 0)
def fC (B : List AB) (s : AS) (n : Nat) : List (Int × Int) := (List.range n).flatMap fun j => if s.reach.getD j false = true then fo (B.getD j ⟨[], []⟩) j (B.getD j ⟨[], []⟩).nx.length (s.bu.getD j []) else []
theorem R16.at_ {r : RG} (h : R16 r) (k : Int) : aY (rg r k).1 ∧ aY (rg r k).2 := by
 unfold rg
 by_cases hk : k.toNat < r.length
 ·have e : r.getD k.toNat (0, 0) = r[k.toNat] := by simp [List.getD, List.getElem?_eq_getElem hk]
  rw [e]
  exact h.wi _ (List.getElem_mem hk)
 ·have e : r.getD k.toNat (0, 0) = (0, 0) := by simp [List.getD, List.getElem?_eq_none (Nat.le_of_not_lt hk)]
  rw [e]
  unfold aY
  simp only
  omega
theorem R16.set {r : RG} (h : R16 r) (k : Nat) {x : Int × Int} (hx : aY x.1 ∧ aY x.2) : R16 (r.set k x) :=
 ⟨by rw [List.length_set]; exact h.len, fun y hy => by rcases List.mem_or_eq_of_mem_set hy with h1 | rfl; exact h.wi _ h1; exact hx⟩
theorem R16.cK {r : RG} (h : R16 r) (k : Int) {x : Int × Int} (hx : aY x.1 ∧ aY x.2) : R16 (cK r k x) := by
 unfold Go.Proofs.YtlmgkipmfgijiaaGreatDoor.cK
 split
 ·exact h
 ·exact h.set _ hx
theorem R16.zero : R16 aA := ⟨by simp [aA], fun x hx => by rw [(List.mem_replicate.1 hx).2]; unfold aY; simp only; omega⟩
end
section
open Go.RowKit
def mP (x : Int × Int) : Nat := if x.2 < x.1 then (if x = (1, 0) then 3 else 4) else (if -2147483648 < x.1 then 1 else 0) + (if x.2 < 2147483647 then 1 else 0)
def mm (r : RG) : Nat := (r.map mP).sum
def ko (s : AS) (k : Nat) : Nat := if s.reach.getD k false = false then 70 else (2 - (s.rep.getD k 0).toNat) + mm (s.bu.getD k [])
def jf (s : AS) (n : Nat) : Nat := ((List.range n).map (ko s)).sum
theorem JJ (x : Int × Int) : mP x ≤ 4 := by unfold mP; split <;> split <;> (try split) <;> omega
theorem Nw {x y : Int × Int} (hx : aY x.1 ∧ aY x.2) (hy : aY y.1 ∧ aY y.2) : aY (bC x y).1 ∧ aY (bC x y).2 := by
 unfold bC aY at *
 split <;> split <;> first | omega | (simp only; omega)
theorem Jz {x y : Int × Int} (hx : aY x.1 ∧ aY x.2) (hy : aY y.1 ∧ aY y.2) : aY (aL x y).1 ∧ aY (aL x y).2 := by
 unfold aL aY at *
 split
 ·split <;> first | omega | (simp only; omega)
 ·split
  ·exact hx
  ·simp only
   constructor <;> split <;> omega
theorem FC {x y : Int × Int} (hx : aY x.1 ∧ aY x.2) (hy : aY y.1 ∧ aY y.2) : mP (bC x y) ≤ mP x := by
 obtain ⟨a, b⟩ := x
 obtain ⟨c, d⟩ := y
 unfold aY at hx hy
 simp only at hx hy
 unfold bC emp mP
 by_cases h1 : b < a <;> by_cases h2 : d < c <;> simp only [h1, h2, decide_true, decide_false, if_true, if_false, Bool.false_eq_true, Prod.mk.injEq]
 ·simp; split <;> omega
 ·split <;> split <;> split <;> omega
 ·exact Nat.le_refl _
 ·rw [if_neg agO]
  split <;> split <;> split <;> split <;> omega
theorem CY {x y : Int × Int} (hx : aY x.1 ∧ aY x.2) (hy : aY y.1 ∧ aY y.2) : mP (aL x (bC x y)) ≤ mP x ∧ (bC x y ≠ x → mP (aL x (bC x y)) < mP x) := by
 obtain ⟨a, b⟩ := x
 obtain ⟨c, d⟩ := y
 unfold aY at hx hy
 simp only at hx hy
 by_cases h1 : b < a
 ·by_cases h2 : d < c
  ·have e : bC (a, b) (c, d) = (1, 0) := by unfold bC emp; simp [h1, h2]
   have e2 : aL (a, b) (1, 0) = (1, 0) := by unfold aL emp; simp [h1]
   rw [e, e2]
   have e3 : mP (1, 0) = 3 := by unfold mP; simp
   rw [e3]
   unfold mP
   simp only [h1, if_true]
   refine ⟨by split <;> omega, fun hn => ?_⟩
   rw [if_neg (fun h => hn h.symm)]
   omega
  ·have e : bC (a, b) (c, d) = (c, d) := by unfold bC emp; simp [h1, h2]
   have e2 : aL (a, b) (c, d) = (c, d) := by unfold aL emp; simp [h1, h2]
   rw [e, e2]
   unfold mP
   simp only [h1, h2, if_true, if_false]
   constructor
   ·split <;> split <;> split <;> omega
   ·intro _; split <;> split <;> split <;> omega
 ·by_cases h2 : d < c
  ·have e : bC (a, b) (c, d) = (a, b) := by unfold bC emp; simp [h1, h2]
   have e2 : aL (a, b) (a, b) = (a, b) := by unfold aL emp; simp [h1]
   rw [e, e2]
   exact ⟨Nat.le_refl _, fun h => absurd rfl h⟩
  ·have e : bC (a, b) (c, d) = (min a c, max b d) := by unfold bC emp; simp [h1, h2]
   have h3 : ¬ max b d < min a c := by omega
   have e2 : aL (a, b) (min a c, max b d) = (if min a c < a then -2147483648 else a, if b < max b d then 2147483647 else b) := by unfold aL emp; simp [h1, h3]
   rw [e, e2]
   unfold mP
   simp only [h1, if_false]
   have h4 : ¬ (if b < max b d then (2147483647 : Int) else b) < (if min a c < a then -2147483648 else a) := by (repeat' split) <;> omega
   have z1 : ¬ ((-2147483648 : Int) < -2147483648) := by decide
   have z2 : ¬ ((2147483647 : Int) < 2147483647) := by decide
   rw [if_neg h4]
   simp only [ne_eq, Prod.mk.injEq, not_and]
   by_cases q1 : min a c < a <;> by_cases q2 : b < max b d <;> simp only [q1, q2, if_true, if_false, z1, z2]
   ·refine ⟨by (repeat' split) <;> omega, fun _ => ?_⟩
    rw [if_pos (show -2147483648 < a by omega), if_pos (show b < 2147483647 by omega)]
    decide
   ·refine ⟨by (repeat' split) <;> omega, fun _ => ?_⟩
    rw [if_pos (show -2147483648 < a by omega)]
    split <;> omega
   ·refine ⟨by (repeat' split) <;> omega, fun _ => ?_⟩
    rw [if_pos (show b < 2147483647 by omega)]
    split <;> omega
   ·exact ⟨Nat.le_refl _, fun h => absurd (show max b d = b by omega) (h agO)⟩
theorem R16.join {x y : RG} (hx : R16 x) (hy : R16 y) : R16 (bK x y) :=
 ⟨by simp [bK, hx.len, hy.len], fun z hz => by
  obtain ⟨i, hi, e⟩ := List.getElem_of_mem hz
  simp only [bK, List.length_zipWith] at hi
  simp only [bK, List.getElem_zipWith] at e
  rw [← e]
  exact Nw (hx.wi _ (List.getElem_mem _)) (hy.wi _ (List.getElem_mem _))⟩
theorem R16.wO {x y : RG} (hx : R16 x) (hy : R16 y) : R16 (dV x y) :=
 ⟨by simp [dV, hx.len, hy.len], fun z hz => by
  obtain ⟨i, hi, e⟩ := List.getElem_of_mem hz
  simp only [dV, List.length_zipWith] at hi
  simp only [dV, List.getElem_zipWith] at e
  rw [← e]
  exact Jz (hx.wi _ (List.getElem_mem _)) (hy.wi _ (List.getElem_mem _))⟩
theorem tW : ∀ {x y : RG}, x.length = y.length → (∀ z ∈ x, aY z.1 ∧ aY z.2) → (∀ z ∈ y, aY z.1 ∧ aY z.2) → mm (bK x y) ≤ mm x
 | [], [], _, _, _ => Nat.le_refl _
 | a :: x, b :: y, hl, hx, hy => by
  have ih := tW (x := x) (y := y) ahG (fun z hz => hx z (List.mem_cons_of_mem _ hz)) (fun z hz => hy z (List.mem_cons_of_mem _ hz))
  have h := FC (hx a (List.mem_cons_self ..)) (hy b (List.mem_cons_self ..))
  simp only [bK, mm, List.zipWith_cons_cons, List.map_cons, List.sum_cons] at *
  omega
theorem rB : ∀ {x y : RG}, x.length = y.length → (∀ z ∈ x, aY z.1 ∧ aY z.2) → (∀ z ∈ y, aY z.1 ∧ aY z.2) → mm (dV x (bK x y)) ≤ mm x ∧ (bK x y ≠ x → mm (dV x (bK x y)) < mm x)
 | [], [], _, _, _ => ⟨Nat.le_refl _, fun h => absurd rfl h⟩
 | a :: x, b :: y, hl, hx, hy => by
  obtain ⟨i1, i2⟩ := rB (x := x) (y := y) ahG (fun z hz => hx z (List.mem_cons_of_mem _ hz)) (fun z hz => hy z (List.mem_cons_of_mem _ hz))
  obtain ⟨h1, h2⟩ := CY (hx a (List.mem_cons_self ..)) (hy b (List.mem_cons_self ..))
  simp only [bK, dV, mm, List.zipWith_cons_cons, List.map_cons, List.sum_cons, ne_eq, List.cons.injEq, not_and] at *
  refine ⟨by omega, fun hn => ?_⟩
  by_cases q : bC a b = a
  ·have := i2 (hn q); omega
  ·have := h2 q; omega
theorem vg : ∀ {r : RG}, mm r ≤ 4 * r.length
 | [] => Nat.le_refl _
 | a :: r => by
  have ih := vg (r := r)
  have h := JJ a
  simp only [mm, List.map_cons, List.sum_cons, List.length_cons] at *
  omega
structure yL (n : Nat) (s : AS) : Prop where
 l1 : s.reach.length = n
 l2 : s.bu.length = n
 l3 : s.rep.length = n
 r16 : ∀ r ∈ s.bu, R16 r
 rep : ∀ x ∈ s.rep, 0 ≤ x ∧ x + (jf s n : Int) ≤ 70 * (n : Int)
theorem qQ {f g : Nat → Nat} {n t : Nat} (ht : t < n) (h : ∀ k, k ≠ t → g k = f k) : ((List.range n).map g).sum + f t = ((List.range n).map f).sum + g t := by
 induction n with
 | zero => omega
 | succ n ih =>
  simp only [List.range_succ, List.map_append, List.map_cons, List.map_nil, List.sum_append, List.sum_cons, List.sum_nil]
  by_cases e : t = n
  ·subst e
   have : (List.range t).map g = (List.range t).map f := List.map_congr_left fun k hk => h k (by have := List.mem_range.1 hk; omega)
   rw [this]; omega
  ·have := ih agO
   rw [h n (fun e2 => e e2.symm)]; omega
theorem yL.get {n : Nat} {s : AS} (h : yL n s) {t : Nat} (ht : t < n) : R16 (s.bu.getD t []) := by
 have hl : t < s.bu.length := by rw [h.l2]; exact ht
 have e : s.bu.getD t [] = s.bu[t] := by simp [List.getD, List.getElem?_eq_getElem hl]
 rw [e]
 exact h.r16 _ (List.getElem_mem hl)
theorem yL.tR {n : Nat} {s : AS} (h : yL n s) {t : Nat} (ht : t < n) : 0 ≤ s.rep.getD t 0 ∧ s.rep.getD t 0 + (jf s n : Int) ≤ 70 * (n : Int) := by
 have hl : t < s.rep.length := by rw [h.l3]; exact ht
 have e : s.rep.getD t 0 = s.rep[t] := by simp [List.getD, List.getElem?_eq_getElem hl]
 rw [e]
 exact h.rep _ (List.getElem_mem hl)
theorem cX {α : Type} {l : List α} {t : Nat} {x d : α} (ht : t < l.length) : (l.set t x).getD t d = x := by simp [List.getD, ht]
theorem bH {α : Type} {l : List α} {t k : Nat} {x d : α} (hk : k ≠ t) : (l.set t x).getD k d = l.getD k d := by simp [List.getD, List.getElem?_set, Ne.symm hk]
theorem lN {n : Nat} {s : AS} (h : yL n s) {t : Nat} (ht : t < n) (o : Option RG) (ho : ∀ r, o = some r → R16 r) : yL n (eu s t o).1 ∧ ((eu s t o).2 = true → jf (eu s t o).1 n < jf s n) ∧ ((eu s t o).2 = false → (eu s t o).1 = s) := by
 cases o with
 | none => exact ⟨h, (fun e => by cases e), fun _ => rfl⟩
 | some r =>
  have hr := ho r rfl
  have hg := h.get ht
  have Gj := h.tR ht
  unfold eu
  simp only
  by_cases h1 : s.reach.getD t false = false
  ·rw [if_pos h1]
   have hp : jf ⟨s.reach.set t true, s.bu.set t r, s.rep⟩ n < jf s n := by
    have hu := qQ (f := ko s) (g := ko ⟨s.reach.set t true, s.bu.set t r, s.rep⟩) ht (fun k hk => by unfold ko; simp only; rw [bH hk, bH hk])
    have e1 : ko s t = 70 := by unfold ko; rw [if_pos h1]
    have e2 : ko ⟨s.reach.set t true, s.bu.set t r, s.rep⟩ t ≤ 66 := by
     unfold ko
     simp only
     rw [cX (by rw [h.l1]; exact ht), cX (by rw [h.l2]; exact ht)]
     have := vg (r := r)
     rw [hr.len] at this
     simp
     omega
    unfold jf
    omega
   refine ⟨⟨by simp [h.l1], by simp [h.l2], h.l3, fun x hx => ?_, fun x hx => ?_⟩, fun _ => hp, (fun e => by cases e)⟩
   ·rcases List.mem_or_eq_of_mem_set hx with h2 | rfl
    ·exact h.r16 _ h2
    ·exact hr
   ·have := h.rep x hx
    dsimp only
    omega
  ·rw [if_neg h1]
   have hreach : s.reach.getD t false = true := by simpa using h1
   by_cases h2 : bK (s.bu.getD t []) r = s.bu.getD t []
   ·rw [if_pos h2]
    exact ⟨h, (fun e => by cases e), fun _ => rfl⟩
   ·rw [if_neg h2]
    simp only
    obtain ⟨j, hj⟩ : ∃ j, (if 2 ≤ s.rep.getD t 0 then dV (s.bu.getD t []) (bK (s.bu.getD t []) r) else bK (s.bu.getD t []) r) = j := ⟨_, rfl⟩
    have Me := hg.join hr
    have WW : R16 j := by rw [← hj]; split; exact hg.wO Me; exact Me
    have hjp : (2 - (s.rep.getD t 0 + 1).toNat) + mm j < (2 - (s.rep.getD t 0).toNat) + mm (s.bu.getD t []) := by
     have hlen : (s.bu.getD t []).length = r.length := by rw [hg.len, hr.len]
     rw [← hj]
     split
     ·rename_i h3
      have := (rB hlen hg.wi hr.wi).2 h2
      omega
     ·have := tW hlen hg.wi hr.wi
      omega
    rw [hj]
    have hp : jf ⟨s.reach, s.bu.set t j, s.rep.set t (s.rep.getD t 0 + 1)⟩ n < jf s n := by
     have hu := qQ (f := ko s) (g := ko ⟨s.reach, s.bu.set t j, s.rep.set t (s.rep.getD t 0 + 1)⟩) ht (fun k hk => by unfold ko; simp only; rw [bH hk, bH hk])
     have e1 : ko s t = (2 - (s.rep.getD t 0).toNat) + mm (s.bu.getD t []) := by unfold ko; rw [if_neg h1]
     have e2 : ko ⟨s.reach, s.bu.set t j, s.rep.set t (s.rep.getD t 0 + 1)⟩ t = (2 - (s.rep.getD t 0 + 1).toNat) + mm j := by
      unfold ko
      simp only
      rw [cX (by rw [h.l3]; exact ht), cX (by rw [h.l2]; exact ht), if_neg h1]
     unfold jf
     omega
    refine ⟨⟨h.l1, by simp [h.l2], by simp [h.l3], fun x hx => ?_, fun x hx => ?_⟩, fun _ => hp, (fun e => by cases e)⟩
    ·rcases List.mem_or_eq_of_mem_set hx with h3 | rfl
     ·exact h.r16 _ h3
     ·exact WW
    ·rcases List.mem_or_eq_of_mem_set hx with h3 | rfl
     ·have := h.rep x h3
      omega
     ·omega
end
section
open Go.RowKit
theorem bJ {P : Program} {ops : Array Oper} {rest : List Oper} {op : Oper} {a : Act} {w : World} {Q : Exit → Act → World → Prop} (hw : Region.wanted op (yielded ops a.tmps) = true) (ty : TypeId) (x : Operand) (ho : op.op = .load ty x)
  (b o : Nat) (hx : a.eval x = .pointer (some ⟨b, o, none⟩)) (cs : List Value) (d : TypeDesc) (hc : w.rangeAt b o cs)
  (hu : P.underlying ty = some d) (hd : d.isRow = true) (hi : (P.info? ty).map (·.size) = some cs.length)
  (h : wpList P ops Q rest (a.put op.dst (.agg cs.toArray)) w) : wpList P ops Q (op :: rest) a w :=
 wpList_step fun K hK => by simp only [hw, if_true]; exact wp_load_mid ty x ho b o hx cs d hc hu hd hi (hK _ _ h)
theorem az (r : RG) : (aa r).length = r.length * 2 := by
 induction r with
 | nil => rfl
 | cons a l ih => simp only [aa, List.flatMap_cons, List.length_append, List.length_cons] at *; rw [ih]; simp; omega
theorem l7 : ∀ (r : RG) (k j : Nat) (x : Int × Int), r[k]? = some x → j < 2 → (aa r)[k * 2 + j]? = [Value.int .i32 x.1, .int .i32 x.2][j]?
 | y :: L, 0, j, x, h, hj => by
  simp at h; subst h
  unfold aa
  rw [List.flatMap_cons, Nat.zero_mul, Nat.zero_add, List.getElem?_append_left (by simpa using hj)]
 | y :: L, k + 1, j, x, h, hj => by
  have h' : L[k]? = some x := by simpa using h
  have ih := l7 L k j x h' hj
  unfold aa at ih ⊢
  rw [List.flatMap_cons, List.getElem?_append_right agX, ← ih]
  simp only [List.length_cons, List.length_nil]
  congr 1
  omega
theorem r8 : ∀ (r : RG) (k : Nat) (x : Int × Int), ((aa r).set (k * 2) (.int .i32 x.1)).set (k * 2 + 1) (.int .i32 x.2) = aa (r.set k x)
 | [], k, x => by simp [aa]
 | y :: L, 0, x => by simp [aa]
 | y :: L, k + 1, x => by
  have ih := r8 L k x
  simp only [aa, List.flatMap_cons, ahS] at ih ⊢
  rw [← ih, show (k + 1) * 2 = k * 2 + 2 by omega]
  simp
theorem qX (r : RG) (k : Nat) : rg r (k : Int) = r.getD k (0, 0) := by simp [rg]
theorem iG {r : RG} {k : Nat} (hk : k < r.length) : r[k]? = some (rg r (k : Int)) := by
 rw [qX]
 simp [List.getD, List.getElem?_eq_getElem hk]
theorem Az {r : RG} {k : Nat} (hk : k < r.length) : (aa r).toArray.extract (k * 2) (k * 2 + 2) = #[.int .i32 (rg r (k : Int)).1, .int .i32 (rg r (k : Int)).2] := by
 have hl := az r
 apply Array.ext
 ·simp; omega
 ·intro i h1 h2
  have h3 : i < 2 := by simpa using h2
  have := l7 r k i _ (iG hk) h3
  rw [List.getElem?_eq_getElem agO] at this
  simp only [Array.getElem_extract, ahN]
  rw [List.getElem?_eq_getElem (by simpa using h3)] at this
  simpa using this
theorem oJ {r : RG} {k : Nat} (hk : k < r.length) (w : World) : (part 172 (aa r).toArray (k * 2)).run Tryz.prog w = .ok (.agg #[.int .i32 (rg r (k : Int)).1, .int .i32 (rg r (k : Int)).2]) w := by
 have h1 : (isAgg 172).run Tryz.prog w = .ok true w := by kernel_rfl
 have h2 : (sizeOf 172).run Tryz.prog w = .ok 2 w := by kernel_rfl
 unfold part
 simp only [Sem.run_bind, h1, h2, Result.andThen_ok, if_true, Sem.run_pure]
 rw [Az hk]
theorem zQ {r : RG} (hr : r.length = 16) {k : Nat} (hk : k < 16) (w : World) : (Instr.index 174 (.agg (aa r).toArray) (.int .i64 (k : Int))).run Tryz.prog w = .ok (.agg #[.int .i32 (rg r (k : Int)).1, .int .i32 (rg r (k : Int)).2]) w := by
 have h2 : (sizeOf 172).run Tryz.prog w = .ok 2 w := by kernel_rfl
 have h3 : (0 : Int) ≤ k ∧ (k : Int) < ((16 : Nat) : Int) := by omega
 have h4 := oJ (r := r) (k := k) agO w
 simp [Instr.index, run_underlying Tryz.underlying174, asIntOf, Sem.run_bind, h2, hk, h4]
theorem uB {P : Program} {w : World} (q : Nat → Bool) (g : Nat → Option Bool × PUnit → Sem (ForInStep (Option Bool × PUnit))) : ∀ (l : List Nat), (∀ i ∈ l, ∀ s, (g i s).run P w = .ok (if q i then .yield (none, ()) else .done (some false, ())) w) →
  (forIn l ((none, ()) : Option Bool × PUnit) g).run P w = .ok (if l.all q then (none, ()) else (some false, ())) w
 | [], _ => by simp
 | i :: l, h => by
  have ih := uB q g l (fun j hj => h j (List.mem_cons_of_mem _ hj))
  have h1 := h i (List.mem_cons_self ..) (none, ())
  rw [List.forIn_cons, Sem.run_bind, h1]
  cases hq : q i <;> simp [hq, ih]
theorem D5 (d : Nat) {a b : RG} (ha : a.length = 16) (hb : b.length = 16) (w : World) : (Op.equalIn (d + 1 + 1 + 1) 174 (.agg (aa a).toArray) (.agg (aa b).toArray)).run Tryz.prog w = .ok (decide (a = b)) w := by
 rw [Op.equalIn]
 simp [run_underlying Tryz.underlying174, Sem.run_bind]
 rw [uB (fun i => decide (rg a (i : Int) = rg b (i : Int)))]
 ·have e : (List.range' 0 16).all (fun i => decide (rg a (i : Int) = rg b (i : Int))) = decide (a = b) := by
   rw [Bool.eq_iff_iff, List.all_eq_true, decide_eq_true_eq]
   constructor
   ·intro h
    apply List.ext_getElem?
    intro i
    by_cases hi : i < 16
    ·have := h i (by simp [List.mem_range'_1]; omega)
     rw [decide_eq_true_eq] at this
     rw [iG agO, iG agO, this]
    ·rw [List.getElem?_eq_none agO, List.getElem?_eq_none agO]
   ·rintro rfl i _
    simp
  rw [e]
  cases decide (a = b) <;> simp
 ·intro i hi s
  have hi2 : i < 16 := by simp [List.mem_range'_1] at hi; omega
  have h1 := oJ (r := a) (k := i) agO w
  have h2 := oJ (r := b) (k := i) agO w
  have h3 := Bx d (rg a (i : Int)).1 (rg a (i : Int)).2 (rg b (i : Int)).1 (rg b (i : Int)).2 w
  simp only [Sem.run_bind, h1, h2, Result.andThen_ok, h3]
  by_cases h4 : rg a (i : Int) = rg b (i : Int)
  ·simp [h4]
  ·have : ((rg a (i : Int)).1 == (rg b (i : Int)).1 && (rg a (i : Int)).2 == (rg b (i : Int)).2) = false := by
    rw [Bool.eq_false_iff]
    intro h5
    rw [Bool.and_eq_true] at h5
    exact h4 (Prod.ext (by simpa using h5.1) (by simpa using h5.2))
   simp [this, h4]
theorem Bv {a b : RG} (ha : a.length = 16) (hb : b.length = 16) (w : World) : (binOp .eql 174 (.agg (aa a).toArray) (.agg (aa b).toArray)).run Tryz.prog w = .ok (.bool (decide (a = b))) w := by
 simp only [binOp]
 simp [Op.equal, Op.maxDepth, D5 9997 ha hb]
def aN (w : World) (b : Nat) (T : TypeId) (r : RG) : Prop := w.heap[b]? = some (.cells (aa r).toArray T (0, 0))
section
variable {w : World} {b : Nat} {T : TypeId} {r : RG}
theorem aN.lt (h : aN w b T r) : b < w.heap.size := (Array.getElem?_eq_some_iff.1 h).1
theorem aN.lo (h : aN w b T r) {k : Nat} (hk : k < r.length) : w.cell? ⟨b, k * 2, none⟩ = some (.int .i32 (rg r (k : Int)).1) := by
 have := l7 r k 0 _ (iG hk) agO
 unfold aN at h
 simpa [World.cell?, h] using this
theorem aN.hi (h : aN w b T r) {k : Nat} (hk : k < r.length) : w.cell? ⟨b, k * 2 + 1, none⟩ = some (.int .i32 (rg r (k : Int)).2) := by
 have := l7 r k 1 _ (iG hk) agO
 unfold aN at h
 simpa [World.cell?, h] using this
theorem aN.fz (h : aN w b T r) (o : Nat) : w.frozen? ⟨b, o, none⟩ = false := by unfold aN at h; simp [World.frozen?, h]
theorem aN.keep {w' : World} (h : aN w b T r) (hb : Below w.heap.size w w') : aN w' b T r := (hb.block b h.lt).trans h
theorem aN.set (h : aN w b T r) (k : Nat) (x : Int × Int) : aN ((w.setCell ⟨b, k * 2, none⟩ (.int .i32 x.1)).setCell ⟨b, k * 2 + 1, none⟩ (.int .i32 x.2)) b T (r.set k x) := by
 unfold aN at h ⊢
 rw [heap_setCell_same _ b _ _ T _ (heap_setCell_same w b _ _ T _ h), ← r8]
 simp
theorem aN.range (h : aN w b T r) : w.rangeAt b 0 (aa r) := fun j v hv => by
 unfold aN at h
 simp [World.cell?, h, hv]
end
end
section
open Go.RowKit
theorem lK (w : World) (cA cB : Array Value) (tA tB : TypeId) (x : Ext ((w.alloc (.cells cA tA)).alloc (.cells cB tB))) : w.heap.size + 1 < x.w.heap.size ∧ x.w.heap[w.heap.size]? = some (.cells cA tA (0, 0)) ∧ x.w.heap[w.heap.size + 1]? = some (.cells cB tB (0, 0)) ∧ Below w.heap.size w x.w := by
 have e2 : ((w.alloc (.cells cA tA)).alloc (.cells cB tB)).heap.size = w.heap.size + 1 + 1 := by simp only [World.size_alloc]
 have hs := x.h.size
 refine ⟨by omega, ?_, ?_, Ext.below (((Below.refl _ _).alloc (Nat.le_refl _) _).alloc agT _) agO x⟩
 ·rw [x.h.block _ agO, heap_alloc_old _ _ agT]; exact heap_alloc_new _ _
 ·rw [x.h.block _ agO]; exact aG _ _ agT
theorem nC (op : Int) (h1 : 2 ≤ op) (h2 : op ≤ 13) (w : World) : Calls Tryz.prog 132 #[.int .u8 op] w fun e w' => e = .returned (.int .u8 (FD op)) ∧ w = w' := by
 have h : op = 2 ∨ op = 3 ∨ op = 4 ∨ op = 5 ∨ op = 6 ∨ op = 7 ∨ op = 8 ∨ op = 9 ∨ op = 10 ∨ op = 11 ∨ op = 12 ∨ op = 13 := by omega
 rcases h with rfl | rfl | rfl | rfl | rfl | rfl | rfl | rfl | rfl | rfl | rfl | rfl
 all_goals
  go_enter Tryz.func132, Tryz.ntmps132
  go_wp2
  go_ret
  exact ⟨rfl, rfl⟩
theorem zb (xl xh : Int) (h1 : xl = 0) (h2 : xh = 0) (w : World) : Calls Tryz.prog 135 #[.agg #[.int .i32 xl, .int .i32 xh]] w fun e w' => e = .returned (.agg #[.int .i32 (1), .int .i32 (0)]) ∧ Below w.heap.size w w' := by
 have E := iJ xl xh 0 0
 have hb : (xl == 0 && xh == 0) = true := by simp [h1, h2]
 rw [hb] at E
 clear h1 h2
 go_enter Tryz.func135, Tryz.ntmps135
 go_wp2
 refine aj agP agP ?_
 repeat (go_big_quiet_step (exact Calls.ax (bS 0 _)))
 refine wpQuiet_nil ?_
 rintro _ ⟨x, rfl⟩
 obtain ⟨hz2, k0, k1, kf⟩ := lK w _ _ _ _ x
 have hz1 : w.heap.size < x.w.heap.size := by omega
 have c0 : x.w.cell? ⟨w.heap.size, 0, none⟩ = some (.int .i32 xl) := by rw [cell_of_row _ _ _ _ _ _ k0]; rfl
 have c1 : x.w.cell? ⟨w.heap.size, 1, none⟩ = some (.int .i32 xh) := by rw [cell_of_row _ _ _ _ _ _ k0]; rfl
 have c2 : x.w.cell? ⟨w.heap.size + 1, 0, none⟩ = some (.int .i32 0) := by rw [cell_of_row _ _ _ _ _ _ k1]; rfl
 have c3 : x.w.cell? ⟨w.heap.size + 1, 1, none⟩ = some (.int .i32 0) := by rw [cell_of_row _ _ _ _ _ _ k1]; rfl
 clear k0 k1 kf
 go_wp2_with (go_at_call 128; refine (Calls.ax (av _)).mono ?_; rintro e w' ⟨rfl, y, rfl⟩)
 all_goals
  refine bodyPost_ret (v := .agg #[.int .i32 (1), .int .i32 (0)]) ?hr rfl ⟨rfl, ?aC⟩
  case hr =>
   simp [results, Tryz.results135, go_sem]
  case aC =>
   exact ahJ
theorem zf (xl xh : Int) (h1 : xl = 0) (h2 : xh ≠ 0) (w : World) : Calls Tryz.prog 135 #[.agg #[.int .i32 xl, .int .i32 xh]] w fun e w' => e = .returned (.agg #[.int .i32 (1), .int .i32 (xh)]) ∧ Below w.heap.size w w' := by
 have E := iJ xl xh 0 0
 have hb : (xl == 0 && xh == 0) = false := by simp [h2]
 rw [hb] at E
 have d1 : (xl == 0) = true := by simp [h1]
 clear h1 h2
 go_enter Tryz.func135, Tryz.ntmps135
 go_wp2
 refine aj agP agP ?_
 repeat (go_big_quiet_step (exact Calls.ax (bS 0 _)))
 refine wpQuiet_nil ?_
 rintro _ ⟨x, rfl⟩
 obtain ⟨hz2, k0, k1, kf⟩ := lK w _ _ _ _ x
 have hz1 : w.heap.size < x.w.heap.size := by omega
 have c0 : x.w.cell? ⟨w.heap.size, 0, none⟩ = some (.int .i32 xl) := by rw [cell_of_row _ _ _ _ _ _ k0]; rfl
 have c1 : x.w.cell? ⟨w.heap.size, 1, none⟩ = some (.int .i32 xh) := by rw [cell_of_row _ _ _ _ _ _ k0]; rfl
 have c2 : x.w.cell? ⟨w.heap.size + 1, 0, none⟩ = some (.int .i32 0) := by rw [cell_of_row _ _ _ _ _ _ k1]; rfl
 have c3 : x.w.cell? ⟨w.heap.size + 1, 1, none⟩ = some (.int .i32 0) := by rw [cell_of_row _ _ _ _ _ _ k1]; rfl
 clear k0 k1 kf
 go_wp2_with (go_at_call 128; refine (Calls.ax (av _)).mono ?_; rintro e w' ⟨rfl, y, rfl⟩)
 all_goals
  refine bodyPost_ret (v := .agg #[.int .i32 (1), .int .i32 (xh)]) ?hr rfl ⟨rfl, ?aC⟩
  case hr =>
   simp [results, Tryz.results135, go_sem]
  case aC =>
   exact ahJ
theorem zg (xl xh : Int) (h1 : xl ≠ 0) (h2 : xh = 0) (w : World) : Calls Tryz.prog 135 #[.agg #[.int .i32 xl, .int .i32 xh]] w fun e w' => e = .returned (.agg #[.int .i32 (xl), .int .i32 (-1)]) ∧ Below w.heap.size w w' := by
 have E := iJ xl xh 0 0
 have hb : (xl == 0 && xh == 0) = false := by simp [h1]
 rw [hb] at E
 have d1 : (xl == 0) = false := by simp [h1]
 have d2 : (xh == 0) = true := by simp [h2]
 clear h1 h2
 go_enter Tryz.func135, Tryz.ntmps135
 go_wp2
 refine aj agP agP ?_
 repeat (go_big_quiet_step (exact Calls.ax (bS 0 _)))
 refine wpQuiet_nil ?_
 rintro _ ⟨x, rfl⟩
 obtain ⟨hz2, k0, k1, kf⟩ := lK w _ _ _ _ x
 have hz1 : w.heap.size < x.w.heap.size := by omega
 have c0 : x.w.cell? ⟨w.heap.size, 0, none⟩ = some (.int .i32 xl) := by rw [cell_of_row _ _ _ _ _ _ k0]; rfl
 have c1 : x.w.cell? ⟨w.heap.size, 1, none⟩ = some (.int .i32 xh) := by rw [cell_of_row _ _ _ _ _ _ k0]; rfl
 have c2 : x.w.cell? ⟨w.heap.size + 1, 0, none⟩ = some (.int .i32 0) := by rw [cell_of_row _ _ _ _ _ _ k1]; rfl
 have c3 : x.w.cell? ⟨w.heap.size + 1, 1, none⟩ = some (.int .i32 0) := by rw [cell_of_row _ _ _ _ _ _ k1]; rfl
 clear k0 k1 kf
 go_wp2_with (go_at_call 128; refine (Calls.ax (av _)).mono ?_; rintro e w' ⟨rfl, y, rfl⟩)
 all_goals
  refine bodyPost_ret (v := .agg #[.int .i32 (xl), .int .i32 (-1)]) ?hr rfl ⟨rfl, ?aC⟩
  case hr =>
   simp [results, Tryz.results135, go_sem]
  case aC =>
   exact ahJ
theorem ze (xl xh : Int) (h1 : xl ≠ 0) (h2 : xh ≠ 0) (w : World) : Calls Tryz.prog 135 #[.agg #[.int .i32 xl, .int .i32 xh]] w fun e w' => e = .returned (.agg #[.int .i32 (xl), .int .i32 (xh)]) ∧ Below w.heap.size w w' := by
 have E := iJ xl xh 0 0
 have hb : (xl == 0 && xh == 0) = false := by simp [h1]
 rw [hb] at E
 have d1 : (xl == 0) = false := by simp [h1]
 have d2 : (xh == 0) = false := by simp [h2]
 clear h1 h2
 go_enter Tryz.func135, Tryz.ntmps135
 go_wp2
 refine aj agP agP ?_
 repeat (go_big_quiet_step (exact Calls.ax (bS 0 _)))
 refine wpQuiet_nil ?_
 rintro _ ⟨x, rfl⟩
 obtain ⟨hz2, k0, k1, kf⟩ := lK w _ _ _ _ x
 have hz1 : w.heap.size < x.w.heap.size := by omega
 have c0 : x.w.cell? ⟨w.heap.size, 0, none⟩ = some (.int .i32 xl) := by rw [cell_of_row _ _ _ _ _ _ k0]; rfl
 have c1 : x.w.cell? ⟨w.heap.size, 1, none⟩ = some (.int .i32 xh) := by rw [cell_of_row _ _ _ _ _ _ k0]; rfl
 have c2 : x.w.cell? ⟨w.heap.size + 1, 0, none⟩ = some (.int .i32 0) := by rw [cell_of_row _ _ _ _ _ _ k1]; rfl
 have c3 : x.w.cell? ⟨w.heap.size + 1, 1, none⟩ = some (.int .i32 0) := by rw [cell_of_row _ _ _ _ _ _ k1]; rfl
 clear k0 k1 kf
 go_wp2_with (go_at_call 128; refine (Calls.ax (av _)).mono ?_; rintro e w' ⟨rfl, y, rfl⟩)
 all_goals
  refine bodyPost_ret (v := .agg #[.int .i32 (xl), .int .i32 (xh)]) ?hr rfl ⟨rfl, ?aC⟩
  case hr =>
   simp [results, Tryz.results135, go_sem]
  case aC =>
   exact ahJ
theorem wN (xl xh : Int) (w : World) : Calls Tryz.prog 135 #[.agg #[.int .i32 xl, .int .i32 xh]] w fun e w' => e = .returned (.agg #[.int .i32 (fP (xl, xh)).1, .int .i32 (fP (xl, xh)).2]) ∧ Below w.heap.size w w' := by
 by_cases h1 : xl = 0 <;> by_cases h2 : xh = 0
 ·refine (zb xl xh h1 h2 w).mono fun e w' ⟨q, hb⟩ => ⟨q.trans ?_, hb⟩
  simp [fP, h1, h2]
 ·refine (zf xl xh h1 h2 w).mono fun e w' ⟨q, hb⟩ => ⟨q.trans ?_, hb⟩
  simp [fP, h1, h2]
 ·refine (zg xl xh h1 h2 w).mono fun e w' ⟨q, hb⟩ => ⟨q.trans ?_, hb⟩
  simp [fP, h1, h2]
 ·refine (ze xl xh h1 h2 w).mono fun e w' ⟨q, hb⟩ => ⟨q.trans ?_, hb⟩
  simp [fP, h1, h2]
theorem zA {r : RG} {k : Nat} (hk : k < r.length) (h : (rg r (k : Int)).2 < (rg r (k : Int)).1) : cj r = false := by
 have : r.all (fun x => decide (x.1 ≤ x.2)) = false := by
  rw [List.all_eq_false]
  refine ⟨rg r (k : Int), List.mem_of_getElem? (iG hk), ?_⟩
  simp; omega
 simp [cj, this]
theorem xy {r : RG} (h : ∀ k, k < r.length → (rg r (k : Int)).1 ≤ (rg r (k : Int)).2) : cj r = decide (rg r 0 = (0, 0)) := by
 have : r.all (fun x => decide (x.1 ≤ x.2)) = true := by
  rw [List.all_eq_true]
  intro x hx
  obtain ⟨k, hk⟩ := List.mem_iff_getElem?.1 hx
  have hl := (List.getElem?_eq_some_iff.1 hk).1
  have e := iG hl
  rw [hk] at e
  have := h k hl
  rw [← Option.some.inj e] at this
  simpa using this
 simp [cj, this]
theorem eO (r : RG) (hr : r.length = 16) (w : World) : Calls Tryz.prog 129 #[.agg (aa r).toArray] w fun e w' => e = .returned (.bool (cj r)) ∧ Below w.heap.size w w' := by
 obtain ⟨V, hV⟩ : ∃ V, w.alloc (.cells (aa r).toArray 174) = V := ⟨_, rfl⟩
 have bV : Below w.heap.size w V := hV ▸ (Below.refl _ _).alloc (Nat.le_refl _) _
 have kV : aN V w.heap.size 174 r := by rw [← hV]; exact heap_alloc_new _ _
 have hrg := kV.range
 have DK : (Tryz.prog.info? 174).map (·.size) = some (aa r).length := by rw [az, hr]; kernel_rfl
 have sV := kV.lt
 have KV := ahM kV
 have BV := ahM bV
 have HR := ahM hr
 clear kV bV hr
 go_enter Tryz.func129, Tryz.ntmps129
 go_upto_region 2 with (refine wpList_load_mid rfl 174 (.tmp 1) rfl w.heap.size 0 rfl (aa r) _ hrg Tryz.underlying174 rfl DK ?_)
 clear hV
 go_loopw [4, 6] (fun a4 a6 wr => ∃ k : Nat, k ≤ 16 ∧ a6 = .int .i64 (k : Int) ∧ (∀ j : Nat, j < k → (rg r (j : Int)).1 ≤ (rg r (j : Int)).2) ∧ Below V.heap.size V wr) (fun _ a6 _ => 16 - (intOf a6).toNat)
 case atStart => exact ⟨0, by omega, rfl, fun j hj => by omega, Below.refl _ _⟩
 case round =>
  obtain ⟨k, hk, rfl, hall, hb⟩ := hrel
  have HA := ahM hall
  have HB := ahM hb
  have hsz := hb.size
  clear hall hb
  by_cases hlt : k < 16
  ·have dl : decide ((k : Int) < 16) = true := decide_eq_true agO
   have hix := zQ HR.out hlt
   obtain ⟨lo, hlo⟩ : ∃ lo, (rg r (k : Int)).1 = lo := ⟨_, rfl⟩
   obtain ⟨hi, hhi⟩ : ∃ hi, (rg r (k : Int)).2 = hi := ⟨_, rfl⟩
   rw [hlo, hhi] at hix
   have Vk := ahM hlo
   have HHI := ahM hhi
   clear hlo hhi
   have M0 := ahM (af lo hi)
   by_cases he : hi < lo
   ·have d2 : decide (hi < lo) = true := decide_eq_true he
    go_wp2_with (go_at_call 127; refine (M0.out _).mono ?_; rintro e w' ⟨rfl, hb2⟩)
    go_ret
    refine ⟨by rw [zA (by rw [HR.out]; exact hlt) (by rw [Vk.out, HHI.out]; exact he)]; rfl, BV.out.trans ((HB.out.trans ?_).mono BV.out.size)⟩
    exact (((Below.refl _ _).alloc (Nat.le_refl _) _).trans (hb2.mono agT)).mono hsz
   ·have d2 : decide (hi < lo) = false := decide_eq_false he
    go_wp2_with (go_at_call 127; refine (M0.out _).mono ?_; rintro e w' ⟨rfl, hb2⟩)
    go_roundw
    case rel =>
     refine ⟨k + 1, by omega, by go_num, fun j hj => ?_, HB.out.trans ((((Below.refl _ _).alloc (Nat.le_refl _) _).trans (hb2.mono agT)).mono hsz)⟩
     by_cases hjk : j = k
     ·subst hjk; rw [Vk.out, HHI.out]; omega
     ·exact HA.out j agO
    case measure => simp [intOf]; omega
  ·have HK := ahM (show k = 16 by omega)
   have HP := ahM (xy (r := r) (fun j hj => HA.out j (by rw [HR.out] at hj; rw [HK.out]; exact hj)))
   have KW := KV.out.keep HB.out
   obtain ⟨lo, hlo⟩ : ∃ lo, (rg r 0).1 = lo := ⟨_, rfl⟩
   obtain ⟨hi, hhi⟩ : ∃ hi, (rg r 0).2 = hi := ⟨_, rfl⟩
   have c0 : wr.cell? ⟨w.heap.size, 0, none⟩ = some (.int .i32 lo) := by rw [← hlo]; simpa using KW.lo (k := 0) (by rw [HR.out]; omega)
   have c1 : wr.cell? ⟨w.heap.size, 1, none⟩ = some (.int .i32 hi) := by rw [← hhi]; simpa using KW.hi (k := 0) (by rw [HR.out]; omega)
   have E := iJ lo hi 0 0
   have HQ := ahM (show cj r = (lo == 0 && hi == 0) by
    rw [HP.out, ← hlo, ← hhi, Bool.eq_iff_iff, decide_eq_true_eq, Bool.and_eq_true, beq_iff_eq, beq_iff_eq, Prod.ext_iff])
   have sW : w.heap.size < wr.heap.size := by omega
   clear KW hlo hhi hrg
   have dl : decide ((k : Int) < 16) = false := decide_eq_false agO
   go_upto_region 7 with fail
   refine aj agP agP ?_
   repeat (go_big_quiet_step (exact Calls.ax (bS 0 _)))
   refine wpQuiet_nil ?_
   rintro _ ⟨x, rfl⟩
   go_wp2_with fail
   go_ret
   exact ⟨by rw [HQ.out]; rfl, BV.out.trans ((HB.out.trans (x.h.mono hsz)).mono BV.out.size)⟩
end
section
open Go.RowKit
def dy : Option RG → Value
 | none => .tuple #[.agg (aa aA).toArray, .bool false]
 | some r => .tuple #[.agg (aa r).toArray, .bool true]
theorem bL {w : World} {ib : Nat} {o a b c i : Int} (h : w.heap[ib]? = some (.cells #[.int .u8 o, .int .i64 a, .int .i64 b, .int .i64 c, .int .i64 i] 67 (0, 0))) :
  w.cell? ⟨ib, 0, none⟩ = some (.int .u8 o) ∧ w.cell? ⟨ib, 1, none⟩ = some (.int .i64 a) ∧ w.cell? ⟨ib, 2, none⟩ = some (.int .i64 b) ∧ w.cell? ⟨ib, 3, none⟩ = some (.int .i64 c) ∧ w.cell? ⟨ib, 4, none⟩ = some (.int .i64 i) ∧ ib < w.heap.size :=
 ⟨cell_of_row _ _ _ _ _ _ h, cell_of_row _ _ _ _ _ _ h, cell_of_row _ _ _ _ _ _ h, cell_of_row _ _ _ _ _ _ h, cell_of_row _ _ _ _ _ _ h, (Array.getElem?_eq_some_iff.1 h).1⟩
theorem dL (w : World) (cA cB cC : Array Value) (tA tB tC : TypeId) : ∃ V, ((w.alloc (.cells cA tA)).alloc (.cells cB tB)).alloc (.cells cC tC) = V ∧ V.heap[w.heap.size]? = some (.cells cA tA (0, 0)) ∧ V.heap[w.heap.size + 1]? = some (.cells cB tB (0, 0)) ∧ V.heap[w.heap.size + 1 + 1]? = some (.cells cC tC (0, 0)) ∧ Below w.heap.size w V ∧ w.heap.size + 1 + 1 < V.heap.size := by
 refine ⟨_, rfl, ?_, ?_, aG _ _ agT, (((Below.refl _ _).alloc (Nat.le_refl _) _).alloc agT _).alloc agX _, by simp⟩
 ·rw [heap_alloc_old _ _ agX, heap_alloc_old _ _ agT]; exact heap_alloc_new _ _
 ·rw [heap_alloc_old _ _ agT]; exact aG _ _ agT
theorem ay (r : RG) : (aa r).toArray.all (·.oneCell') = true := all_oneCell_toArray fun v hv => by
 unfold aa at hv
 obtain ⟨x, _, h⟩ := List.mem_flatMap.1 hv
 simp only [List.mem_cons, List.not_mem_nil, or_false] at h
 rcases h with rfl | rfl <;> rfl
theorem wT (op a b c im : Int) (h0 : 0 ≤ op) (r : RG) (hr : R16 r) (w : World) (T : gL w) (hno : aU ⟨op, a, b, c, im⟩ = false ∨ (aU ⟨op, a, b, c, im⟩ = true ∧ cj r = false)) :
  Calls Tryz.prog 107 #[.agg #[.int .u8 op, .int .i64 a, .int .i64 b, .int .i64 c, .int .i64 im], .agg (aa r).toArray] w fun e w' => e = .returned (dy none) ∧ Below w.heap.size w w' := by
 obtain ⟨V, hV, k0, k1, k2, bV, sV⟩ := dL w #[.int .u8 op, .int .i64 a, .int .i64 b, .int .i64 c, .int .i64 im] (aa r).toArray ahV.toArray 67 174 174
 obtain ⟨a0, a1, a2, a3, a4, lV⟩ := bL k0
 have K1 := ahM (show aN V (w.heap.size + 1) 174 r from k1)
 have mD := ahM (show (Tryz.prog.info? 174).map (·.size) = some (aa r).length by rw [az, hr.len]; kernel_rfl)
 have K2 := ahM k2
 have BV := ahM bV
 have kE := ahM (Calls.ext (dK ⟨op, a, b, c, im⟩ h0 V (T.below bV)))
 have ow := ahM (fun x : Ext V => Calls.ax (x := x) (eO r hr.len x.w))
 clear k0 k1 k2 bV
 go_enter Tryz.func107, Tryz.ntmps107
 go_upto_region 1 with fail
 clear hV
 rcases hno with hv | ⟨hv, hp⟩
 ·rw [hv] at kE
  go_wp2_with (first | (go_at_call 55; refine kE.out.mono ?_; rintro e w' ⟨rfl, y, rfl⟩) | (refine wpList_store_row rfl 174 (.tmp 4) (.tmp 16) rfl (w.heap.size + 1 + 1) ahV.toArray rfl rfl 174 _ (((Ext.h _).block _ sV).trans K2.out) agP rfl agR ?_))
  refine bodyPost_ret (results_cell_tmp (P := Tryz.prog) Tryz.results107 _ _ (w.heap.size + 1 + 1) ahV _ rfl (aM (setRow_heap _ _ _ _ _ _ ((y.h.block _ sV).trans K2.out))) Tryz.underlying174 rfl agP) rfl ⟨rfl, below_setRow (BV.out.trans (y.h.mono BV.out.size)) agO _⟩
 ·rw [hv] at kE
  rw [hp] at ow
  go_wp2_with (first | (go_at_call 55; refine kE.out.mono ?_; rintro e w' ⟨rfl, y, rfl⟩) | (go_at_call 129; refine (ow.out _).mono ?_; rintro e w' ⟨rfl, z, rfl⟩) | (refine bJ ag1 _ _ rfl _ _ rfl (aa r) _ (K1.out.keep (Ext.h _)).range Tryz.underlying174 rfl mD.out ?_) | (refine wpList_store_row rfl 174 (.tmp 4) (.tmp 16) rfl (w.heap.size + 1 + 1) ahV.toArray rfl rfl 174 _ (((Ext.h _).block _ sV).trans K2.out) agP rfl agR ?_))
  refine bodyPost_ret (results_cell_tmp (P := Tryz.prog) Tryz.results107 _ _ (w.heap.size + 1 + 1) ahV _ rfl (aM (setRow_heap _ _ _ _ _ _ ((z.h.block _ sV).trans K2.out))) Tryz.underlying174 rfl agP) rfl ⟨rfl, below_setRow (BV.out.trans (z.h.mono BV.out.size)) agO _⟩
theorem w9 {r : RG} (hl : r.length = 16) (h0 : rg r 0 = (0, 0)) (an : Nat) (x : Int × Int) : (r.set an x).set 0 (0, 0) = cK r (an : Int) x := by
 have hz : r.set 0 (0, 0) = r := by
  apply List.ext_getElem?
  intro i
  by_cases hi : i = 0
  ·subst hi
   rw [List.getElem?_set]
   have := iG (r := r) (k := 0) agO
   rw [show ((0 : Nat) : Int) = 0 from rfl] at this
   rw [this]
   simp [hl]
   exact h0.symm
  ·rw [List.getElem?_set]; simp [Ne.symm hi]
 unfold cK
 by_cases ha : an = 0
 ·subst ha
  simp [hz]
 ·rw [if_neg agO, List.set_comm _ _ ha, hz]
  simp
theorem tQ {r : RG} (hl : r.length = 16) (h0 : rg r 0 = (0, 0)) : r.set 0 (0, 0) = r := by
 have h := w9 hl h0 0 (0, 0)
 rw [List.set_set] at h
 rw [h]
 rfl
theorem kN {r : RG} (h : cj r = true) : rg r 0 = (0, 0) := by
 unfold cj at h
 rw [Bool.and_eq_true, decide_eq_true_eq] at h
 exact h.2
end
section
open Go.RowKit
theorem GK (w : World) (cA cB cC cD : Array Value) (tA tB tC tD : TypeId) : ∃ V, (((w.alloc (.cells cA tA)).alloc (.cells cB tB)).alloc (.cells cC tC)).alloc (.cells cD tD) = V ∧ V.heap[w.heap.size]? = some (.cells cA tA (0, 0)) ∧ V.heap[w.heap.size + 1]? = some (.cells cB tB (0, 0)) ∧ V.heap[w.heap.size + 1 + 1]? = some (.cells cC tC (0, 0)) ∧ V.heap[w.heap.size + 1 + 1 + 1]? = some (.cells cD tD (0, 0)) ∧ Below w.heap.size w V ∧ w.heap.size + 1 + 1 + 1 < V.heap.size := by
 obtain ⟨V, e, h0, h1, h2, hb, hs⟩ := dL w cA cB cC tA tB tC
 have hs3 : V.heap.size = w.heap.size + 1 + 1 + 1 := by rw [← e]; simp
 refine ⟨V.alloc (.cells cD tD), by rw [← e], ?_, ?_, ?_, ?_, hb.alloc agO _, by simp; omega⟩
 ·rw [heap_alloc_old _ _ agO]; exact h0
 ·rw [heap_alloc_old _ _ agO]; exact h1
 ·rw [heap_alloc_old _ _ agO]; exact h2
 ·rw [← hs3]; exact heap_alloc_new _ _
theorem Ga {x y z : RG} {F : Int × Int → Int × Int → Int × Int} (hx : x.length = 16) (hy : y.length = 16) (hz : z.length = 16) (h : ∀ j : Nat, j < 16 → rg z (j : Int) = F (rg x (j : Int)) (rg y (j : Int))) : z = List.zipWith F x y := by
 apply List.ext_getElem?
 intro i
 by_cases hi : i < 16
 ·have := h i hi
  rw [iG agO, this]
  rw [List.getElem?_zipWith, iG agO, iG agO]
 ·rw [List.getElem?_eq_none agO, List.getElem?_eq_none (by rw [List.length_zipWith]; omega)]
theorem ja (fid : FuncId) (F : Int × Int → Int × Int → Int × Int) (he : ∀ (args : Array Value) (w : World), (callFunc fid args).run Tryz.prog w = .ok (.enter fid args) w)
  (hF : ∀ a b c d w, Calls Tryz.prog fid #[.agg #[.int .i32 a, .int .i32 b], .agg #[.int .i32 c, .int .i32 d]] w fun e w' => e = .returned (.agg #[.int .i32 (F (a, b) (c, d)).1, .int .i32 (F (a, b) (c, d)).2]) ∧ Below w.heap.size w w')
  (x y : RG) (hx : x.length = 16) (hy : y.length = 16) (w : World) :
  Calls Tryz.prog 104 #[.agg (aa x).toArray, .agg (aa y).toArray, .func (.func fid) #[] #[]] w fun e w' => e = .returned (.agg (aa (List.zipWith F x y)).toArray) ∧ Below w.heap.size w w' := by
 obtain ⟨V, hV, k0, k1, k2, k3, bV, sV⟩ := GK w (aa x).toArray (aa y).toArray ahV.toArray ahV.toArray 174 174 174 174
 have K0 := ahM (show aN V w.heap.size 174 x from k0)
 have K1 := ahM (show aN V (w.heap.size + 1) 174 y from k1)
 have K2 := ahM k2
 have K3 := ahM (show aN V (w.heap.size + 1 + 1 + 1) 174 aA from k3)
 have BV := ahM bV
 have HX := ahM hx
 have HY := ahM hy
 have HF := ahM hF
 clear k0 k1 k2 k3 bV hF hx hy
 go_enter Tryz.func104, Tryz.ntmps104
 go_upto_region 3 with fail
 clear hV
 go_loopw [9] (fun a9 wr => ∃ k : Nat, ∃ z : RG, k ≤ 16 ∧ a9 = .int .i64 (k : Int) ∧ z.length = 16 ∧ (∀ j : Nat, j < k → rg z (j : Int) = F (rg x (j : Int)) (rg y (j : Int))) ∧ Below (w.heap.size + 1 + 1 + 1) V wr ∧ aN wr (w.heap.size + 1 + 1 + 1) 174 z) (fun a9 _ => 16 - (intOf a9).toNat)
 case atStart => exact ⟨0, aA, by omega, rfl, by simp [aA], fun j hj => by omega, Below.refl _ _, K3.out⟩
 case round =>
  obtain ⟨k, z, hk, rfl, hz, hall, hb, kz⟩ := hrel
  have HA := ahM hall
  have HB := ahM hb
  have HZ := ahM hz
  have Te := ahM hb.size
  clear hall hb hz
  by_cases hlt : k < 16
  ·have dl : decide ((k : Int) < 16) = true := decide_eq_true agO
   have ik : (k : Int) < 16 := by omega
   have KX : aN wr w.heap.size 174 x := (HB.out.block _ agO).trans K0.out
   have KY : aN wr (w.heap.size + 1) 174 y := (HB.out.block _ agO).trans K1.out
   obtain ⟨xl, hxl⟩ : ∃ v, (rg x (k : Int)).1 = v := ⟨_, rfl⟩
   obtain ⟨xh, qE⟩ : ∃ v, (rg x (k : Int)).2 = v := ⟨_, rfl⟩
   obtain ⟨yl, Wo⟩ : ∃ v, (rg y (k : Int)).1 = v := ⟨_, rfl⟩
   obtain ⟨yh, Pq⟩ : ∃ v, (rg y (k : Int)).2 = v := ⟨_, rfl⟩
   have c0 : wr.cell? ⟨w.heap.size, k * 2, none⟩ = some (.int .i32 xl) := by rw [← hxl]; exact KX.lo (by rw [HX.out]; exact hlt)
   have c1 : wr.cell? ⟨w.heap.size, k * 2 + 1, none⟩ = some (.int .i32 xh) := by rw [← qE]; exact KX.hi (by rw [HX.out]; exact hlt)
   have c2 : wr.cell? ⟨w.heap.size + 1, k * 2, none⟩ = some (.int .i32 yl) := by rw [← Wo]; exact KY.lo (by rw [HY.out]; exact hlt)
   have c3 : wr.cell? ⟨w.heap.size + 1, k * 2 + 1, none⟩ = some (.int .i32 yh) := by rw [← Pq]; exact KY.hi (by rw [HY.out]; exact hlt)
   have l0 : w.heap.size < wr.heap.size := KX.lt
   have l1 : w.heap.size + 1 < wr.heap.size := KY.lt
   have l3 : w.heap.size + 1 + 1 + 1 < wr.heap.size := kz.lt
   have f0 : wr.frozen? ⟨w.heap.size + 1 + 1 + 1, k * 2, none⟩ = false := kz.fz _
   have f1 : wr.frozen? ⟨w.heap.size + 1 + 1 + 1, k * 2 + 1, none⟩ = false := kz.fz _
   have z0 : wr.cell? ⟨w.heap.size + 1 + 1 + 1, k * 2, none⟩ = some (.int .i32 (rg z (k : Int)).1) := kz.lo (by rw [HZ.out]; exact hlt)
   have z1 : wr.cell? ⟨w.heap.size + 1 + 1 + 1, k * 2 + 1, none⟩ = some (.int .i32 (rg z (k : Int)).2) := kz.hi (by rw [HZ.out]; exact hlt)
   obtain ⟨p, q, hp⟩ : ∃ p q, F (xl, xh) (yl, yh) = (p, q) := ⟨_, _, rfl⟩
   have HG := ahM (show ∀ w, Calls Tryz.prog fid #[.agg #[.int .i32 xl, .int .i32 xh], .agg #[.int .i32 yl, .int .i32 yh]] w fun e w' => e = .returned (.agg #[.int .i32 p, .int .i32 q]) ∧ Below w.heap.size w w' from fun w => by
    have := HF.out xl xh yl yh w
    rw [hp] at this
    exact this)
   have HP := ahM (show F (rg x (k : Int)) (rg y (k : Int)) = (p, q) by rw [← hp, ← hxl, ← qE, ← Wo, ← Pq])
   have KZ := ahM kz
   clear hp hxl qE Wo Pq KX KY kz
   go_upto_region 5 with fail
   refine aI 9 agP agP ?_
   simp only [ahT, List.take_zero, ahU, List.drop_zero]
   repeat (go_big_quiet_step (exact Calls.ax (HG.out _)))
   refine wpQuiet_nil ?_
   rintro _ ⟨x1, rfl⟩
   go_wp2_with fail
   go_roundw
   case rel =>
    refine ⟨k + 1, z.set k (p, q), by omega, by go_num, by rw [List.length_set]; exact HZ.out, fun j hj => ?_, ?_, (KZ.out.keep x1.h).set k (p, q)⟩
    ·by_cases hjk : j = k
     ·subst hjk
      rw [HP.out, qX]
      simp [List.getD, show j < z.length by rw [HZ.out]; exact hlt]
     ·have := HA.out j agO
      rw [← this, qX, qX]
      simp [List.getD, List.getElem?_set, Ne.symm hjk]
    ·exact Below.setCell (Below.setCell (HB.out.trans (x1.h.mono (by have := Te.out; omega))) (Nat.le_refl _) _) (Nat.le_refl _) _
   case measure => simp [intOf]; omega
  ·obtain rfl : k = 16 := by omega
   have HR := ahM (Ga HX.out HY.out HZ.out HA.out)
   have kH := ahM kz.range
   have yX := ahM (show (Tryz.prog.info? 174).map (·.size) = some (aa z).length by rw [az, HZ.out]; kernel_rfl)
   have Lr := ahM (show (Tryz.prog.info? 174).map (·.size) = some (aa z).toArray.size by rw [List.size_toArray, az, HZ.out]; kernel_rfl)
   have Ln := ahM (show (ahV.toArray : Array Value).size = (aa z).toArray.size by rw [show (aa z).toArray.size = 32 by rw [List.size_toArray, az, HZ.out]]; rfl)
   have wA := ahM (ay z)
   have KO := ahM ((HB.out.block _ agO).trans K2.out)
   go_wp2_with (first | (refine wpList_load_mid rfl _ _ rfl _ _ rfl (aa z) _ kH.out Tryz.underlying174 rfl yX.out ?_) | (refine wpList_store_row rfl 174 (.tmp 6) (.tmp 23) rfl (w.heap.size + 1 + 1) (aa z).toArray rfl rfl 174 _ KO.out Lr.out Ln.out wA.out ?_))
   refine bodyPost_ret (uY (P := Tryz.prog) Tryz.results104 _ _ (w.heap.size + 1 + 1) (aa z) _ rfl (aM (setRow_heap _ _ _ _ _ _ KO.out)) Tryz.underlying174 rfl yX.out) rfl ⟨?_, below_setRow (BV.out.trans (HB.out.mono agO)) agO _⟩
   rw [HR.out]
end
section
open Go.RowKit
theorem rM (l : List Int) : aY (aK l).1 ∧ aY (aK l).2 := by
 rcases zS l with h | ⟨h, h1, h2⟩
 ·rw [h]; unfold aY; simp only; omega
 ·rw [h]
  have h3 : EH l ≤ rN l := by
   by_cases hl : l = []
   ·subst hl; decide
   ·exact Int.le_trans (Nt (nD hl)) (Nu (nD hl))
  unfold aY
  simp only
  omega
theorem LD (a n : Bool) : aY (kj a n).1 ∧ aY (kj a n).2 := by cases a <;> cases n <;> (unfold kj aY; simp)
theorem FP {x y : Int × Int} (hx : aY x.1 ∧ aY x.2) (hy : aY y.1 ∧ aY y.2) : aY (aJ x y).1 ∧ aY (aJ x y).2 := by
 unfold aJ aY at *
 split <;> simp only <;> omega
theorem M9 {x y : Int} (h : aY x) : aY (x.tmod y) := by
 unfold aY at *
 have h1 := Int.natAbs_tmod x y
 have h2 : x.natAbs % y.natAbs ≤ x.natAbs := Nat.mod_le _ _
 by_cases h0 : 0 ≤ x
 ·have := Int.tmod_nonneg y h0
  omega
 ·have h3 : 0 ≤ (-x).tmod y := Int.tmod_nonneg y agO
  rw [Int.neg_tmod] at h3
  omega
theorem Fs {a : Int} (h : aY a) (n : Nat) : aY (a / 2 ^ n) := by
 have h1 := Na a n
 unfold aY at *
 by_cases h2 : 0 ≤ a
 ·have := h1.1 h2; omega
 ·have := h1.2 agO; omega
theorem SD (b : Bool) : aY (vY b) := by cases b <;> (unfold aY vY; simp)
theorem Q6 {c : Prop} [Decidable c] {a b : Int} (ha : aY a) (hb : aY b) : aY (if c then a else b) := by split <;> assumption
theorem Qr {op a b : Int} (ha : aY a) : aY (wv op a b) := by
 have z : aY 0 := by unfold aY; omega
 unfold wv
 repeat' (first | exact pG _ | exact En _ _ _ | exact SD _ | exact z | exact M9 ha | exact Fs ha _ | refine Q6 ?_ ?_)
theorem qJ {op : Int} {x y : Int × Int} (hx : aY x.1 ∧ aY x.2) (hy : aY y.1 ∧ aY y.2) : aY (cH op x y).1 ∧ aY (cH op x y).2 := by
 have full : aY ((-2147483648, 2147483647) : Int × Int).1 ∧ aY ((-2147483648, 2147483647) : Int × Int).2 := by unfold aY; simp
 have em : aY ((1, 0) : Int × Int).1 ∧ aY ((1, 0) : Int × Int).2 := by unfold aY; simp
 unfold cH
 split
 ·exact full
 split
 ·exact em
 rename_i ne
 split
 ·split
  ·rename_i h
   exact ⟨Qr hx.1, Qr hx.1⟩
  ·exact em
 unfold lz
 split; exact rM _
 split; exact rM _
 split; exact rM _
 split
 ·unfold vP
  split; exact em
  split; exact full
  exact rM _
 split
 ·unfold gH
  split
  ·exact em
  ·unfold aY xE at *
   simp only
   constructor <;> split <;> omega
 split
 ·unfold vX
  have ho : ∀ n : Int, aY n → 0 ≤ n → aY (gJ n) := fun n h1 h2 => by
   have h3 := zG (n := n) (m := 2147483647) h1.2
   have h4 := FZ h2 h1.2
   have h5 : gJ 2147483647 = 2147483647 := by decide
   unfold aY at *
   omega
  have hm : aY (max x.2 y.2) := by unfold aY at *; omega
  split; · unfold aY at *; simp only; omega
  split; · unfold aY at *; simp only; omega
  split; · unfold aY at *; simp only; omega
  split
  ·refine ⟨by unfold aY at *; simp only; omega, ho _ hm agO⟩
  split; · unfold aY at *; simp only; omega
  split
  ·refine ⟨by unfold aY; simp, ho _ hm agO⟩
  exact full
 split
 ·unfold EG
  split
  ·split
   ·exact rM _
   ·exact full
  ·split
   ·exact ⟨Fs hx.1 _, Fs hx.2 _⟩
   ·unfold aY at *
    simp only
    constructor <;> split <;> omega
 split
 ·unfold Hi
  (repeat' split) <;> exact LD _ _
 ·unfold FV
  split <;> exact LD _ _
theorem Q9 {i : Ins} (hv : aU i = true) (h0 : 0 ≤ i.op) : aY i.aP ∧ aY (i.aP - 1) := by
 obtain ⟨k, hk⟩ := (gh h0).1 hv
 have h1 := hk.aP
 have h2 : ∀ k, k < 30 → -131072 ≤ pP k ∧ pQ k ≤ 131071 := by decide
 have := h2 k hk.lt
 unfold aY
 omega
theorem oD {i : Ins} {r r' : RG} (h0 : 0 ≤ i.op) (hr : R16 r) (h : eN i r = some r') : R16 r' := by
 unfold eN at h
 split at h
 ·rename_i hv
  obtain ⟨w1, w2⟩ := Q9 hv.1 h0
  have z : aY 0 := by unfold aY; omega
  split at h
  ·split at h
   ·cases h
   ·cases h
    exact hr.cK _ (qJ (hr.at_ _) (hr.at_ _))
  split at h
  ·cases h; exact hr.cK _ ⟨w1, w1⟩
  split at h
  ·cases h; exact hr.cK _ (qJ (hr.at_ _) ⟨w1, w1⟩)
  split at h
  ·cases h; exact hr.cK _ (qJ (hr.at_ _) ⟨w1, w1⟩)
  split at h
  ·cases h; exact hr.cK _ (qJ (hr.at_ _) ⟨w1, w1⟩)
  split at h
  ·cases h; exact hr.cK _ (by unfold Bu aY; simp)
  split at h
  ·split at h
   ·cases h
   ·cases h; exact hr.cK _ (FP (hr.at_ _) ⟨z, w2⟩)
  cases h
  exact hr
 ·cases h
theorem Nl {op : Int} {t : Bool} {x : Int × Int} (hx : aY x.1 ∧ aY x.2) : aY (nB op t x).1 ∧ aY (nB op t x).2 := by
 unfold nB
 split
 ·exact FP hx (by unfold aY; simp)
 ·unfold fP aY at *
  (repeat' split) <;> first | omega | (simp only; omega)
theorem dW {i : Ins} {r r' : RG} {t : Bool} (hr : R16 r) (h : eZ i r t = some r') : R16 r' := by
 unfold eZ at h
 split at h
 ·split at h
  ·split at h
   ·cases h
   ·cases h; exact hr.cK _ (Nl (hr.at_ _))
  split at h
  ·split at h
   ·cases h; exact hr
   ·cases h
  ·split at h
   ·cases h
   ·cases h; exact hr
 ·cases h
theorem nw : ∀ {l : List Ins} {r r' : RG}, (∀ i ∈ l, 0 ≤ i.op) → R16 r → gG l r = some r' → R16 r'
 | [], r, r', _, hr, h => by cases h; exact hr
 | i :: l, r, r', ho, hr, h => by
  unfold gG at h
  cases e : eN i r with
  | none => rw [e] at h; cases h
  | some x =>
   rw [e] at h
   exact nw (fun j hj => ho j (List.mem_cons_of_mem _ hj)) (oD (ho i (List.mem_cons_self ..)) hr e) h
theorem nU {last : Ins} {m k : Nat} {r r' : RG} (hr : R16 r) (h : dS last m k r = some r') : R16 r' := by
 unfold dS at h
 split at h
 ·cases h; exact hr
 split at h
 ·exact dW hr h
 ·split at h
  ·exact dW hr h
  ·rename_i h1 _
   cases h
   exact dW hr h1
  ·rename_i h1 h2
   cases h
   exact (dW hr h1).join (dW hr h2)
theorem wP {n : Nat} {last : Ins} {nx : List Int} {bk : RG} (ha : R16 bk) (eV : ∀ t ∈ nx, 0 ≤ t ∧ t < n) {s : AS} (hs : yL n s) : ∀ k, k ≤ nx.length → yL n (ie last nx bk s k).1 ∧ ((ie last nx bk s k).2 = true → jf (ie last nx bk s k).1 n < jf s n) ∧ ((ie last nx bk s k).2 = false → (ie last nx bk s k).1 = s)
 | 0, _ => ⟨hs, (fun h => by cases h), fun _ => rfl⟩
 | k + 1, hk => by
  obtain ⟨h1, h2, h3⟩ := wP ha eV hs k agO
  have ht : 0 ≤ nx.getD k 0 ∧ nx.getD k 0 < n := by
   have e : nx.getD k 0 = nx[k] := by simp [List.getD, List.getElem?_eq_getElem (show k < nx.length by omega)]
   rw [e]
   exact eV _ (List.getElem_mem _)
  obtain ⟨g1, g2, g3⟩ := lN h1 (t := (nx.getD k 0).toNat) agO (dS last nx.length k bk) (fun r hr => nU ha hr)
  unfold ie
  simp only
  refine ⟨g1, fun h => ?_, fun h => ?_⟩
  ·rw [Bool.or_eq_true] at h
   cases q1 : (ie last nx bk s k).2 <;> cases q2 : (eu (ie last nx bk s k).1 (nx.getD k 0).toNat (dS last nx.length k bk)).2
   ·rw [q1, q2] at h; simp at h
   ·have := g2 q2; rw [h3 q1] at this ⊢; exact this
   ·rw [g3 q2]; exact h2 q1
   ·have := g2 q2; have := h2 q1; omega
  ·rw [Bool.or_eq_false_iff] at h
   rw [g3 h.2, h3 h.1]
structure Pg (n : Nat) (b : AB) : Prop where
 op : ∀ i ∈ b.code, 0 ≤ i.op
 nx : ∀ t ∈ b.nx, 0 ≤ t ∧ t < n
theorem Fg {n : Nat} {b : AB} (hb : Pg n b) {s : AS} (hs : yL n s) {k : Nat} (hk : k < n) : yL n (jd b k s).1 ∧ ((jd b k s).2 = true → jf (jd b k s).1 n < jf s n) ∧ ((jd b k s).2 = false → (jd b k s).1 = s) := by
 unfold jd
 split
 ·exact ⟨hs, (fun h => by cases h), fun _ => rfl⟩
 ·rename_i bk h
  exact wP (nw hb.op (hs.get hk) h) hb.nx hs _ (Nat.le_refl _)
theorem tZ {n : Nat} {B : List AB} (hB : ∀ b ∈ B, Pg n b) (hl : B.length = n) {s : AS} (hs : yL n s) : ∀ k, k ≤ n → yL n (cz B s k).1 ∧ ((cz B s k).2 = true → jf (cz B s k).1 n < jf s n) ∧ ((cz B s k).2 = false → (cz B s k).1 = s)
 | 0, _ => ⟨hs, (fun h => by cases h), fun _ => rfl⟩
 | k + 1, hk => by
  obtain ⟨h1, h2, h3⟩ := tZ hB hl hs k agO
  have e : B.getD k ⟨[], []⟩ = B[k]'agO := by simp [List.getD, List.getElem?_eq_getElem (show k < B.length by omega)]
  obtain ⟨g1, g2, g3⟩ := Fg (hB _ (List.getElem_mem (show k < B.length by omega))) h1 (k := k) agO
  rw [← e] at g1 g2 g3
  unfold cz
  simp only
  split
  ·simp only
   refine ⟨g1, fun h => ?_, fun h => ?_⟩
   ·rw [Bool.or_eq_true] at h
    cases q1 : (cz B s k).2 <;> cases q2 : (jd (B.getD k ⟨[], []⟩) k (cz B s k).1).2
    ·rw [q1, q2] at h; simp at h
    ·have := g2 q2; rw [h3 q1] at this ⊢; exact this
    ·rw [g3 q2]; exact h2 q1
    ·have := g2 q2; have := h2 q1; omega
   ·rw [Bool.or_eq_false_iff] at h
    rw [g3 h.2, h3 h.1]
  ·exact ⟨h1, h2, h3⟩
theorem qT (n : Nat) : yL n (cF n) := by
 refine ⟨by simp [cF], by simp [cF], by simp [cF], fun r hr => by rw [(List.mem_replicate.1 hr).2]; exact R16.zero, fun x hx => ?_⟩
 rw [(List.mem_replicate.1 hx).2]
 have hb : ∀ k, ko (cF n) k ≤ 70 := fun k => by
  unfold ko
  split
  ·exact Nat.le_refl _
  ·have h : mm ((cF n).bu.getD k []) ≤ 64 := by
    have := vg (r := (cF n).bu.getD k [])
    have hl : ((cF n).bu.getD k []).length ≤ 16 := by
     unfold cF
     simp only [List.getD]
     by_cases hk : k < n
     ·simp [hk, aA]
     ·simp [hk]
    omega
   omega
 have : ∀ m, ((List.range m).map (ko (cF n))).sum ≤ 70 * m := fun m => by
  induction m with
  | zero => simp
  | succ m ih =>
   simp only [List.range_succ, List.map_append, List.map_cons, List.map_nil, List.sum_append, List.sum_cons, List.sum_nil]
   have := hb m
   omega
 have := this n
 unfold jf
 omega
end
section
open Go.RowKit
def eR (l : List Ins) : List Value := l.flatMap fun i => [.int .u8 i.op, .int .i64 i.a, .int .i64 i.b, .int .i64 i.c, .int .i64 i.aP]
theorem fJ : ∀ (l : List Ins) (k j : Nat) (i : Ins), l[k]? = some i → j < 5 → (eR l)[k * 5 + j]? = [Value.int .u8 i.op, .int .i64 i.a, .int .i64 i.b, .int .i64 i.c, .int .i64 i.aP][j]?
 | y :: L, 0, j, x, h, hj => by
  simp at h; subst h
  unfold eR
  rw [List.flatMap_cons, Nat.zero_mul, Nat.zero_add, List.getElem?_append_left (by simpa using hj)]
 | y :: L, k + 1, j, x, h, hj => by
  have h' : L[k]? = some x := by simpa using h
  have ih := fJ L k j x h' hj
  unfold eR at ih ⊢
  rw [List.flatMap_cons, List.getElem?_append_right agX, ← ih]
  simp only [List.length_cons, List.length_nil]
  congr 1
  omega
theorem tq (l : List Ins) (i : Ins) : eR (l ++ [i]) = eR l ++ [.int .u8 i.op, .int .i64 i.a, .int .i64 i.b, .int .i64 i.c, .int .i64 i.aP] := by simp [eR]
def mj (L : List RG) : List Value := L.flatMap aa
theorem jq : ∀ {L : List RG}, (∀ r ∈ L, r.length = 16) → (mj L).length = L.length * 32
 | [], _ => rfl
 | r :: L, h => by
  have ih := jq (L := L) (fun x hx => h x (List.mem_cons_of_mem _ hx))
  have h1 := h r (List.mem_cons_self ..)
  unfold mj at ih ⊢
  rw [List.flatMap_cons, List.length_append, ih, az, h1, List.length_cons]
  omega
theorem lS : ∀ {L : List RG} {k : Nat} {r : RG}, (∀ r ∈ L, r.length = 16) → L[k]? = some r → ∀ j, j < 32 → (mj L)[k * 32 + j]? = (aa r)[j]?
 | y :: L, 0, r, h, hk, j, hj => by
  simp at hk; subst hk
  unfold mj
  rw [List.flatMap_cons, Nat.zero_mul, Nat.zero_add, List.getElem?_append_left (by rw [az, h y (List.mem_cons_self ..)]; omega)]
 | y :: L, k + 1, r, h, hk, j, hj => by
  have hk' : L[k]? = some r := by simpa using hk
  have ih := lS (fun x hx => h x (List.mem_cons_of_mem _ hx)) hk' j hj
  unfold mj at ih ⊢
  rw [List.flatMap_cons, List.getElem?_append_right (by rw [az, h y (List.mem_cons_self ..)]; omega), ← ih, az, h y (List.mem_cons_self ..)]
  congr 1
  omega
theorem Fy {L : List RG} (h : ∀ r ∈ L, r.length = 16) {k : Nat} (hk : k < L.length) {r : RG} (hr : r.length = 16) :
  (mj L).take (k * 32) ++ aa r ++ (mj L).drop (k * 32 + 32) = mj (L.set k r) := by
 have hl := jq h
 have h' : ∀ x ∈ L.set k r, x.length = 16 := fun x hx => by rcases List.mem_or_eq_of_mem_set hx with h1 | rfl; exact h _ h1; exact hr
 have hl' := jq h'
 rw [List.length_set] at hl'
 have hc : (aa r).length = 32 := by rw [az, hr]
 apply List.ext_getElem?
 intro q
 by_cases hq : q < L.length * 32
 ·obtain ⟨a, b, hb, rfl⟩ : ∃ a b, b < 32 ∧ q = a * 32 + b := ⟨q / 32, q % 32, Nat.mod_lt _ agO, by omega⟩
  have ha : a < L.length := by omega
  by_cases e : a = k
  ·subst e
   rw [lS h' (r := r) (by simp [ha]) b hb, List.append_assoc, List.getElem?_append_right ahz, List.length_take, Nat.min_eq_left agO, show a * 32 + b - a * 32 = b by omega, List.getElem?_append_left agO]
  ·rw [lS h' (r := L[a]) (by rw [List.getElem?_set]; simp [Ne.symm e, ha]) b hb, ← lS h (List.getElem?_eq_getElem ha) b hb]
   by_cases e2 : a < k
   ·rw [List.append_assoc, List.getElem?_append_left ahz, List.getElem?_take, if_pos agO]
   ·rw [List.getElem?_append_right (by rw [List.length_append, List.length_take]; omega), List.length_append, List.length_take, hc, Nat.min_eq_left agO, List.getElem?_drop]
    congr 1
    omega
 ·rw [List.getElem?_eq_none (by rw [List.length_append, List.length_append, List.length_take, List.length_drop, hc]; omega), List.getElem?_eq_none agO]
structure An (V w : World) (ab cb rb ib pb : Nat) (bv pv : Value) (G : List aZ) (B : List AB) (val : Nat → Value) (s : AS) : Prop where
 aC : Below V.heap.size V w
 Oy : fF V bv G
 lG : G.length = B.length
 Xy : ∀ (k : Nat) (x : aZ) (b : AB), G[k]? = some x → B[k]? = some b → x.nx = b.nx
 lB : B.length ≤ 1000000
 aV : V.heap.size ≤ ab
 rV : V.heap.size ≤ rb
 iV : V.heap.size ≤ ib
 pV : V.heap.size ≤ pb
 head : w.heap[ab]? = some (.cells #[bv, pv, .slice (some ⟨cb, 0, none⟩) B.length B.length, .slice (some ⟨rb, 0, none⟩) B.length B.length, .slice (some ⟨ib, 0, none⟩) B.length B.length, .slice (some ⟨pb, 0, none⟩) B.length B.length] 169 (0, 0))
 lH : w.ownsRow V.heap.size 144 1 (.slice (some ⟨cb, 0, none⟩) B.length B.length) B.length ((List.range B.length).map val)
 own : ∀ (k : Nat) (b : AB), B[k]? = some b → w.ownsRow V.heap.size 67 5 (val k) b.code.length (eR b.code)
 eY : w.heap[rb]? = some (.cells (s.reach.map Value.bool).toArray 4 (0, 0))
 jz : w.heap[ib]? = some (.cells (mj s.bu).toArray 174 (0, 0))
 cG : w.heap[pb]? = some (.cells (s.rep.map (Value.int .i64)).toArray 3 (0, 0))
 p8 : yL B.length s
section
variable {V w : World} {ab cb rb ib pb : Nat} {bv pv : Value} {G : List aZ} {B : List AB} {val : Nat → Value} {s : AS}
theorem An.lt (h : An V w ab cb rb ib pb bv pv G B val s) : ab < w.heap.size ∧ cb < w.heap.size ∧ rb < w.heap.size ∧ ib < w.heap.size ∧ pb < w.heap.size :=
 ⟨aB h.head, (h.lH.lt cb rfl).2, aB h.eY, aB h.jz, aB h.cG⟩
theorem dG {w : World} {B : Nat} {e : TypeId} {z n q : Nat} {v : Value} {xs : List Value} (h : w.ownsRow B e z v n xs) (hq : v.ownBlock = some q) : ∃ cs, w.heap[q]? = some (.cells cs e (0, 0)) := by
 rcases h.2 with ⟨rfl, _⟩ | ⟨g, cap, cur, rfl, _, hg, _⟩
 ·cases hq
 ·cases hq; exact ⟨_, hg⟩
theorem aQ {w : World} {q q' : Nat} {cs cs' : Array Value} {e e' : TypeId} (h : w.heap[q]? = some (.cells cs e (0, 0))) (h' : w.heap[q']? = some (.cells cs' e' (0, 0))) (hne : e ≠ e') : q ≠ q' := by
 rintro rfl
 rw [h] at h'
 cases h'
 exact hne rfl
theorem An.ne (h : An V w ab cb rb ib pb bv pv G B val s) : ab ≠ rb ∧ ab ≠ ib ∧ ab ≠ pb ∧ cb ≠ rb ∧ cb ≠ ib ∧ cb ≠ pb ∧ rb ≠ ib ∧ rb ≠ pb ∧ ib ≠ pb := by
 obtain ⟨cs, hc⟩ := dG h.lH (q := cb) rfl
 exact ⟨aQ h.head h.eY agQ, aQ h.head h.jz agQ, aQ h.head h.cG agQ, aQ hc h.eY agQ, aQ hc h.jz agQ, aQ hc h.cG agQ, aQ h.eY h.jz agQ, aQ h.eY h.cG agQ, aQ h.jz h.cG agQ⟩
def EF (rb ib pb : Nat) : Nat → Prop := fun k => k = rb ∨ k = ib ∨ k = pb
theorem An.to {w' : World} {s' : AS} (h : An V w ab cb rb ib pb bv pv G B val s) (hf : Fr (EF rb ib pb) w w')
  (hr : w'.heap[rb]? = some (.cells (s'.reach.map Value.bool).toArray 4 (0, 0))) (hi : w'.heap[ib]? = some (.cells (mj s'.bu).toArray 174 (0, 0)))
  (hp : w'.heap[pb]? = some (.cells (s'.rep.map (Value.int .i64)).toArray 3 (0, 0))) (ha : yL B.length s') : An V w' ab cb rb ib pb bv pv G B val s' := by
 obtain ⟨n1, n2, n3, n4, n5, n6, _⟩ := h.ne
 have hS : ∀ k, EF rb ib pb k → V.heap.size ≤ k := fun k hk => by
  have := h.rV; have := h.iV; have := h.pV
  rcases hk with rfl | rfl | rfl <;> assumption
 have hq : ∀ {e : TypeId} {z n : Nat} {v : Value} {xs : List Value}, w.ownsRow V.heap.size e z v n xs → e ≠ 4 → e ≠ 174 → e ≠ 3 → ∀ q, v.ownBlock = some q → ¬ EF rb ib pb q := fun ho e1 e2 e3 q hq hk => by
  obtain ⟨cs, hc⟩ := dG ho hq
  rcases hk with rfl | rfl | rfl
  ·exact aQ hc h.eY e1 rfl
  ·exact aQ hc h.jz e2 rfl
  ·exact aQ hc h.cG e3 rfl
 refine ⟨h.aC.trans (hf.below h.aC.size hS), h.Oy, h.lG, h.Xy, h.lB, h.aV, h.rV, h.iV, h.pV, ?_, ?_, fun k b hk => ?_, hr, hi, hp, ha⟩
 ·rw [hf.block ab h.lt.1 (by unfold EF; omega)]; exact h.head
 ·exact hf.own h.lH (hq h.lH agQ agQ agQ)
 ·exact hf.own (h.own k b hk) (hq (h.own k b hk) agQ agQ agQ)
theorem An.below {w' : World} (h : An V w ab cb rb ib pb bv pv G B val s) (hb : Below w.heap.size w w') : An V w' ab cb rb ib pb bv pv G B val s := by
 obtain ⟨l1, l2, l3, l4, l5⟩ := h.lt
 exact h.to (Fr.of hb) ((hb.block _ l3).trans h.eY) ((hb.block _ l4).trans h.jz) ((hb.block _ l5).trans h.cG) h.p8
theorem An.cells (h : An V w ab cb rb ib pb bv pv G B val s) : w.cell? ⟨ab, 0, none⟩ = some bv ∧ w.cell? ⟨ab, 2, none⟩ = some (.slice (some ⟨cb, 0, none⟩) B.length B.length) ∧ w.cell? ⟨ab, 3, none⟩ = some (.slice (some ⟨rb, 0, none⟩) B.length B.length) ∧ w.cell? ⟨ab, 4, none⟩ = some (.slice (some ⟨ib, 0, none⟩) B.length B.length) ∧ w.cell? ⟨ab, 5, none⟩ = some (.slice (some ⟨pb, 0, none⟩) B.length B.length) := by
 refine ⟨?_, ?_, ?_, ?_, ?_⟩ <;> simp [World.cell?, h.head]
theorem An.code (h : An V w ab cb rb ib pb bv pv G B val s) {k : Nat} {b : AB} (hk : B[k]? = some b) : w.cell? ⟨cb, k, none⟩ = some (val k) ∧ (val k = .slice none 0 0 ∧ b.code = [] ∨ ∃ q cap, val k = .slice (some ⟨q, 0, none⟩) b.code.length cap ∧ b.code.length ≤ cap ∧ cap ≤ maxLen ∧ q < w.heap.size ∧ ∀ j i, b.code[j]? = some i →
  w.cell? ⟨q, j * 5, none⟩ = some (.int .u8 i.op) ∧ w.cell? ⟨q, j * 5 + 1, none⟩ = some (.int .i64 i.a) ∧ w.cell? ⟨q, j * 5 + 2, none⟩ = some (.int .i64 i.b) ∧ w.cell? ⟨q, j * 5 + 3, none⟩ = some (.int .i64 i.c) ∧ w.cell? ⟨q, j * 5 + 4, none⟩ = some (.int .i64 i.aP)) := by
 have hlt := (List.getElem?_eq_some_iff.1 hk).1
 refine ⟨by rw [h.lH.cellAt _ agO, List.getElem?_map, List.getElem?_range hlt]; rfl, ?_⟩
 have ho := h.own k b hk
 rcases ho.2 with ⟨h1, h2⟩ | ⟨g, cap, cur, h1, h2, h3, h4, h5, h6, h7⟩
 ·exact .inl ⟨h1, List.length_eq_zero_iff.1 h2⟩
 ·refine .inr ⟨g, cap, h1, h4, h5, aB h3, fun j i hi => ?_⟩
  have hj := (List.getElem?_eq_some_iff.1 hi).1
  rw [h1] at ho
  refine ⟨?_, ?_, ?_, ?_, ?_⟩
  ·rw [ho.cellAt _ agO, show j * 5 = j * 5 + 0 by omega, fJ _ _ _ _ hi agO]; rfl
  ·rw [ho.cellAt _ agO, fJ _ _ _ _ hi agO]; rfl
  ·rw [ho.cellAt _ agO, fJ _ _ _ _ hi agO]; rfl
  ·rw [ho.cellAt _ agO, fJ _ _ _ _ hi agO]; rfl
  ·rw [ho.cellAt _ agO, fJ _ _ _ _ hi agO]; rfl
theorem An.qy (h : An V w ab cb rb ib pb bv pv G B val s) {t : Nat} (ht : t < B.length) : w.cell? ⟨rb, t, none⟩ = some (.bool (s.reach.getD t false)) ∧ w.frozen? ⟨rb, t, none⟩ = false := by
 have hl : t < s.reach.length := by rw [h.p8.l1]; exact ht
 constructor
 ·simp [World.cell?, h.eY, List.getD, List.getElem?_eq_getElem hl]
 ·simp [World.frozen?, h.eY]
theorem An.tR (h : An V w ab cb rb ib pb bv pv G B val s) {t : Nat} (ht : t < B.length) : w.cell? ⟨pb, t, none⟩ = some (.int .i64 (s.rep.getD t 0)) ∧ w.frozen? ⟨pb, t, none⟩ = false := by
 have hl : t < s.rep.length := by rw [h.p8.l3]; exact ht
 constructor
 ·simp [World.cell?, h.cG, List.getD, List.getElem?_eq_getElem hl]
 ·simp [World.frozen?, h.cG]
theorem An.xG (h : An V w ab cb rb ib pb bv pv G B val s) : ∀ r ∈ s.bu, r.length = 16 := fun r hr => (h.p8.r16 r hr).len
theorem CV {w : World} {q : Nat} {T : TypeId} {xs cs : List Value} {o : Nat} (h : w.heap[q]? = some (.cells xs.toArray T (0, 0))) (hc : ∀ j, j < cs.length → xs[o + j]? = cs[j]?) : w.rangeAt q o cs := fun j v hv => by
 have hj := (List.getElem?_eq_some_iff.1 hv).1
 have := hc j hj
 rw [hv] at this
 simp [World.cell?, h, this]
theorem An.mo (h : An V w ab cb rb ib pb bv pv G B val s) {t : Nat} (ht : t < B.length) : w.rangeAt ib (t * 32) (aa (s.bu.getD t [])) := by
 have hl : t < s.bu.length := by rw [h.p8.l2]; exact ht
 have e : s.bu.getD t [] = s.bu[t] := by simp [List.getD, List.getElem?_eq_getElem hl]
 have h16 := h.xG _ (List.getElem_mem hl)
 refine CV h.jz (fun j hj => ?_)
 rw [e] at hj ⊢
 rw [az, h16] at hj
 exact lS h.xG (List.getElem?_eq_getElem hl) j hj
end
end
section
open Go.RowKit
theorem refine_no (op a b c im : Int) (h0 : 0 ≤ op) (r : RG) (hr : R16 r) (tk : Bool) (w : World) (T : gL w) (hno : aU ⟨op, a, b, c, im⟩ = false ∨ (aU ⟨op, a, b, c, im⟩ = true ∧ cj r = false)) :
  Calls Tryz.prog 108 #[.agg #[.int .u8 op, .int .i64 a, .int .i64 b, .int .i64 c, .int .i64 im], .agg (aa r).toArray, .bool tk] w fun e w' => e = .returned (dy none) ∧ Below w.heap.size w w' := by
 obtain ⟨V, hV, k0, k1, k2, bV, sV⟩ := dL w #[.int .u8 op, .int .i64 a, .int .i64 b, .int .i64 c, .int .i64 im] (aa r).toArray ahV.toArray 67 174 174
 obtain ⟨a0, a1, a2, a3, a4, lV⟩ := bL k0
 have K1 := ahM (show aN V (w.heap.size + 1) 174 r from k1)
 have mD := ahM (show (Tryz.prog.info? 174).map (·.size) = some (aa r).length by rw [az, hr.len]; kernel_rfl)
 have K2 := ahM k2
 have BV := ahM bV
 have kE := ahM (Calls.ext (dK ⟨op, a, b, c, im⟩ h0 V (T.below bV)))
 have ow := ahM (fun x : Ext V => Calls.ax (x := x) (eO r hr.len x.w))
 clear k0 k1 k2 bV
 go_enter Tryz.func108, Tryz.ntmps108
 go_upto_region 1 with fail
 clear hV
 rcases hno with hv | ⟨hv, hp⟩
 ·rw [hv] at kE
  go_wp2_with (first | (go_at_call 55; refine kE.out.mono ?_; rintro e w' ⟨rfl, y, rfl⟩) | (refine wpList_store_row rfl 174 (.tmp 6) (.tmp 16) rfl (w.heap.size + 1 + 1) ahV.toArray rfl rfl 174 _ (((Ext.h _).block _ sV).trans K2.out) agP rfl agR ?_))
  refine bodyPost_ret (results_cell_tmp (P := Tryz.prog) Tryz.results108 _ _ (w.heap.size + 1 + 1) ahV _ rfl (aM (setRow_heap _ _ _ _ _ _ ((y.h.block _ sV).trans K2.out))) Tryz.underlying174 rfl agP) rfl ⟨rfl, below_setRow (BV.out.trans (y.h.mono BV.out.size)) agO _⟩
 ·rw [hv] at kE
  rw [hp] at ow
  go_wp2_with (first | (go_at_call 55; refine kE.out.mono ?_; rintro e w' ⟨rfl, y, rfl⟩) | (go_at_call 129; refine (ow.out _).mono ?_; rintro e w' ⟨rfl, z, rfl⟩) | (refine bJ ag1 _ _ rfl _ _ rfl (aa r) _ (K1.out.keep (Ext.h _)).range Tryz.underlying174 rfl mD.out ?_) | (refine wpList_store_row rfl 174 (.tmp 6) (.tmp 16) rfl (w.heap.size + 1 + 1) ahV.toArray rfl rfl 174 _ (((Ext.h _).block _ sV).trans K2.out) agP rfl agR ?_))
  refine bodyPost_ret (results_cell_tmp (P := Tryz.prog) Tryz.results108 _ _ (w.heap.size + 1 + 1) ahV _ rfl (aM (setRow_heap _ _ _ _ _ _ ((z.h.block _ sV).trans K2.out))) Tryz.underlying174 rfl agP) rfl ⟨rfl, below_setRow (BV.out.trans (z.h.mono BV.out.size)) agO _⟩
theorem refine_rest (op : Int) (an bn cn : Nat) (im : Int) (ha : an < 16) (hop : (0 ≤ op ∧ op ≤ 21) ∨ (25 ≤ op ∧ op ≤ 29)) (r : RG) (hr : R16 r) (w : World) (T : gL w) (hv : aU ⟨op, an, bn, cn, im⟩ = true) (hp : cj r = true) :
  Calls Tryz.prog 108 #[.agg #[.int .u8 op, .int .i64 (an : Int), .int .i64 (bn : Int), .int .i64 (cn : Int), .int .i64 im], .agg (aa r).toArray, .bool false] w fun e w' => e = .returned (dy (some r)) ∧ Below w.heap.size w w' := by
 have h0 : 0 ≤ op := by omega
 have ox := ahM hop
 clear hop
 obtain ⟨V, hV, k0, k1, k2, bV, sV⟩ := dL w #[.int .u8 op, .int .i64 (an : Int), .int .i64 (bn : Int), .int .i64 (cn : Int), .int .i64 im] (aa r).toArray ahV.toArray 67 174 174
 obtain ⟨a0, a1, a2, a3, a4, lV⟩ := bL k0
 have K1 := ahM (show aN V (w.heap.size + 1) 174 r from k1)
 have mD := ahM (show (Tryz.prog.info? 174).map (·.size) = some (aa r).length by rw [az, hr.len]; kernel_rfl)
 have K2 := ahM k2
 have BV := ahM bV
 have kE := ahM (Calls.ext (dK ⟨op, an, bn, cn, im⟩ h0 V (T.below bV)))
 have ow := ahM (fun x : Ext V => Calls.ax (x := x) (eO r hr.len x.w))
 clear k0 k1 k2 bV
 go_enter Tryz.func108, Tryz.ntmps108
 go_upto_region 1 with fail
 clear hV
 rw [hv] at kE
 rw [hp] at ow
 have HP := ahM hp
 clear hp hv
 have hop := ox.out
 clear ox
 have e1 : (op == 22) = false := by rw [beq_eq_false_iff_ne]; omega
 have e2 : (op == 23) = false := by rw [beq_eq_false_iff_ne]; omega
 have e3 : (op == 24) = false := by rw [beq_eq_false_iff_ne]; omega
 clear hop
 go_upto_region 16 with (first | (go_at_call 55; refine kE.out.mono ?_; rintro e w' ⟨rfl, y, rfl⟩) | (go_at_call 129; refine (ow.out _).mono ?_; rintro e w' ⟨rfl, z, rfl⟩) | (refine bJ ag1 _ _ rfl _ _ rfl (aa r) _ (K1.out.keep (Ext.h _)).range Tryz.underlying174 rfl mD.out ?_))
 obtain ⟨r3, hr3⟩ : ∃ r3, r = r3 := ⟨_, rfl⟩
 have l3 : r3.length = 16 := by rw [← hr3]; exact hr.len
 have ou := ahM hr3
 obtain ⟨Z, hZ⟩ : ∃ Z, z.w = Z := ⟨_, rfl⟩
 have kZ : aN Z (w.heap.size + 1) 174 r3 := by rw [← hZ]; exact ou.out ▸ K1.out.keep z.h
 have F9 : Z.heap[w.heap.size + 1 + 1]? = some (.cells ahV.toArray 174 (0, 0)) := by rw [← hZ]; exact (z.h.block _ sV).trans K2.out
 have bZ : Below w.heap.size w Z := by rw [← hZ]; exact BV.out.trans (z.h.mono BV.out.size)
 rw [hZ]
 have kH := ahM kZ.range
 have Il := ahM F9
 have BZ := ahM bZ
 have yX := ahM (show (Tryz.prog.info? 174).map (·.size) = some (aa r3).length by rw [az, l3]; kernel_rfl)
 have Lr := ahM (show (Tryz.prog.info? 174).map (·.size) = some (aa r3).toArray.size by rw [List.size_toArray, az, l3]; kernel_rfl)
 have Ln := ahM (show (ahV.toArray : Array Value).size = (aa r3).toArray.size by rw [show (aa r3).toArray.size = 32 by rw [List.size_toArray, az, l3]]; rfl)
 have wA := ahM (ay r3)
 clear hZ kZ F9 bZ l3
 go_wp2_with (first | (refine wpList_load_mid rfl _ _ rfl _ _ rfl (aa r3) _ kH.out Tryz.underlying174 rfl yX.out ?_) | (refine wpList_store_row rfl 174 (.tmp 6) (.tmp 57) rfl (w.heap.size + 1 + 1) (aa r3).toArray rfl rfl 174 _ Il.out Lr.out Ln.out wA.out ?_))
 refine bodyPost_ret (results_cell_tmp (P := Tryz.prog) Tryz.results108 _ _ (w.heap.size + 1 + 1) (aa r3) _ rfl (aM (setRow_heap _ _ _ _ _ _ Il.out)) Tryz.underlying174 rfl yX.out) rfl ⟨?_, below_setRow BZ.out agO _⟩
 rw [ou.out]
 rfl
theorem refine_restT (op : Int) (an bn cn : Nat) (im : Int) (ha : an < 16) (hop : (0 ≤ op ∧ op ≤ 21) ∨ (25 ≤ op ∧ op ≤ 29)) (r : RG) (hr : R16 r) (w : World) (T : gL w) (hv : aU ⟨op, an, bn, cn, im⟩ = true) (hp : cj r = true) :
  Calls Tryz.prog 108 #[.agg #[.int .u8 op, .int .i64 (an : Int), .int .i64 (bn : Int), .int .i64 (cn : Int), .int .i64 im], .agg (aa r).toArray, .bool true] w fun e w' => e = .returned (dy (none)) ∧ Below w.heap.size w w' := by
 have h0 : 0 ≤ op := by omega
 have ox := ahM hop
 clear hop
 obtain ⟨V, hV, k0, k1, k2, bV, sV⟩ := dL w #[.int .u8 op, .int .i64 (an : Int), .int .i64 (bn : Int), .int .i64 (cn : Int), .int .i64 im] (aa r).toArray ahV.toArray 67 174 174
 obtain ⟨a0, a1, a2, a3, a4, lV⟩ := bL k0
 have K1 := ahM (show aN V (w.heap.size + 1) 174 r from k1)
 have mD := ahM (show (Tryz.prog.info? 174).map (·.size) = some (aa r).length by rw [az, hr.len]; kernel_rfl)
 have K2 := ahM k2
 have BV := ahM bV
 have kE := ahM (Calls.ext (dK ⟨op, an, bn, cn, im⟩ h0 V (T.below bV)))
 have ow := ahM (fun x : Ext V => Calls.ax (x := x) (eO r hr.len x.w))
 clear k0 k1 k2 bV
 go_enter Tryz.func108, Tryz.ntmps108
 go_upto_region 1 with fail
 clear hV
 rw [hv] at kE
 rw [hp] at ow
 have HP := ahM hp
 clear hp hv
 have hop := ox.out
 clear ox
 have e1 : (op == 22) = false := by rw [beq_eq_false_iff_ne]; omega
 have e2 : (op == 23) = false := by rw [beq_eq_false_iff_ne]; omega
 have e3 : (op == 24) = false := by rw [beq_eq_false_iff_ne]; omega
 clear hop
 go_wp2_with (first | (go_at_call 55; refine kE.out.mono ?_; rintro e w' ⟨rfl, y, rfl⟩) | (go_at_call 129; refine (ow.out _).mono ?_; rintro e w' ⟨rfl, z, rfl⟩) | (refine bJ ag1 _ _ rfl _ _ rfl (aa r) _ (K1.out.keep (Ext.h _)).range Tryz.underlying174 rfl mD.out ?_) | (refine wpList_store_row rfl 174 (.tmp 6) (.tmp 20) rfl (w.heap.size + 1 + 1) ahV.toArray rfl rfl 174 _ (((Ext.h _).block _ sV).trans K2.out) agP rfl agR ?_))
 refine bodyPost_ret (results_cell_tmp (P := Tryz.prog) Tryz.results108 _ _ (w.heap.size + 1 + 1) ahV _ rfl (aM (setRow_heap _ _ _ _ _ _ ((z.h.block _ sV).trans K2.out))) Tryz.underlying174 rfl agP) rfl ⟨rfl, below_setRow (BV.out.trans (z.h.mono BV.out.size)) agO _⟩
theorem refine_jmp (op : Int) (an bn cn : Nat) (im : Int) (ha : an < 16) (hop : op = 24) (r : RG) (hr : R16 r) (w : World) (T : gL w) (hv : aU ⟨op, an, bn, cn, im⟩ = true) (hp : cj r = true) :
  Calls Tryz.prog 108 #[.agg #[.int .u8 op, .int .i64 (an : Int), .int .i64 (bn : Int), .int .i64 (cn : Int), .int .i64 im], .agg (aa r).toArray, .bool true] w fun e w' => e = .returned (dy (some r)) ∧ Below w.heap.size w w' := by
 have h0 : 0 ≤ op := by omega
 have ox := ahM hop
 clear hop
 obtain ⟨V, hV, k0, k1, k2, bV, sV⟩ := dL w #[.int .u8 op, .int .i64 (an : Int), .int .i64 (bn : Int), .int .i64 (cn : Int), .int .i64 im] (aa r).toArray ahV.toArray 67 174 174
 obtain ⟨a0, a1, a2, a3, a4, lV⟩ := bL k0
 have K1 := ahM (show aN V (w.heap.size + 1) 174 r from k1)
 have mD := ahM (show (Tryz.prog.info? 174).map (·.size) = some (aa r).length by rw [az, hr.len]; kernel_rfl)
 have K2 := ahM k2
 have BV := ahM bV
 have kE := ahM (Calls.ext (dK ⟨op, an, bn, cn, im⟩ h0 V (T.below bV)))
 have ow := ahM (fun x : Ext V => Calls.ax (x := x) (eO r hr.len x.w))
 clear k0 k1 k2 bV
 go_enter Tryz.func108, Tryz.ntmps108
 go_upto_region 1 with fail
 clear hV
 rw [hv] at kE
 rw [hp] at ow
 have HP := ahM hp
 clear hp hv
 have hop := ox.out
 clear ox
 subst hop
 go_upto_region 16 with (first | (go_at_call 55; refine kE.out.mono ?_; rintro e w' ⟨rfl, y, rfl⟩) | (go_at_call 129; refine (ow.out _).mono ?_; rintro e w' ⟨rfl, z, rfl⟩) | (refine bJ ag1 _ _ rfl _ _ rfl (aa r) _ (K1.out.keep (Ext.h _)).range Tryz.underlying174 rfl mD.out ?_))
 obtain ⟨r3, hr3⟩ : ∃ r3, r = r3 := ⟨_, rfl⟩
 have l3 : r3.length = 16 := by rw [← hr3]; exact hr.len
 have ou := ahM hr3
 obtain ⟨Z, hZ⟩ : ∃ Z, z.w = Z := ⟨_, rfl⟩
 have kZ : aN Z (w.heap.size + 1) 174 r3 := by rw [← hZ]; exact ou.out ▸ K1.out.keep z.h
 have F9 : Z.heap[w.heap.size + 1 + 1]? = some (.cells ahV.toArray 174 (0, 0)) := by rw [← hZ]; exact (z.h.block _ sV).trans K2.out
 have bZ : Below w.heap.size w Z := by rw [← hZ]; exact BV.out.trans (z.h.mono BV.out.size)
 rw [hZ]
 have kH := ahM kZ.range
 have Il := ahM F9
 have BZ := ahM bZ
 have yX := ahM (show (Tryz.prog.info? 174).map (·.size) = some (aa r3).length by rw [az, l3]; kernel_rfl)
 have Lr := ahM (show (Tryz.prog.info? 174).map (·.size) = some (aa r3).toArray.size by rw [List.size_toArray, az, l3]; kernel_rfl)
 have Ln := ahM (show (ahV.toArray : Array Value).size = (aa r3).toArray.size by rw [show (aa r3).toArray.size = 32 by rw [List.size_toArray, az, l3]]; rfl)
 have wA := ahM (ay r3)
 clear hZ kZ F9 bZ l3
 go_wp2_with (first | (refine wpList_load_mid rfl _ _ rfl _ _ rfl (aa r3) _ kH.out Tryz.underlying174 rfl yX.out ?_) | (refine wpList_store_row rfl 174 (.tmp 6) (.tmp 57) rfl (w.heap.size + 1 + 1) (aa r3).toArray rfl rfl 174 _ Il.out Lr.out Ln.out wA.out ?_))
 refine bodyPost_ret (results_cell_tmp (P := Tryz.prog) Tryz.results108 _ _ (w.heap.size + 1 + 1) (aa r3) _ rfl (aM (setRow_heap _ _ _ _ _ _ Il.out)) Tryz.underlying174 rfl yX.out) rfl ⟨?_, below_setRow BZ.out agO _⟩
 rw [ou.out]
 rfl
theorem refine_jmpF (op : Int) (an bn cn : Nat) (im : Int) (ha : an < 16) (hop : op = 24) (r : RG) (hr : R16 r) (w : World) (T : gL w) (hv : aU ⟨op, an, bn, cn, im⟩ = true) (hp : cj r = true) :
  Calls Tryz.prog 108 #[.agg #[.int .u8 op, .int .i64 (an : Int), .int .i64 (bn : Int), .int .i64 (cn : Int), .int .i64 im], .agg (aa r).toArray, .bool false] w fun e w' => e = .returned (dy (none)) ∧ Below w.heap.size w w' := by
 have h0 : 0 ≤ op := by omega
 have ox := ahM hop
 clear hop
 obtain ⟨V, hV, k0, k1, k2, bV, sV⟩ := dL w #[.int .u8 op, .int .i64 (an : Int), .int .i64 (bn : Int), .int .i64 (cn : Int), .int .i64 im] (aa r).toArray ahV.toArray 67 174 174
 obtain ⟨a0, a1, a2, a3, a4, lV⟩ := bL k0
 have K1 := ahM (show aN V (w.heap.size + 1) 174 r from k1)
 have mD := ahM (show (Tryz.prog.info? 174).map (·.size) = some (aa r).length by rw [az, hr.len]; kernel_rfl)
 have K2 := ahM k2
 have BV := ahM bV
 have kE := ahM (Calls.ext (dK ⟨op, an, bn, cn, im⟩ h0 V (T.below bV)))
 have ow := ahM (fun x : Ext V => Calls.ax (x := x) (eO r hr.len x.w))
 clear k0 k1 k2 bV
 go_enter Tryz.func108, Tryz.ntmps108
 go_upto_region 1 with fail
 clear hV
 rw [hv] at kE
 rw [hp] at ow
 have HP := ahM hp
 clear hp hv
 have hop := ox.out
 clear ox
 subst hop
 go_wp2_with (first | (go_at_call 55; refine kE.out.mono ?_; rintro e w' ⟨rfl, y, rfl⟩) | (go_at_call 129; refine (ow.out _).mono ?_; rintro e w' ⟨rfl, z, rfl⟩) | (refine bJ ag1 _ _ rfl _ _ rfl (aa r) _ (K1.out.keep (Ext.h _)).range Tryz.underlying174 rfl mD.out ?_) | (refine wpList_store_row rfl 174 (.tmp 6) (.tmp 51) rfl (w.heap.size + 1 + 1) ahV.toArray rfl rfl 174 _ (((Ext.h _).block _ sV).trans K2.out) agP rfl agR ?_) | (refine wpList_store_row rfl 174 (.tmp 6) (.tmp 56) rfl (w.heap.size + 1 + 1) ahV.toArray rfl rfl 174 _ (((Ext.h _).block _ sV).trans K2.out) agP rfl agR ?_))
 refine bodyPost_ret (results_cell_tmp (P := Tryz.prog) Tryz.results108 _ _ (w.heap.size + 1 + 1) ahV _ rfl (aM (setRow_heap _ _ _ _ _ _ ((z.h.block _ sV).trans K2.out))) Tryz.underlying174 rfl agP) rfl ⟨rfl, below_setRow (BV.out.trans (z.h.mono BV.out.size)) agO _⟩
theorem JE : ∀ k, k < 30 → (fh k).Lc ≤ 15 ∧ (fh k).KT ≤ 15 ∧ (fh k).Ku ≤ 15 ∧ -131072 ≤ pP k ∧ pQ k ≤ 131071 := by decide
def UX (op : Int) (tk : Bool) (r : RG) (a : Int) : Option RG := if emp (nB op tk (rg r a)) = true then none else some (cK r a (nB op tk (rg r a)))
theorem Nb {op : Int} {tk : Bool} {r : RG} (hl : r.length = 16) (h0 : rg r 0 = (0, 0)) {an : Nat} {x : Int × Int} (hx : nB op tk (rg r (an : Int)) = x) (he : ¬ emp x = true) : r.set an x = cK r (an : Int) x := by
 unfold cK
 by_cases ha : an = 0
 ·subst ha
  rw [if_pos (show ((0 : Nat) : Int) = 0 from rfl)]
  rw [show ((0 : Nat) : Int) = 0 from rfl, h0] at hx
  have : x = (0, 0) := by
   unfold nB at hx
   split at hx
   ·rw [← hx]; decide
   ·exfalso
    apply he
    rw [← hx]
    decide
  rw [this]
  exact tQ hl h0
 ·rw [if_neg agO]
  simp
theorem Nd {r : RG} {an : Nat} {x : Int × Int} (h : an < r.length) : rg (r.set an x) (an : Int) = x := by
 rw [qX]
 simp [List.getD, h]
theorem refine_br (op : Int) (an bn cn : Nat) (im : Int) (ha : an < 16) (hop : op = 22 ∨ op = 23) (r : RG) (hr : R16 r) (tk : Bool) (w : World) (T : gL w) (hv : aU ⟨op, an, bn, cn, im⟩ = true) (hp : cj r = true) :
  Calls Tryz.prog 108 #[.agg #[.int .u8 op, .int .i64 (an : Int), .int .i64 (bn : Int), .int .i64 (cn : Int), .int .i64 im], .agg (aa r).toArray, .bool tk] w fun e w' => e = .returned (dy (UX op tk r (an : Int))) ∧ Below w.heap.size w w' := by
 have h0 : 0 ≤ op := by omega
 have ox := ahM hop
 clear hop
 obtain ⟨V, hV, k0, k1, k2, bV, sV⟩ := dL w #[.int .u8 op, .int .i64 (an : Int), .int .i64 (bn : Int), .int .i64 (cn : Int), .int .i64 im] (aa r).toArray ahV.toArray 67 174 174
 obtain ⟨a0, a1, a2, a3, a4, lV⟩ := bL k0
 have K1 := ahM (show aN V (w.heap.size + 1) 174 r from k1)
 have mD := ahM (show (Tryz.prog.info? 174).map (·.size) = some (aa r).length by rw [az, hr.len]; kernel_rfl)
 have K2 := ahM k2
 have BV := ahM bV
 have kE := ahM (Calls.ext (dK ⟨op, an, bn, cn, im⟩ h0 V (T.below bV)))
 have ow := ahM (fun x : Ext V => Calls.ax (x := x) (eO r hr.len x.w))
 clear k0 k1 k2 bV
 go_enter Tryz.func108, Tryz.ntmps108
 go_upto_region 1 with fail
 clear hV
 rw [hv] at kE
 rw [hp] at ow
 have HP := ahM hp
 clear hp hv
 have hop := ox.out
 clear ox
 obtain ⟨O, hO⟩ : ∃ O, UX op tk r (an : Int) = O := ⟨_, rfl⟩
 have HO := ahM hO
 have EP := ahM (show ∀ x, nB op tk (rg r (an : Int)) = x → (emp x = true → O = none) ∧ (¬ emp x = true → O = some (r.set an x)) from fun x hx => ⟨fun h => by rw [← hO]; unfold UX; rw [hx, if_pos h], fun h => by rw [← hO]; unfold UX; rw [hx, if_neg h, Nb hr.len (kN HP.out) hx h]⟩)
 clear hO
 obtain ⟨al, hal⟩ : ∃ al, (rg r (an : Int)).1 = al := ⟨_, rfl⟩
 obtain ⟨ah, N5⟩ : ∃ ah, (rg r (an : Int)).2 = ah := ⟨_, rfl⟩
 have r4 : V.cell? ⟨w.heap.size + 1, an * 2, none⟩ = some (.int .i32 al) := by rw [← hal]; exact K1.out.lo ahx
 have r5 : V.cell? ⟨w.heap.size + 1, an * 2 + 1, none⟩ = some (.int .i32 ah) := by rw [← N5]; exact K1.out.hi ahx
 have rf0 : V.frozen? ⟨w.heap.size + 1, an * 2, none⟩ = false := K1.out.fz _
 have rf1 : V.frozen? ⟨w.heap.size + 1, an * 2 + 1, none⟩ = false := K1.out.fz _
 have y8 := ahM (show rg r (an : Int) = (al, ah) from Prod.ext hal N5)
 have ia : (an : Int) < 16 := by omega
 have lR : w.heap.size + 1 < V.heap.size := by omega
 clear hal N5
 have hc : ((op = 22 ∧ tk = true) ∨ (op = 23 ∧ tk = false)) ∨ (op = 22 ∧ tk = false) ∨ (op = 23 ∧ tk = true) := by rcases hop with h | h <;> cases tk <;> simp [h]
 clear hop
 rcases hc with hc | hc
 focus
  obtain ⟨xa, xb, hx⟩ : ∃ xa xb, aJ (al, ah) (0, 0) = (xa, xb) := ⟨_, _, rfl⟩
  have hf := fun w => nG al ah 0 0 w
  rw [hx] at hf
  have HF := ahM hf
  have HX := ahM (show nB op tk (rg r (an : Int)) = (xa, xb) by rw [y8.out]; unfold nB; rw [if_pos (by rcases hc with ⟨rfl, rfl⟩ | ⟨rfl, rfl⟩ <;> decide)]; exact hx)
  clear hf hx
  rcases hc with ⟨rfl, rfl⟩ | ⟨rfl, rfl⟩
  all_goals
   go_upto_region 9 with (first | (go_at_call 55; refine kE.out.mono ?_; rintro e w' ⟨rfl, y, rfl⟩) | (go_at_call 129; refine (ow.out _).mono ?_; rintro e w' ⟨rfl, z, rfl⟩) | (refine bJ ag1 _ _ rfl _ _ rfl (aa r) _ (K1.out.keep (Ext.h _)).range Tryz.underlying174 rfl mD.out ?_))
   refine cQ 9 agP agP ?_
   simp only [ahT, List.take_zero, ahU, List.drop_zero]
   repeat (go_big_quiet_step (first | (go_at_call 130; exact Calls.ax (bS 0 _)) | (go_at_call 134; exact Calls.ax (HF.out _))))
   refine wpQuiet_nil ?_
   rintro _ ⟨x1, rfl⟩
   go_upto_region 11 with fail
 rotate_left 2
 focus
  obtain ⟨xa, xb, hx⟩ : ∃ xa xb, fP (al, ah) = (xa, xb) := ⟨_, _, rfl⟩
  have hf := fun w => wN al ah w
  rw [hx] at hf
  have HF := ahM hf
  have HX := ahM (show nB op tk (rg r (an : Int)) = (xa, xb) by rw [y8.out]; unfold nB; rw [if_neg (by rcases hc with ⟨rfl, rfl⟩ | ⟨rfl, rfl⟩ <;> decide)]; exact hx)
  clear hf hx
  rcases hc with ⟨rfl, rfl⟩ | ⟨rfl, rfl⟩
  all_goals
   go_upto_region 10 with (first | (go_at_call 55; refine kE.out.mono ?_; rintro e w' ⟨rfl, y, rfl⟩) | (go_at_call 129; refine (ow.out _).mono ?_; rintro e w' ⟨rfl, z, rfl⟩) | (refine bJ ag1 _ _ rfl _ _ rfl (aa r) _ (K1.out.keep (Ext.h _)).range Tryz.underlying174 rfl mD.out ?_))
   refine cQ 8 agP agP ?_
   simp only [ahT, List.take_zero, ahU, List.drop_zero]
   repeat (go_big_quiet_step (first | (go_at_call 135; exact Calls.ax (HF.out _))))
   refine wpQuiet_nil ?_
   rintro _ ⟨x1, rfl⟩
   go_upto_region 11 with fail
 all_goals
  obtain ⟨Y, hY⟩ : ∃ Y, (x1.w.setCell ⟨w.heap.size + 1, an * 2, none⟩ (.int .i32 xa)).setCell ⟨w.heap.size + 1, an * 2 + 1, none⟩ (.int .i32 xb) = Y := ⟨_, rfl⟩
  obtain ⟨r3, hr3⟩ : ∃ r3, r.set an (xa, xb) = r3 := ⟨_, rfl⟩
  have l3 : r3.length = 16 := by rw [← hr3, List.length_set]; exact hr.len
  have kY : aN Y (w.heap.size + 1) 174 r3 := by rw [← hY, ← hr3]; exact (K1.out.keep x1.h).set an (xa, xb)
  have kO : Y.heap[w.heap.size + 1 + 1]? = some (.cells ahV.toArray 174 (0, 0)) := by
   rw [← hY, Below.heap_setCell _ _ _ _ ag6, Below.heap_setCell _ _ _ _ ag6]
   exact (x1.h.block _ sV).trans K2.out
  have bY : Below w.heap.size w Y := by rw [← hY]; exact Below.setCell (Below.setCell (BV.out.trans (x1.h.mono BV.out.size)) ag9 _) ag9 _
  have kI : Y.cell? ⟨w.heap.size, 1, none⟩ = some (.int .i64 (an : Int)) := by
   rw [← hY, World.cell?_of_block (Below.heap_setCell _ _ _ _ (by show w.heap.size ≠ w.heap.size + 1; omega)), World.cell?_of_block (Below.heap_setCell _ _ _ _ (by show w.heap.size ≠ w.heap.size + 1; omega)), x1.h.cell (p := ⟨w.heap.size, 1, none⟩) lV]
   exact a1
  rw [hY]
  have lY : w.heap.size + 1 < Y.heap.size := kY.lt
  have lYI : w.heap.size < Y.heap.size := by omega
  have QX : w.heap.size + 1 + 1 < Y.heap.size := (Array.getElem?_eq_some_iff.1 kO).1
  have wF : rg r3 (an : Int) = (xa, xb) := by rw [← hr3]; exact Nd ahx
  have z0 : Y.cell? ⟨w.heap.size + 1, an * 2, none⟩ = some (.int .i32 xa) := by have h := kY.lo (k := an) (by rw [l3]; exact ha); rw [wF] at h; exact h
  have z1 : Y.cell? ⟨w.heap.size + 1, an * 2 + 1, none⟩ = some (.int .i32 xb) := by have h := kY.hi (k := an) (by rw [l3]; exact ha); rw [wF] at h; exact h
  have KY := ahM kY
  have KO := ahM kO
  have BY := ahM bY
  have ou := ahM hr3
  have M0 := ahM (Calls.ext (af xa xb Y))
  clear hY kY kO bY hr3 wF r4 r5 rf0 rf1 a0 a1 a2 a3 a4
  by_cases he : xb < xa
  ·have d := decide_eq_true he
   have A7 := ahM (show emp (xa, xb) = true by unfold emp; simpa using he)
   clear he
   go_wp2_with (first | (go_at_call 127; refine M0.out.mono ?_; rintro e w' ⟨rfl, y5, rfl⟩) | (refine wpList_store_row rfl 174 (.tmp 6) (.tmp 51) rfl (w.heap.size + 1 + 1) ahV.toArray rfl rfl 174 _ (((Ext.h _).block _ QX).trans KO.out) agP rfl agR ?_))
   refine bodyPost_ret (results_cell_tmp (P := Tryz.prog) Tryz.results108 _ _ (w.heap.size + 1 + 1) ahV _ rfl (aM (setRow_heap _ _ _ _ _ _ ((y5.h.block _ QX).trans KO.out))) Tryz.underlying174 rfl agP) rfl ⟨?_, below_setRow (BY.out.trans (y5.h.mono BY.out.size)) agO _⟩
   rw [HO.out, (EP.out _ HX.out).1 A7.out]
   rfl
  ·have d := decide_eq_false he
   have A7 := ahM (show ¬ emp (xa, xb) = true by unfold emp; simpa using he)
   clear he
   go_upto_region 16 with (go_at_call 127; refine M0.out.mono ?_; rintro e w' ⟨rfl, y5, rfl⟩)
   obtain ⟨Z, hZ⟩ : ∃ Z, y5.w = Z := ⟨_, rfl⟩
   have kZ : aN Z (w.heap.size + 1) 174 r3 := by rw [← hZ]; exact KY.out.keep y5.h
   have F9 : Z.heap[w.heap.size + 1 + 1]? = some (.cells ahV.toArray 174 (0, 0)) := by rw [← hZ]; exact (y5.h.block _ QX).trans KO.out
   have bZ : Below w.heap.size w Z := by rw [← hZ]; exact BY.out.trans (y5.h.mono BY.out.size)
   rw [hZ]
   have kH := ahM kZ.range
   have Il := ahM F9
   have BZ := ahM bZ
   have yX := ahM (show (Tryz.prog.info? 174).map (·.size) = some (aa r3).length by rw [az, l3]; kernel_rfl)
   have Lr := ahM (show (Tryz.prog.info? 174).map (·.size) = some (aa r3).toArray.size by rw [List.size_toArray, az, l3]; kernel_rfl)
   have Ln := ahM (show (ahV.toArray : Array Value).size = (aa r3).toArray.size by rw [show (aa r3).toArray.size = 32 by rw [List.size_toArray, az, l3]]; rfl)
   have wA := ahM (ay r3)
   clear hZ kZ F9 bZ l3 z0 z1
   go_wp2_with (first | (refine wpList_load_mid rfl _ _ rfl _ _ rfl (aa r3) _ kH.out Tryz.underlying174 rfl yX.out ?_) | (refine wpList_store_row rfl 174 (.tmp 6) (.tmp 57) rfl (w.heap.size + 1 + 1) (aa r3).toArray rfl rfl 174 _ Il.out Lr.out Ln.out wA.out ?_))
   refine bodyPost_ret (results_cell_tmp (P := Tryz.prog) Tryz.results108 _ _ (w.heap.size + 1 + 1) (aa r3) _ rfl (aM (setRow_heap _ _ _ _ _ _ Il.out)) Tryz.underlying174 rfl yX.out) rfl ⟨?_, below_setRow BZ.out agO _⟩
   rw [HO.out, (EP.out _ HX.out).2 A7.out, ou.out]
   rfl
theorem refine_any (op a b c im : Int) (h0 : 0 ≤ op) (r : RG) (hr : R16 r) (tk : Bool) (w : World) (T : gL w) :
  Calls Tryz.prog 108 #[.agg #[.int .u8 op, .int .i64 a, .int .i64 b, .int .i64 c, .int .i64 im], .agg (aa r).toArray, .bool tk] w fun e w' => e = .returned (dy (eZ ⟨op, a, b, c, im⟩ r tk)) ∧ Below w.heap.size w w' := by
 by_cases hvp : aU ⟨op, a, b, c, im⟩ = true ∧ cj r = true
 case neg =>
  refine (refine_no op a b c im h0 r hr tk w T (by
   cases h1 : aU ⟨op, a, b, c, im⟩ <;> cases h2 : cj r <;> simp_all)).mono fun e w' ⟨q, hb⟩ => ⟨q.trans ?_, hb⟩
  unfold eZ
  rw [if_neg hvp]
 obtain ⟨hv, hp⟩ := hvp
 obtain ⟨k, g1, g2, ⟨a1, a2⟩, ⟨b1, b2⟩, ⟨c1, c2⟩, i1, i2⟩ := (gh (i := ⟨op, a, b, c, im⟩) h0).1 hv
 obtain ⟨s1, s2, s3, s4, s5⟩ := JE k g2
 simp only at g1 a1 a2 b1 b2 c1 c2 i1 i2
 obtain ⟨an, rfl⟩ : ∃ n : Nat, a = (n : Int) := ⟨a.toNat, by omega⟩
 obtain ⟨bn, rfl⟩ : ∃ n : Nat, b = (n : Int) := ⟨b.toNat, by omega⟩
 obtain ⟨cn, rfl⟩ : ∃ n : Nat, c = (n : Int) := ⟨c.toNat, by omega⟩
 have ha : an < 16 := by omega
 have hT : ∀ o : Option RG, eZ ⟨op, an, bn, cn, im⟩ r tk = o → (∀ e w', (e = Ending.returned (dy o) ∧ Below w.heap.size w w') → (e = .returned (dy (eZ ⟨op, an, bn, cn, im⟩ r tk)) ∧ Below w.heap.size w w')) := fun o h e w' ⟨q, hb⟩ => ⟨by rw [h]; exact q, hb⟩
 have hO : op = 22 ∨ op = 23 ∨ op = 24 ∨ ((0 ≤ op ∧ op ≤ 21) ∨ (25 ≤ op ∧ op ≤ 29)) := by omega
 rcases hO with rfl | rfl | rfl | h
 ·cases tk
  ·exact (refine_br 22 an bn cn im ha (.inl rfl) r hr false w T hv hp).mono (hT _ (by unfold eZ; rw [if_pos ⟨hv, hp⟩, if_pos (.inl rfl)]; rfl))
  ·exact (refine_br 22 an bn cn im ha (.inl rfl) r hr true w T hv hp).mono (hT _ (by unfold eZ; rw [if_pos ⟨hv, hp⟩, if_pos (.inl rfl)]; rfl))
 ·cases tk
  ·exact (refine_br 23 an bn cn im ha (.inr rfl) r hr false w T hv hp).mono (hT _ (by unfold eZ; rw [if_pos ⟨hv, hp⟩, if_pos (.inr rfl)]; rfl))
  ·exact (refine_br 23 an bn cn im ha (.inr rfl) r hr true w T hv hp).mono (hT _ (by unfold eZ; rw [if_pos ⟨hv, hp⟩, if_pos (.inr rfl)]; rfl))
 ·cases tk
  ·exact (refine_jmpF 24 an bn cn im ha rfl r hr w T hv hp).mono (hT _ (by unfold eZ; rw [if_pos ⟨hv, hp⟩, if_neg agT, if_pos rfl, if_neg agQ]))
  ·exact (refine_jmp 24 an bn cn im ha rfl r hr w T hv hp).mono (hT _ (by unfold eZ; rw [if_pos ⟨hv, hp⟩, if_neg agT, if_pos rfl, if_pos rfl]))
 ·cases tk
  ·exact (refine_rest op an bn cn im ha h r hr w T hv hp).mono (hT _ (by unfold eZ; rw [if_pos ⟨hv, hp⟩, if_neg ahs, if_neg ahs, if_neg agQ]))
  ·exact (refine_restT op an bn cn im ha h r hr w T hv hp).mono (hT _ (by unfold eZ; rw [if_pos ⟨hv, hp⟩, if_neg ahs, if_neg ahs, if_pos rfl]))
end
end Go.Proofs.YtlmgkipmfgijiaaGreatDoor
