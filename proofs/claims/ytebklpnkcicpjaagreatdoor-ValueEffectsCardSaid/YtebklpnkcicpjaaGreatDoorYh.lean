/-
  What is proved here: parts aDef, aPot, aMem, aFn1, aTr, aCb, aPot2, aAn, aRf, aTr2.
-/
import Derived.Test.YtebklpnkcicpjaaGreatDoorYa
import Derived.Test.YtebklpnkcicpjaaGreatDoorYg
import Derived.Test.YtebklpnkcicpjaaGreatDoorYd
import Derived.Deep.MidRow
import Derived.Deep.WholeRow
import Derived.Test.YtebklpnkcicpjaaGreatDoorYf
import Derived.Test.YtebklpnkcicpjaaGreatDoorYc
import Derived.Test.YtebklpnkcicpjaaGreatDoorYb
import Derived.Deep.QuietTactic
import Derived.BigQuiet
import Derived.Laws.CopyOwn
import Derived.Test.YtebklpnkcicpjaaGreatDoorYe
namespace Go.Proofs.YtebklpnkcicpjaaGreatDoor
set_option linter.unusedVariables false
set_option linter.unusedSimpArgs false
set_option maxRecDepth 100000
set_option maxHeartbeats 8000000
section
open Go.RowKit
abbrev RG := List (Int × Int)
def aa (r : RG) : List Value := r.flatMap fun x => [.int .i32 x.1, .int .i32 x.2]
def ak : RG := List.replicate 16 (0, 0)
def rg (r : RG) (k : Int) : Int × Int := r.getD k.toNat (0, 0)
def aO (r : RG) (k : Int) (x : Int × Int) : RG := if k = 0 then r else r.set k.toNat x
structure R16 (r : RG) : Prop where
 len : r.length = 16
 wi : ∀ x ∈ r, aK x.1 ∧ aK x.2
def bk (r : RG) : Bool := r.all (fun x => decide (x.1 ≤ x.2)) && decide (rg r 0 = (0, 0))
def nM (op : Int) : Int := if op = 13 then 18 else op + 4
def uN : Int × Int := (-2147483648, 2147483647)
def bQ (i : bB) (r : RG) : Option RG :=
 if aL i = true ∧ bk r = true then
  if 2 ≤ i.op ∧ i.op ≤ 13 then
   if (i.op = 5 ∨ i.op = 6) ∧ rg r i.c = (0, 0) then none else some (aO r i.a (aM (nM i.op) (rg r i.b) (rg r i.c)))
  else if i.op = 14 then some (aO r i.a (i.aR, i.aR))
  else if i.op = 15 then some (aO r i.a (aM 6 (rg r i.b) (i.aR, i.aR)))
  else if i.op = 16 then some (aO r i.a (aM 14 (rg r i.b) (i.aR, i.aR)))
  else if i.op = 17 then some (aO r i.a (aM 12 (rg r i.b) (i.aR, i.aR)))
  else if i.op = 18 ∨ i.op = 20 ∨ i.op = 26 then some (aO r i.a uN)
  else if i.op = 25 then (if emp (aH (rg r i.a) (0, i.aR - 1)) = true then none else some (aO r i.a (aH (rg r i.a) (0, i.aR - 1))))
  else some r
 else none
def dW (x : Int × Int) : Int × Int := if x = (0, 0) then (1, 0) else if x.1 = 0 then (1, x.2) else if x.2 = 0 then (x.1, -1) else x
def iR (op : Int) (taken : Bool) (x : Int × Int) : Int × Int := if (taken == decide (op = 22)) = true then aH x (0, 0) else dW x
def cU (i : bB) (r : RG) (taken : Bool) : Option RG :=
 if aL i = true ∧ bk r = true then
  if i.op = 22 ∨ i.op = 23 then (if emp (iR i.op taken (rg r i.a)) = true then none else some (aO r i.a (iR i.op taken (rg r i.a))))
  else if i.op = 24 then (if taken = true then some r else none)
  else if taken = true then none else some r
 else none
def cj (n : Int) : Int := if n < -2147483648 then -2147483648 else if 2147483647 < n then 2147483647 else n
def b8 (i : bB) (r : RG) : Int × Int :=
 if (i.op = 18 ∨ i.op = 19 ∨ i.op = 20 ∨ i.op = 21) ∧ aL i = true ∧ emp (rg r i.b) = false then (cj ((rg r i.b).1 + i.aR), cj ((rg r i.b).2 + i.aR)) else (1, 0)
def b7 (x y : RG) : RG := List.zipWith bR x y
def dM (x y : RG) : RG := List.zipWith aJ x y
def dJ : List bB → RG → Option RG
 | [], r => some r
 | i :: l, r => match bQ i r with
  | none => none
  | some r' => dJ l r'
def dL (last : bB) (m k : Nat) (r : RG) : Option RG :=
 if ¬ (last.op = 22 ∨ last.op = 23) then some r
 else if m = 2 then cU last r (decide (k = 1))
 else match cU last r false, cU last r true with
  | none, y => y
  | some x, none => some x
  | some x, some y => some (b7 x y)
structure AS where
 reach : List Bool
 cJ : List RG
 rep : List Int
def dO (s : AS) (t : Nat) : Option RG → AS × Bool
 | none => (s, false)
 | some r =>
  if s.reach.getD t false = false then (⟨s.reach.set t true, s.cJ.set t r, s.rep⟩, true)
  else if b7 (s.cJ.getD t []) r = s.cJ.getD t [] then (s, false)
  else (⟨s.reach, s.cJ.set t (if 2 ≤ s.rep.getD t 0 then dM (s.cJ.getD t []) (b7 (s.cJ.getD t []) r) else b7 (s.cJ.getD t []) r), s.rep.set t (s.rep.getD t 0 + 1)⟩, true)
def fV (last : bB) (nx : List Int) (bM : RG) (s : AS) : Nat → AS × Bool
 | 0 => (s, false)
 | k + 1 => let p := fV last nx bM s k; let q := dO p.1 (nx.getD k 0).toNat (dL last nx.length k bM); (q.1, p.2 || q.2)
structure AB where
 code : List bB
 nx : List Int
def AB.last (b : AB) : bB := b.code.getD (b.code.length - 1) ⟨0, 0, 0, 0, 0⟩
def gJ (b : AB) (n : Nat) (s : AS) : AS × Bool := match dJ b.code (s.cJ.getD n []) with
 | none => (s, false)
 | some bM => fV b.last b.nx bM s b.nx.length
def cK (B : List AB) (s : AS) : Nat → AS × Bool
 | 0 => (s, false)
 | n + 1 => let p := cK B s n; if p.1.reach.getD n false = true then (let q := gJ (B.getD n ⟨[], []⟩) n p.1; (q.1, p.2 || q.2)) else p
inductive Ends (B : List AB) : AS → AS → Prop
 | done {s : AS} (h : (cK B s B.length).2 = false) : Ends B s (cK B s B.length).1
 | more {s s' : AS} (h : (cK B s B.length).2 = true) (k : Ends B (cK B s B.length).1 s') : Ends B s s'
theorem Ends.Gu {B : List AB} {s a b : AS} (h : Ends B s a) (k : Ends B s b) : a = b := by
 induction h with
 | done h => cases k with
  | done _ => rfl
  | more h' _ => rw [h] at h'; cases h'
 | more h _ ih => cases k with
  | done h' => rw [h] at h'; cases h'
  | more _ k' => exact ih k'
def cX (n : Nat) : AS := ⟨(List.replicate n false).set 0 true, List.replicate n ak, List.replicate n 0⟩
def eG (b : AB) (n k : Nat) (r : RG) : List (Int × Int) := match dJ b.code r with
 | none => ((b.nx.take k).map fun t => ((n : Int), t))
 | some bM => ((List.range k).filter fun j => (dL b.last b.nx.length j bM).isNone).map fun j => ((n : Int), b.nx.getD j 0)
def eE (B : List AB) (s : AS) (n : Nat) : List (Int × Int) := (List.range n).flatMap fun j => if s.reach.getD j false = true then eG (B.getD j ⟨[], []⟩) j (B.getD j ⟨[], []⟩).nx.length (s.cJ.getD j []) else []
theorem R16.at_ {r : RG} (h : R16 r) (k : Int) : aK (rg r k).1 ∧ aK (rg r k).2 := by
 unfold rg
 by_cases hk : k.toNat < r.length
 ·have e : r.getD k.toNat (0, 0) = r[k.toNat] := by simp [List.getD, List.getElem?_eq_getElem hk]
  rw [e]
  exact h.wi _ (List.getElem_mem hk)
 ·have e : r.getD k.toNat (0, 0) = (0, 0) := by simp [List.getD, List.getElem?_eq_none (Nat.le_of_not_lt hk)]
  rw [e]
  unfold aK
  simp only
  omega
theorem R16.set {r : RG} (h : R16 r) (k : Nat) {x : Int × Int} (hx : aK x.1 ∧ aK x.2) : R16 (r.set k x) :=
 ⟨by rw [List.length_set]; exact h.len, fun y hy => by rcases List.mem_or_eq_of_mem_set hy with h1 | rfl; exact h.wi _ h1; exact hx⟩
theorem R16.aO {r : RG} (h : R16 r) (k : Int) {x : Int × Int} (hx : aK x.1 ∧ aK x.2) : R16 (aO r k x) := by
 unfold Go.Proofs.YtebklpnkcicpjaaGreatDoor.aO
 split
 ·exact h
 ·exact h.set _ hx
theorem R16.zero : R16 ak := ⟨by simp [ak], fun x hx => by rw [(List.mem_replicate.1 hx).2]; unfold aK; simp only; omega⟩
end
section
open Go.RowKit
def kK (x : Int × Int) : Nat := if x.2 < x.1 then (if x = (1, 0) then 3 else 4) else (if -2147483648 < x.1 then 1 else 0) + (if x.2 < 2147483647 then 1 else 0)
def jZ (r : RG) : Nat := (r.map kK).sum
def jm (s : AS) (k : Nat) : Nat := if s.reach.getD k false = false then 70 else (2 - (s.rep.getD k 0).toNat) + jZ (s.cJ.getD k [])
def gL (s : AS) (n : Nat) : Nat := ((List.range n).map (jm s)).sum
theorem EJ (x : Int × Int) : kK x ≤ 4 := by unfold kK; split <;> split <;> (try split) <;> omega
theorem Hh {x y : Int × Int} (hx : aK x.1 ∧ aK x.2) (hy : aK y.1 ∧ aK y.2) : aK (bR x y).1 ∧ aK (bR x y).2 := by
 unfold bR aK at *
 split <;> split <;> first | omega | (simp only; omega)
theorem El {x y : Int × Int} (hx : aK x.1 ∧ aK x.2) (hy : aK y.1 ∧ aK y.2) : aK (aJ x y).1 ∧ aK (aJ x y).2 := by
 unfold aJ aK at *
 split
 ·split <;> first | omega | (simp only; omega)
 ·split
  ·exact hx
  ·simp only
   constructor <;> split <;> omega
theorem Cp {x y : Int × Int} (hx : aK x.1 ∧ aK x.2) (hy : aK y.1 ∧ aK y.2) : kK (bR x y) ≤ kK x := by
 obtain ⟨a, b⟩ := x
 obtain ⟨c, d⟩ := y
 unfold aK at hx hy
 simp only at hx hy
 unfold bR emp kK
 by_cases h1 : b < a <;> by_cases h2 : d < c <;> simp only [h1, h2, decide_true, decide_false, if_true, if_false, Bool.false_eq_true, Prod.mk.injEq]
 ·simp; split <;> omega
 ·split <;> split <;> split <;> omega
 ·exact Nat.le_refl _
 ·rw [if_neg TX]
  split <;> split <;> split <;> split <;> omega
theorem zI {x y : Int × Int} (hx : aK x.1 ∧ aK x.2) (hy : aK y.1 ∧ aK y.2) : kK (aJ x (bR x y)) ≤ kK x ∧ (bR x y ≠ x → kK (aJ x (bR x y)) < kK x) := by
 obtain ⟨a, b⟩ := x
 obtain ⟨c, d⟩ := y
 unfold aK at hx hy
 simp only at hx hy
 by_cases h1 : b < a
 ·by_cases h2 : d < c
  ·have e : bR (a, b) (c, d) = (1, 0) := by unfold bR emp; simp [h1, h2]
   have e2 : aJ (a, b) (1, 0) = (1, 0) := by unfold aJ emp; simp [h1]
   rw [e, e2]
   have e3 : kK (1, 0) = 3 := by unfold kK; simp
   rw [e3]
   unfold kK
   simp only [h1, if_true]
   refine ⟨by split <;> omega, fun hn => ?_⟩
   rw [if_neg (fun h => hn h.symm)]
   omega
  ·have e : bR (a, b) (c, d) = (c, d) := by unfold bR emp; simp [h1, h2]
   have e2 : aJ (a, b) (c, d) = (c, d) := by unfold aJ emp; simp [h1, h2]
   rw [e, e2]
   unfold kK
   simp only [h1, h2, if_true, if_false]
   constructor
   ·split <;> split <;> split <;> omega
   ·intro _; split <;> split <;> split <;> omega
 ·by_cases h2 : d < c
  ·have e : bR (a, b) (c, d) = (a, b) := by unfold bR emp; simp [h1, h2]
   have e2 : aJ (a, b) (a, b) = (a, b) := by unfold aJ emp; simp [h1]
   rw [e, e2]
   exact ⟨Nat.le_refl _, fun h => absurd rfl h⟩
  ·have e : bR (a, b) (c, d) = (min a c, max b d) := by unfold bR emp; simp [h1, h2]
   have h3 : ¬ max b d < min a c := by omega
   have e2 : aJ (a, b) (min a c, max b d) = (if min a c < a then -2147483648 else a, if b < max b d then 2147483647 else b) := by unfold aJ emp; simp [h1, h3]
   rw [e, e2]
   unfold kK
   simp only [h1, if_false]
   have h4 : ¬ (if b < max b d then (2147483647 : Int) else b) < (if min a c < a then -2147483648 else a) := by (repeat' split) <;> omega
   have z1 : ¬ ((-2147483648 : Int) < -2147483648) := by decide
   have z2 : ¬ ((2147483647 : Int) < 2147483647) := by decide
   rw [if_neg h4]
   simp only [ne_eq, Prod.mk.injEq, not_and]
   by_cases q1 : min a c < a <;> by_cases q2 : b < max b d <;> simp only [q1, q2, if_true, if_false, z1, z2]
   ·refine ⟨by (repeat' split) <;> omega, fun _ => ?_⟩
    rw [if_pos (show -2147483648 < a by omega), if_pos (show b < 2147483647 by omega)]
    decide
   ·refine ⟨by (repeat' split) <;> omega, fun _ => ?_⟩
    rw [if_pos (show -2147483648 < a by omega)]
    split <;> omega
   ·refine ⟨by (repeat' split) <;> omega, fun _ => ?_⟩
    rw [if_pos (show b < 2147483647 by omega)]
    split <;> omega
   ·exact ⟨Nat.le_refl _, fun h => absurd (show max b d = b by omega) (h TX)⟩
theorem R16.join {x y : RG} (hx : R16 x) (hy : R16 y) : R16 (b7 x y) :=
 ⟨by simp [b7, hx.len, hy.len], fun z hz => by
  obtain ⟨i, hi, e⟩ := List.getElem_of_mem hz
  simp only [b7, List.length_zipWith] at hi
  simp only [b7, List.getElem_zipWith] at e
  rw [← e]
  exact Hh (hx.wi _ (List.getElem_mem _)) (hy.wi _ (List.getElem_mem _))⟩
theorem R16.tI {x y : RG} (hx : R16 x) (hy : R16 y) : R16 (dM x y) :=
 ⟨by simp [dM, hx.len, hy.len], fun z hz => by
  obtain ⟨i, hi, e⟩ := List.getElem_of_mem hz
  simp only [dM, List.length_zipWith] at hi
  simp only [dM, List.getElem_zipWith] at e
  rw [← e]
  exact El (hx.wi _ (List.getElem_mem _)) (hy.wi _ (List.getElem_mem _))⟩
theorem qW : ∀ {x y : RG}, x.length = y.length → (∀ z ∈ x, aK z.1 ∧ aK z.2) → (∀ z ∈ y, aK z.1 ∧ aK z.2) → jZ (b7 x y) ≤ jZ x
 | [], [], _, _, _ => Nat.le_refl _
 | a :: x, b :: y, hl, hx, hy => by
  have ih := qW (x := x) (y := y) (by simpa using hl) (fun z hz => hx z (List.mem_cons_of_mem _ hz)) (fun z hz => hy z (List.mem_cons_of_mem _ hz))
  have h := Cp (hx a (List.mem_cons_self ..)) (hy b (List.mem_cons_self ..))
  simp only [b7, jZ, List.zipWith_cons_cons, List.map_cons, List.sum_cons] at *
  omega
theorem oX : ∀ {x y : RG}, x.length = y.length → (∀ z ∈ x, aK z.1 ∧ aK z.2) → (∀ z ∈ y, aK z.1 ∧ aK z.2) → jZ (dM x (b7 x y)) ≤ jZ x ∧ (b7 x y ≠ x → jZ (dM x (b7 x y)) < jZ x)
 | [], [], _, _, _ => ⟨Nat.le_refl _, fun h => absurd rfl h⟩
 | a :: x, b :: y, hl, hx, hy => by
  obtain ⟨i1, i2⟩ := oX (x := x) (y := y) (by simpa using hl) (fun z hz => hx z (List.mem_cons_of_mem _ hz)) (fun z hz => hy z (List.mem_cons_of_mem _ hz))
  obtain ⟨h1, h2⟩ := zI (hx a (List.mem_cons_self ..)) (hy b (List.mem_cons_self ..))
  simp only [b7, dM, jZ, List.zipWith_cons_cons, List.map_cons, List.sum_cons, ne_eq, List.cons.injEq, not_and] at *
  refine ⟨by omega, fun hn => ?_⟩
  by_cases q : bR a b = a
  ·have := i2 (hn q); omega
  ·have := h2 q; omega
theorem sw : ∀ {r : RG}, jZ r ≤ 4 * r.length
 | [] => Nat.le_refl _
 | a :: r => by
  have ih := sw (r := r)
  have h := EJ a
  simp only [jZ, List.map_cons, List.sum_cons, List.length_cons] at *
  omega
structure vt (n : Nat) (s : AS) : Prop where
 l1 : s.reach.length = n
 l2 : s.cJ.length = n
 l3 : s.rep.length = n
 r16 : ∀ r ∈ s.cJ, R16 r
 rep : ∀ x ∈ s.rep, 0 ≤ x ∧ x + (gL s n : Int) ≤ 70 * (n : Int)
theorem oG {f g : Nat → Nat} {n t : Nat} (ht : t < n) (h : ∀ k, k ≠ t → g k = f k) : ((List.range n).map g).sum + f t = ((List.range n).map f).sum + g t := by
 induction n with
 | zero => omega
 | succ n ih =>
  simp only [List.range_succ, List.map_append, List.map_cons, List.map_nil, List.sum_append, List.sum_cons, List.sum_nil]
  by_cases e : t = n
  ·subst e
   have : (List.range t).map g = (List.range t).map f := List.map_congr_left fun k hk => h k (by have := List.mem_range.1 hk; omega)
   rw [this]; omega
  ·have := ih TX
   rw [h n (fun e2 => e e2.symm)]; omega
theorem vt.get {n : Nat} {s : AS} (h : vt n s) {t : Nat} (ht : t < n) : R16 (s.cJ.getD t []) := by
 have hl : t < s.cJ.length := by rw [h.l2]; exact ht
 have e : s.cJ.getD t [] = s.cJ[t] := by simp [List.getD, List.getElem?_eq_getElem hl]
 rw [e]
 exact h.r16 _ (List.getElem_mem hl)
theorem vt.qQ {n : Nat} {s : AS} (h : vt n s) {t : Nat} (ht : t < n) : 0 ≤ s.rep.getD t 0 ∧ s.rep.getD t 0 + (gL s n : Int) ≤ 70 * (n : Int) := by
 have hl : t < s.rep.length := by rw [h.l3]; exact ht
 have e : s.rep.getD t 0 = s.rep[t] := by simp [List.getD, List.getElem?_eq_getElem hl]
 rw [e]
 exact h.rep _ (List.getElem_mem hl)
theorem cT {α : Type} {l : List α} {t : Nat} {x d : α} (ht : t < l.length) : (l.set t x).getD t d = x := by simp [List.getD, ht]
theorem bT {α : Type} {l : List α} {t k : Nat} {x d : α} (hk : k ≠ t) : (l.set t x).getD k d = l.getD k d := by simp [List.getD, List.getElem?_set, Ne.symm hk]
theorem jK {n : Nat} {s : AS} (h : vt n s) {t : Nat} (ht : t < n) (o : Option RG) (ho : ∀ r, o = some r → R16 r) : vt n (dO s t o).1 ∧ ((dO s t o).2 = true → gL (dO s t o).1 n < gL s n) ∧ ((dO s t o).2 = false → (dO s t o).1 = s) := by
 cases o with
 | none => exact ⟨h, (fun e => by cases e), fun _ => rfl⟩
 | some r =>
  have hr := ho r rfl
  have hg := h.get ht
  have CV := h.qQ ht
  unfold dO
  simp only
  by_cases h1 : s.reach.getD t false = false
  ·rw [if_pos h1]
   have hp : gL ⟨s.reach.set t true, s.cJ.set t r, s.rep⟩ n < gL s n := by
    have hu := oG (f := jm s) (g := jm ⟨s.reach.set t true, s.cJ.set t r, s.rep⟩) ht (fun k hk => by unfold jm; simp only; rw [bT hk, bT hk])
    have e1 : jm s t = 70 := by unfold jm; rw [if_pos h1]
    have e2 : jm ⟨s.reach.set t true, s.cJ.set t r, s.rep⟩ t ≤ 66 := by
     unfold jm
     simp only
     rw [cT (by rw [h.l1]; exact ht), cT (by rw [h.l2]; exact ht)]
     have := sw (r := r)
     rw [hr.len] at this
     simp
     omega
    unfold gL
    omega
   refine ⟨⟨by simp [h.l1], by simp [h.l2], h.l3, fun x hx => ?_, fun x hx => ?_⟩, fun _ => hp, (fun e => by cases e)⟩
   ·rcases List.mem_or_eq_of_mem_set hx with h2 | rfl
    ·exact h.r16 _ h2
    ·exact hr
   ·have := h.rep x hx
    dsimp only
    omega
  ·rw [if_neg h1]
   have hreach : s.reach.getD t false = true := by simpa using h1
   by_cases h2 : b7 (s.cJ.getD t []) r = s.cJ.getD t []
   ·rw [if_pos h2]
    exact ⟨h, (fun e => by cases e), fun _ => rfl⟩
   ·rw [if_neg h2]
    simp only
    obtain ⟨j, hj⟩ : ∃ j, (if 2 ≤ s.rep.getD t 0 then dM (s.cJ.getD t []) (b7 (s.cJ.getD t []) r) else b7 (s.cJ.getD t []) r) = j := ⟨_, rfl⟩
    have Gm := hg.join hr
    have Np : R16 j := by rw [← hj]; split; exact hg.tI Gm; exact Gm
    have TI : (2 - (s.rep.getD t 0 + 1).toNat) + jZ j < (2 - (s.rep.getD t 0).toNat) + jZ (s.cJ.getD t []) := by
     have hlen : (s.cJ.getD t []).length = r.length := by rw [hg.len, hr.len]
     rw [← hj]
     split
     ·rename_i h3
      have := (oX hlen hg.wi hr.wi).2 h2
      omega
     ·have := qW hlen hg.wi hr.wi
      omega
    rw [hj]
    have hp : gL ⟨s.reach, s.cJ.set t j, s.rep.set t (s.rep.getD t 0 + 1)⟩ n < gL s n := by
     have hu := oG (f := jm s) (g := jm ⟨s.reach, s.cJ.set t j, s.rep.set t (s.rep.getD t 0 + 1)⟩) ht (fun k hk => by unfold jm; simp only; rw [bT hk, bT hk])
     have e1 : jm s t = (2 - (s.rep.getD t 0).toNat) + jZ (s.cJ.getD t []) := by unfold jm; rw [if_neg h1]
     have e2 : jm ⟨s.reach, s.cJ.set t j, s.rep.set t (s.rep.getD t 0 + 1)⟩ t = (2 - (s.rep.getD t 0 + 1).toNat) + jZ j := by
      unfold jm
      simp only
      rw [cT (by rw [h.l3]; exact ht), cT (by rw [h.l2]; exact ht), if_neg h1]
     unfold gL
     omega
    refine ⟨⟨h.l1, by simp [h.l2], by simp [h.l3], fun x hx => ?_, fun x hx => ?_⟩, fun _ => hp, (fun e => by cases e)⟩
    ·rcases List.mem_or_eq_of_mem_set hx with h3 | rfl
     ·exact h.r16 _ h3
     ·exact Np
    ·rcases List.mem_or_eq_of_mem_set hx with h3 | rfl
     ·have := h.rep x h3
      omega
     ·omega
end
section
open Go.RowKit
theorem aQ {P : Program} {ops : Array Oper} {rest : List Oper} {op : Oper} {a : Act} {w : World} {Q : Exit → Act → World → Prop} (hw : Region.wanted op (yielded ops a.tmps) = true) (ty : TypeId) (x : Operand) (ho : op.op = .load ty x)
  (b o : Nat) (hx : a.eval x = .pointer (some ⟨b, o, none⟩)) (cs : List Value) (d : TypeDesc) (hc : w.rangeAt b o cs)
  (hu : P.underlying ty = some d) (hd : d.isRow = true) (hi : (P.info? ty).map (·.size) = some cs.length)
  (h : wpList P ops Q rest (a.put op.dst (.agg cs.toArray)) w) : wpList P ops Q (op :: rest) a w :=
 wpList_step fun K hK => by simp only [hw, if_true]; exact wp_load_mid ty x ho b o hx cs d hc hu hd hi (hK _ _ h)
theorem az (r : RG) : (aa r).length = r.length * 2 := by
 induction r with
 | nil => rfl
 | cons a l ih => simp only [aa, List.flatMap_cons, List.length_append, List.length_cons] at *; rw [ih]; simp; omega
theorem iG : ∀ (r : RG) (k j : Nat) (x : Int × Int), r[k]? = some x → j < 2 → (aa r)[k * 2 + j]? = [Value.int .i32 x.1, .int .i32 x.2][j]?
 | y :: L, 0, j, x, h, hj => by
  simp at h; subst h
  unfold aa
  rw [List.flatMap_cons, Nat.zero_mul, Nat.zero_add, List.getElem?_append_left (by simpa using hj)]
 | y :: L, k + 1, j, x, h, hj => by
  have h' : L[k]? = some x := by simpa using h
  have ih := iG L k j x h' hj
  unfold aa at ih ⊢
  rw [List.flatMap_cons, List.getElem?_append_right T9, ← ih]
  simp only [List.length_cons, List.length_nil]
  congr 1
  omega
theorem pS : ∀ (r : RG) (k : Nat) (x : Int × Int), ((aa r).set (k * 2) (.int .i32 x.1)).set (k * 2 + 1) (.int .i32 x.2) = aa (r.set k x)
 | [], k, x => by simp [aa]
 | y :: L, 0, x => by simp [aa]
 | y :: L, k + 1, x => by
  have ih := pS L k x
  simp only [aa, List.flatMap_cons, U7] at ih ⊢
  rw [← ih, show (k + 1) * 2 = k * 2 + 2 by omega]
  simp
theorem fZ (r : RG) (k : Nat) : rg r (k : Int) = r.getD k (0, 0) := by simp [rg]
theorem fe {r : RG} {k : Nat} (hk : k < r.length) : r[k]? = some (rg r (k : Int)) := by
 rw [fZ]
 simp [List.getD, List.getElem?_eq_getElem hk]
theorem pT {r : RG} {k : Nat} (hk : k < r.length) : (aa r).toArray.extract (k * 2) (k * 2 + 2) = #[.int .i32 (rg r (k : Int)).1, .int .i32 (rg r (k : Int)).2] := by
 have hl := az r
 apply Array.ext
 ·simp; omega
 ·intro i h1 h2
  have h3 : i < 2 := by simpa using h2
  have := iG r k i _ (fe hk) h3
  rw [List.getElem?_eq_getElem TX] at this
  simp only [Array.getElem_extract, U0]
  rw [List.getElem?_eq_getElem (by simpa using h3)] at this
  simpa using this
theorem mO {r : RG} {k : Nat} (hk : k < r.length) (w : World) : (part 54 (aa r).toArray (k * 2)).run Tryz.prog w = .ok (.agg #[.int .i32 (rg r (k : Int)).1, .int .i32 (rg r (k : Int)).2]) w := by
 have h1 : (isAgg 54).run Tryz.prog w = .ok true w := by kernel_rfl
 have h2 : (sizeOf 54).run Tryz.prog w = .ok 2 w := by kernel_rfl
 unfold part
 simp only [Sem.run_bind, h1, h2, Result.andThen_ok, if_true, Sem.run_pure]
 rw [pT hk]
theorem pF {r : RG} (hr : r.length = 16) {k : Nat} (hk : k < 16) (w : World) : (Instr.index 56 (.agg (aa r).toArray) (.int .i64 (k : Int))).run Tryz.prog w = .ok (.agg #[.int .i32 (rg r (k : Int)).1, .int .i32 (rg r (k : Int)).2]) w := by
 have h2 : (sizeOf 54).run Tryz.prog w = .ok 2 w := by kernel_rfl
 have h3 : (0 : Int) ≤ k ∧ (k : Int) < ((16 : Nat) : Int) := by omega
 have h4 := mO (r := r) (k := k) TX w
 simp [Instr.index, run_underlying Tryz.underlying56, asIntOf, Sem.run_bind, h2, hk, h4]
theorem rH {P : Program} {w : World} (q : Nat → Bool) (g : Nat → Option Bool × PUnit → Sem (ForInStep (Option Bool × PUnit))) : ∀ (l : List Nat), (∀ i ∈ l, ∀ s, (g i s).run P w = .ok (if q i then .yield (none, ()) else .done (some false, ())) w) →
  (forIn l ((none, ()) : Option Bool × PUnit) g).run P w = .ok (if l.all q then (none, ()) else (some false, ())) w
 | [], _ => by simp
 | i :: l, h => by
  have ih := rH q g l (fun j hj => h j (List.mem_cons_of_mem _ hj))
  have h1 := h i (List.mem_cons_self ..) (none, ())
  rw [List.forIn_cons, Sem.run_bind, h1]
  cases hq : q i <;> simp [hq, ih]
theorem Aq (d : Nat) {a b : RG} (ha : a.length = 16) (hb : b.length = 16) (w : World) : (Op.equalIn (d + 1 + 1 + 1) 56 (.agg (aa a).toArray) (.agg (aa b).toArray)).run Tryz.prog w = .ok (decide (a = b)) w := by
 rw [Op.equalIn]
 simp [run_underlying Tryz.underlying56, Sem.run_bind]
 rw [rH (fun i => decide (rg a (i : Int) = rg b (i : Int)))]
 ·have e : (List.range' 0 16).all (fun i => decide (rg a (i : Int) = rg b (i : Int))) = decide (a = b) := by
   rw [Bool.eq_iff_iff, List.all_eq_true, decide_eq_true_eq]
   constructor
   ·intro h
    apply List.ext_getElem?
    intro i
    by_cases hi : i < 16
    ·have := h i (by simp [List.mem_range'_1]; omega)
     rw [decide_eq_true_eq] at this
     rw [fe TX, fe TX, this]
    ·rw [List.getElem?_eq_none TX, List.getElem?_eq_none TX]
   ·rintro rfl i _
    simp
  rw [e]
  cases decide (a = b) <;> simp
 ·intro i hi s
  have hi2 : i < 16 := by simp [List.mem_range'_1] at hi; omega
  have h1 := mO (r := a) (k := i) TX w
  have h2 := mO (r := b) (k := i) TX w
  have h3 := yf d (rg a (i : Int)).1 (rg a (i : Int)).2 (rg b (i : Int)).1 (rg b (i : Int)).2 w
  simp only [Sem.run_bind, h1, h2, Result.andThen_ok, h3]
  by_cases h4 : rg a (i : Int) = rg b (i : Int)
  ·simp [h4]
  ·have : ((rg a (i : Int)).1 == (rg b (i : Int)).1 && (rg a (i : Int)).2 == (rg b (i : Int)).2) = false := by
    rw [Bool.eq_false_iff]
    intro h5
    rw [Bool.and_eq_true] at h5
    exact h4 (Prod.ext (by simpa using h5.1) (by simpa using h5.2))
   simp [this, h4]
theorem oq {a b : RG} (ha : a.length = 16) (hb : b.length = 16) (w : World) : (binOp .eql 56 (.agg (aa a).toArray) (.agg (aa b).toArray)).run Tryz.prog w = .ok (.bool (decide (a = b))) w := by
 simp only [binOp]
 simp [Op.equal, Op.maxDepth, Aq 9997 ha hb]
def aC (w : World) (b : Nat) (T : TypeId) (r : RG) : Prop := w.heap[b]? = some (.cells (aa r).toArray T (0, 0))
section
variable {w : World} {b : Nat} {T : TypeId} {r : RG}
theorem aC.lt (h : aC w b T r) : b < w.heap.size := (Array.getElem?_eq_some_iff.1 h).1
theorem aC.lo (h : aC w b T r) {k : Nat} (hk : k < r.length) : w.cell? ⟨b, k * 2, none⟩ = some (.int .i32 (rg r (k : Int)).1) := by
 have := iG r k 0 _ (fe hk) TX
 unfold aC at h
 simpa [World.cell?, h] using this
theorem aC.hi (h : aC w b T r) {k : Nat} (hk : k < r.length) : w.cell? ⟨b, k * 2 + 1, none⟩ = some (.int .i32 (rg r (k : Int)).2) := by
 have := iG r k 1 _ (fe hk) TX
 unfold aC at h
 simpa [World.cell?, h] using this
theorem aC.fz (h : aC w b T r) (o : Nat) : w.frozen? ⟨b, o, none⟩ = false := by unfold aC at h; simp [World.frozen?, h]
theorem aC.keep {w' : World} (h : aC w b T r) (hb : Below w.heap.size w w') : aC w' b T r := (hb.block b h.lt).trans h
theorem aC.set (h : aC w b T r) (k : Nat) (x : Int × Int) : aC ((w.setCell ⟨b, k * 2, none⟩ (.int .i32 x.1)).setCell ⟨b, k * 2 + 1, none⟩ (.int .i32 x.2)) b T (r.set k x) := by
 unfold aC at h ⊢
 rw [heap_setCell_same _ b _ _ T _ (heap_setCell_same w b _ _ T _ h), ← pS]
 simp
theorem aC.range (h : aC w b T r) : w.rangeAt b 0 (aa r) := fun j v hv => by
 unfold aC at h
 simp [World.cell?, h, hv]
end
end
section
open Go.RowKit
theorem jI (w : World) (cA cB : Array Value) (tA tB : TypeId) (x : Ext ((w.alloc (.cells cA tA)).alloc (.cells cB tB))) : w.heap.size + 1 < x.w.heap.size ∧ x.w.heap[w.heap.size]? = some (.cells cA tA (0, 0)) ∧ x.w.heap[w.heap.size + 1]? = some (.cells cB tB (0, 0)) ∧ Below w.heap.size w x.w := by
 have e2 : ((w.alloc (.cells cA tA)).alloc (.cells cB tB)).heap.size = w.heap.size + 1 + 1 := by simp only [World.size_alloc]
 have hs := x.h.size
 refine ⟨by omega, ?_, ?_, Ext.below (((Below.refl _ _).alloc (Nat.le_refl _) _).alloc T4 _) TX x⟩
 ·rw [x.h.block _ TX, heap_alloc_old _ _ T4]; exact heap_alloc_new _ _
 ·rw [x.h.block _ TX]; exact bg _ _ T4
theorem lp (op : Int) (h1 : 2 ≤ op) (h2 : op ≤ 13) (w : World) : Calls Tryz.prog 36 #[.int .u8 op] w fun e w' => e = .returned (.int .u8 (nM op)) ∧ w = w' := by
 have h : op = 2 ∨ op = 3 ∨ op = 4 ∨ op = 5 ∨ op = 6 ∨ op = 7 ∨ op = 8 ∨ op = 9 ∨ op = 10 ∨ op = 11 ∨ op = 12 ∨ op = 13 := by omega
 rcases h with rfl | rfl | rfl | rfl | rfl | rfl | rfl | rfl | rfl | rfl | rfl | rfl
 all_goals
  go_enter Tryz.func36, Tryz.ntmps36
  go_wp2
  go_ret
  exact ⟨rfl, rfl⟩
theorem vJ (xl xh : Int) (h1 : xl = 0) (h2 : xh = 0) (w : World) : Calls Tryz.prog 48 #[.agg #[.int .i32 xl, .int .i32 xh]] w fun e w' => e = .returned (.agg #[.int .i32 (1), .int .i32 (0)]) ∧ Below w.heap.size w w' := by
 have E := fO xl xh 0 0
 have hb : (xl == 0 && xh == 0) = true := by simp [h1, h2]
 rw [hb] at E
 clear h1 h2
 go_enter Tryz.func48, Tryz.ntmps48
 go_wp2
 refine ay TY TY ?_
 repeat (go_big_quiet_step (exact Calls.au (cy 0 _)))
 refine wpQuiet_nil ?_
 rintro _ ⟨x, rfl⟩
 obtain ⟨hz2, k0, k1, eD⟩ := jI w _ _ _ _ x
 have hz1 : w.heap.size < x.w.heap.size := by omega
 have c0 : x.w.cell? ⟨w.heap.size, 0, none⟩ = some (.int .i32 xl) := by rw [cell_of_row _ _ _ _ _ _ k0]; rfl
 have c1 : x.w.cell? ⟨w.heap.size, 1, none⟩ = some (.int .i32 xh) := by rw [cell_of_row _ _ _ _ _ _ k0]; rfl
 have c2 : x.w.cell? ⟨w.heap.size + 1, 0, none⟩ = some (.int .i32 0) := by rw [cell_of_row _ _ _ _ _ _ k1]; rfl
 have c3 : x.w.cell? ⟨w.heap.size + 1, 1, none⟩ = some (.int .i32 0) := by rw [cell_of_row _ _ _ _ _ _ k1]; rfl
 clear k0 k1 eD
 go_wp2_with (go_at_call 49; refine (Calls.au (av _)).mono ?_; rintro e w' ⟨rfl, y, rfl⟩)
 all_goals
  refine bodyPost_ret (v := .agg #[.int .i32 (1), .int .i32 (0)]) ?hr rfl ⟨rfl, ?aB⟩
  case hr =>
   simp [results, Tryz.results48, go_sem]
  case aB =>
   exact UW
theorem vL (xl xh : Int) (h1 : xl = 0) (h2 : xh ≠ 0) (w : World) : Calls Tryz.prog 48 #[.agg #[.int .i32 xl, .int .i32 xh]] w fun e w' => e = .returned (.agg #[.int .i32 (1), .int .i32 (xh)]) ∧ Below w.heap.size w w' := by
 have E := fO xl xh 0 0
 have hb : (xl == 0 && xh == 0) = false := by simp [h2]
 rw [hb] at E
 have d1 : (xl == 0) = true := by simp [h1]
 clear h1 h2
 go_enter Tryz.func48, Tryz.ntmps48
 go_wp2
 refine ay TY TY ?_
 repeat (go_big_quiet_step (exact Calls.au (cy 0 _)))
 refine wpQuiet_nil ?_
 rintro _ ⟨x, rfl⟩
 obtain ⟨hz2, k0, k1, eD⟩ := jI w _ _ _ _ x
 have hz1 : w.heap.size < x.w.heap.size := by omega
 have c0 : x.w.cell? ⟨w.heap.size, 0, none⟩ = some (.int .i32 xl) := by rw [cell_of_row _ _ _ _ _ _ k0]; rfl
 have c1 : x.w.cell? ⟨w.heap.size, 1, none⟩ = some (.int .i32 xh) := by rw [cell_of_row _ _ _ _ _ _ k0]; rfl
 have c2 : x.w.cell? ⟨w.heap.size + 1, 0, none⟩ = some (.int .i32 0) := by rw [cell_of_row _ _ _ _ _ _ k1]; rfl
 have c3 : x.w.cell? ⟨w.heap.size + 1, 1, none⟩ = some (.int .i32 0) := by rw [cell_of_row _ _ _ _ _ _ k1]; rfl
 clear k0 k1 eD
 go_wp2_with (go_at_call 49; refine (Calls.au (av _)).mono ?_; rintro e w' ⟨rfl, y, rfl⟩)
 all_goals
  refine bodyPost_ret (v := .agg #[.int .i32 (1), .int .i32 (xh)]) ?hr rfl ⟨rfl, ?aB⟩
  case hr =>
   simp [results, Tryz.results48, go_sem]
  case aB =>
   exact UW
theorem vM (xl xh : Int) (h1 : xl ≠ 0) (h2 : xh = 0) (w : World) : Calls Tryz.prog 48 #[.agg #[.int .i32 xl, .int .i32 xh]] w fun e w' => e = .returned (.agg #[.int .i32 (xl), .int .i32 (-1)]) ∧ Below w.heap.size w w' := by
 have E := fO xl xh 0 0
 have hb : (xl == 0 && xh == 0) = false := by simp [h1]
 rw [hb] at E
 have d1 : (xl == 0) = false := by simp [h1]
 have d2 : (xh == 0) = true := by simp [h2]
 clear h1 h2
 go_enter Tryz.func48, Tryz.ntmps48
 go_wp2
 refine ay TY TY ?_
 repeat (go_big_quiet_step (exact Calls.au (cy 0 _)))
 refine wpQuiet_nil ?_
 rintro _ ⟨x, rfl⟩
 obtain ⟨hz2, k0, k1, eD⟩ := jI w _ _ _ _ x
 have hz1 : w.heap.size < x.w.heap.size := by omega
 have c0 : x.w.cell? ⟨w.heap.size, 0, none⟩ = some (.int .i32 xl) := by rw [cell_of_row _ _ _ _ _ _ k0]; rfl
 have c1 : x.w.cell? ⟨w.heap.size, 1, none⟩ = some (.int .i32 xh) := by rw [cell_of_row _ _ _ _ _ _ k0]; rfl
 have c2 : x.w.cell? ⟨w.heap.size + 1, 0, none⟩ = some (.int .i32 0) := by rw [cell_of_row _ _ _ _ _ _ k1]; rfl
 have c3 : x.w.cell? ⟨w.heap.size + 1, 1, none⟩ = some (.int .i32 0) := by rw [cell_of_row _ _ _ _ _ _ k1]; rfl
 clear k0 k1 eD
 go_wp2_with (go_at_call 49; refine (Calls.au (av _)).mono ?_; rintro e w' ⟨rfl, y, rfl⟩)
 all_goals
  refine bodyPost_ret (v := .agg #[.int .i32 (xl), .int .i32 (-1)]) ?hr rfl ⟨rfl, ?aB⟩
  case hr =>
   simp [results, Tryz.results48, go_sem]
  case aB =>
   exact UW
theorem vK (xl xh : Int) (h1 : xl ≠ 0) (h2 : xh ≠ 0) (w : World) : Calls Tryz.prog 48 #[.agg #[.int .i32 xl, .int .i32 xh]] w fun e w' => e = .returned (.agg #[.int .i32 (xl), .int .i32 (xh)]) ∧ Below w.heap.size w w' := by
 have E := fO xl xh 0 0
 have hb : (xl == 0 && xh == 0) = false := by simp [h1]
 rw [hb] at E
 have d1 : (xl == 0) = false := by simp [h1]
 have d2 : (xh == 0) = false := by simp [h2]
 clear h1 h2
 go_enter Tryz.func48, Tryz.ntmps48
 go_wp2
 refine ay TY TY ?_
 repeat (go_big_quiet_step (exact Calls.au (cy 0 _)))
 refine wpQuiet_nil ?_
 rintro _ ⟨x, rfl⟩
 obtain ⟨hz2, k0, k1, eD⟩ := jI w _ _ _ _ x
 have hz1 : w.heap.size < x.w.heap.size := by omega
 have c0 : x.w.cell? ⟨w.heap.size, 0, none⟩ = some (.int .i32 xl) := by rw [cell_of_row _ _ _ _ _ _ k0]; rfl
 have c1 : x.w.cell? ⟨w.heap.size, 1, none⟩ = some (.int .i32 xh) := by rw [cell_of_row _ _ _ _ _ _ k0]; rfl
 have c2 : x.w.cell? ⟨w.heap.size + 1, 0, none⟩ = some (.int .i32 0) := by rw [cell_of_row _ _ _ _ _ _ k1]; rfl
 have c3 : x.w.cell? ⟨w.heap.size + 1, 1, none⟩ = some (.int .i32 0) := by rw [cell_of_row _ _ _ _ _ _ k1]; rfl
 clear k0 k1 eD
 go_wp2_with (go_at_call 49; refine (Calls.au (av _)).mono ?_; rintro e w' ⟨rfl, y, rfl⟩)
 all_goals
  refine bodyPost_ret (v := .agg #[.int .i32 (xl), .int .i32 (xh)]) ?hr rfl ⟨rfl, ?aB⟩
  case hr =>
   simp [results, Tryz.results48, go_sem]
  case aB =>
   exact UW
theorem tH (xl xh : Int) (w : World) : Calls Tryz.prog 48 #[.agg #[.int .i32 xl, .int .i32 xh]] w fun e w' => e = .returned (.agg #[.int .i32 (dW (xl, xh)).1, .int .i32 (dW (xl, xh)).2]) ∧ Below w.heap.size w w' := by
 by_cases h1 : xl = 0 <;> by_cases h2 : xh = 0
 ·refine (vJ xl xh h1 h2 w).mono fun e w' ⟨q, hb⟩ => ⟨q.trans ?_, hb⟩
  simp [dW, h1, h2]
 ·refine (vL xl xh h1 h2 w).mono fun e w' ⟨q, hb⟩ => ⟨q.trans ?_, hb⟩
  simp [dW, h1, h2]
 ·refine (vM xl xh h1 h2 w).mono fun e w' ⟨q, hb⟩ => ⟨q.trans ?_, hb⟩
  simp [dW, h1, h2]
 ·refine (vK xl xh h1 h2 w).mono fun e w' ⟨q, hb⟩ => ⟨q.trans ?_, hb⟩
  simp [dW, h1, h2]
theorem kJ {r : RG} {k : Nat} (hk : k < r.length) (h : (rg r (k : Int)).2 < (rg r (k : Int)).1) : bk r = false := by
 have : r.all (fun x => decide (x.1 ≤ x.2)) = false := by
  rw [List.all_eq_false]
  refine ⟨rg r (k : Int), List.mem_of_getElem? (fe hk), ?_⟩
  simp; omega
 simp [bk, this]
theorem nB {r : RG} (h : ∀ k, k < r.length → (rg r (k : Int)).1 ≤ (rg r (k : Int)).2) : bk r = decide (rg r 0 = (0, 0)) := by
 have : r.all (fun x => decide (x.1 ≤ x.2)) = true := by
  rw [List.all_eq_true]
  intro x hx
  obtain ⟨k, hk⟩ := List.mem_iff_getElem?.1 hx
  have hl := (List.getElem?_eq_some_iff.1 hk).1
  have e := fe hl
  rw [hk] at e
  have := h k hl
  rw [← Option.some.inj e] at this
  simpa using this
 simp [bk, this]
theorem dX (r : RG) (hr : r.length = 16) (w : World) : Calls Tryz.prog 33 #[.agg (aa r).toArray] w fun e w' => e = .returned (.bool (bk r)) ∧ Below w.heap.size w w' := by
 obtain ⟨V, hV⟩ : ∃ V, w.alloc (.cells (aa r).toArray 56) = V := ⟨_, rfl⟩
 have bV : Below w.heap.size w V := hV ▸ (Below.refl _ _).alloc (Nat.le_refl _) _
 have kV : aC V w.heap.size 56 r := by rw [← hV]; exact heap_alloc_new _ _
 have hrg := kV.range
 have Af : (Tryz.prog.info? 56).map (·.size) = some (aa r).length := by rw [az, hr]; kernel_rfl
 have sV := kV.lt
 have KV := UZ kV
 have BV := UZ bV
 have HR := UZ hr
 clear kV bV hr
 go_enter Tryz.func33, Tryz.ntmps33
 go_upto_region 2 with (refine wpList_load_mid rfl 56 (.tmp 1) rfl w.heap.size 0 rfl (aa r) _ hrg Tryz.underlying56 rfl Af ?_)
 clear hV
 go_loopw [4, 6] (fun a4 a6 wr => ∃ k : Nat, k ≤ 16 ∧ a6 = .int .i64 (k : Int) ∧ (∀ j : Nat, j < k → (rg r (j : Int)).1 ≤ (rg r (j : Int)).2) ∧ Below V.heap.size V wr) (fun _ a6 _ => 16 - (intOf a6).toNat)
 case atStart => exact ⟨0, by omega, rfl, fun j hj => by omega, Below.refl _ _⟩
 case round =>
  obtain ⟨k, hk, rfl, hall, hb⟩ := hrel
  have HA := UZ hall
  have HB := UZ hb
  have hsz := hb.size
  clear hall hb
  by_cases hlt : k < 16
  ·have dl : decide ((k : Int) < 16) = true := decide_eq_true TX
   have hix := pF HR.out hlt
   obtain ⟨lo, hlo⟩ : ∃ lo, (rg r (k : Int)).1 = lo := ⟨_, rfl⟩
   obtain ⟨hi, hhi⟩ : ∃ hi, (rg r (k : Int)).2 = hi := ⟨_, rfl⟩
   rw [hlo, hhi] at hix
   have Ll := UZ hlo
   have Lr := UZ hhi
   clear hlo hhi
   have rQ := UZ (af lo hi)
   by_cases he : hi < lo
   ·have d2 : decide (hi < lo) = true := decide_eq_true he
    go_wp2_with (go_at_call 39; refine (rQ.out _).mono ?_; rintro e w' ⟨rfl, hb2⟩)
    go_ret
    refine ⟨by rw [kJ UQ (by rw [Ll.out, Lr.out]; exact he)]; rfl, BV.out.trans ((HB.out.trans ?_).mono BV.out.size)⟩
    exact (((Below.refl _ _).alloc (Nat.le_refl _) _).trans (hb2.mono T4)).mono hsz
   ·have d2 : decide (hi < lo) = false := decide_eq_false he
    go_wp2_with (go_at_call 39; refine (rQ.out _).mono ?_; rintro e w' ⟨rfl, hb2⟩)
    go_roundw
    case rel =>
     refine ⟨k + 1, by omega, by go_num, fun j hj => ?_, HB.out.trans ((((Below.refl _ _).alloc (Nat.le_refl _) _).trans (hb2.mono T4)).mono hsz)⟩
     by_cases hjk : j = k
     ·subst hjk; rw [Ll.out, Lr.out]; omega
     ·exact HA.out j TX
    case measure => simp [intOf]; omega
  ·have HK := UZ (show k = 16 by omega)
   have HP := UZ (nB (r := r) (fun j hj => HA.out j (by rw [HR.out] at hj; rw [HK.out]; exact hj)))
   have KW := KV.out.keep HB.out
   obtain ⟨lo, hlo⟩ : ∃ lo, (rg r 0).1 = lo := ⟨_, rfl⟩
   obtain ⟨hi, hhi⟩ : ∃ hi, (rg r 0).2 = hi := ⟨_, rfl⟩
   have c0 : wr.cell? ⟨w.heap.size, 0, none⟩ = some (.int .i32 lo) := by rw [← hlo]; simpa using KW.lo (k := 0) (by rw [HR.out]; omega)
   have c1 : wr.cell? ⟨w.heap.size, 1, none⟩ = some (.int .i32 hi) := by rw [← hhi]; simpa using KW.hi (k := 0) (by rw [HR.out]; omega)
   have E := fO lo hi 0 0
   have HQ := UZ (show bk r = (lo == 0 && hi == 0) by
    rw [HP.out, ← hlo, ← hhi, Bool.eq_iff_iff, decide_eq_true_eq, Bool.and_eq_true, beq_iff_eq, beq_iff_eq, Prod.ext_iff])
   have sW : w.heap.size < wr.heap.size := by omega
   clear KW hlo hhi hrg
   have dl : decide ((k : Int) < 16) = false := decide_eq_false TX
   go_upto_region 7 with fail
   refine ay TY TY ?_
   repeat (go_big_quiet_step (exact Calls.au (cy 0 _)))
   refine wpQuiet_nil ?_
   rintro _ ⟨x, rfl⟩
   go_wp2_with fail
   go_ret
   exact ⟨by rw [HQ.out]; rfl, BV.out.trans ((HB.out.trans (x.h.mono hsz)).mono BV.out.size)⟩
end
section
open Go.RowKit
def cE : Option RG → Value
 | none => .tuple #[.agg (aa ak).toArray, .bool false]
 | some r => .tuple #[.agg (aa r).toArray, .bool true]
theorem aG {w : World} {ib : Nat} {o a b c i : Int} (h : w.heap[ib]? = some (.cells #[.int .u8 o, .int .i64 a, .int .i64 b, .int .i64 c, .int .i64 i] 64 (0, 0))) :
  w.cell? ⟨ib, 0, none⟩ = some (.int .u8 o) ∧ w.cell? ⟨ib, 1, none⟩ = some (.int .i64 a) ∧ w.cell? ⟨ib, 2, none⟩ = some (.int .i64 b) ∧ w.cell? ⟨ib, 3, none⟩ = some (.int .i64 c) ∧ w.cell? ⟨ib, 4, none⟩ = some (.int .i64 i) ∧ ib < w.heap.size :=
 ⟨cell_of_row _ _ _ _ _ _ h, cell_of_row _ _ _ _ _ _ h, cell_of_row _ _ _ _ _ _ h, cell_of_row _ _ _ _ _ _ h, cell_of_row _ _ _ _ _ _ h, (Array.getElem?_eq_some_iff.1 h).1⟩
theorem aW (w : World) (cA cB cC : Array Value) (tA tB tC : TypeId) : ∃ V, ((w.alloc (.cells cA tA)).alloc (.cells cB tB)).alloc (.cells cC tC) = V ∧ V.heap[w.heap.size]? = some (.cells cA tA (0, 0)) ∧ V.heap[w.heap.size + 1]? = some (.cells cB tB (0, 0)) ∧ V.heap[w.heap.size + 1 + 1]? = some (.cells cC tC (0, 0)) ∧ Below w.heap.size w V ∧ w.heap.size + 1 + 1 < V.heap.size := by
 refine ⟨_, rfl, ?_, ?_, bg _ _ T4, (((Below.refl _ _).alloc (Nat.le_refl _) _).alloc T4 _).alloc T9 _, by simp⟩
 ·rw [heap_alloc_old _ _ T9, heap_alloc_old _ _ T4]; exact heap_alloc_new _ _
 ·rw [heap_alloc_old _ _ T4]; exact bg _ _ T4
theorem aj (r : RG) : (aa r).toArray.all (·.oneCell') = true := all_oneCell_toArray fun v hv => by
 unfold aa at hv
 obtain ⟨x, _, h⟩ := List.mem_flatMap.1 hv
 simp only [List.mem_cons, List.not_mem_nil, or_false] at h
 rcases h with rfl | rfl <;> rfl
theorem tK (op a b c im : Int) (h0 : 0 ≤ op) (r : RG) (hr : R16 r) (w : World) (T : fM w) (hno : aL ⟨op, a, b, c, im⟩ = false ∨ (aL ⟨op, a, b, c, im⟩ = true ∧ bk r = false)) :
  Calls Tryz.prog 12 #[.agg #[.int .u8 op, .int .i64 a, .int .i64 b, .int .i64 c, .int .i64 im], .agg (aa r).toArray] w fun e w' => e = .returned (cE none) ∧ Below w.heap.size w w' := by
 obtain ⟨V, hV, k0, k1, k2, bV, sV⟩ := aW w #[.int .u8 op, .int .i64 a, .int .i64 b, .int .i64 c, .int .i64 im] (aa r).toArray Va.toArray 64 56 56
 obtain ⟨a0, a1, a2, a3, a4, lV⟩ := aG k0
 have K1 := UZ (show aC V (w.heap.size + 1) 56 r from k1)
 have j8 := UZ (show (Tryz.prog.info? 56).map (·.size) = some (aa r).length by rw [az, hr.len]; kernel_rfl)
 have K2 := UZ k2
 have BV := UZ bV
 have dI := UZ (Calls.ext (cG ⟨op, a, b, c, im⟩ h0 V (T.below bV)))
 have jf := UZ (fun x : Ext V => Calls.au (x := x) (dX r hr.len x.w))
 clear k0 k1 k2 bV
 go_enter Tryz.func12, Tryz.ntmps12
 go_upto_region 1 with fail
 clear hV
 rcases hno with hv | ⟨hv, hp⟩
 ·rw [hv] at dI
  go_wp2_with (first | (go_at_call 32; refine dI.out.mono ?_; rintro e w' ⟨rfl, y, rfl⟩) | (refine wpList_store_row rfl 56 (.tmp 4) (.tmp 16) rfl (w.heap.size + 1 + 1) Va.toArray rfl rfl 56 _ (((Ext.h _).block _ sV).trans K2.out) TY rfl T2 ?_))
  refine bodyPost_ret (results_cell_tmp (P := Tryz.prog) Tryz.results12 _ _ (w.heap.size + 1 + 1) Va _ rfl (aq (setRow_heap _ _ _ _ _ _ ((y.h.block _ sV).trans K2.out))) Tryz.underlying56 rfl TY) rfl ⟨rfl, below_setRow (BV.out.trans (y.h.mono BV.out.size)) TX _⟩
 ·rw [hv] at dI
  rw [hp] at jf
  go_wp2_with (first | (go_at_call 32; refine dI.out.mono ?_; rintro e w' ⟨rfl, y, rfl⟩) | (go_at_call 33; refine (jf.out _).mono ?_; rintro e w' ⟨rfl, z, rfl⟩) | (refine aQ T8 _ _ rfl _ _ rfl (aa r) _ (K1.out.keep (Ext.h _)).range Tryz.underlying56 rfl j8.out ?_) | (refine wpList_store_row rfl 56 (.tmp 4) (.tmp 16) rfl (w.heap.size + 1 + 1) Va.toArray rfl rfl 56 _ (((Ext.h _).block _ sV).trans K2.out) TY rfl T2 ?_))
  refine bodyPost_ret (results_cell_tmp (P := Tryz.prog) Tryz.results12 _ _ (w.heap.size + 1 + 1) Va _ rfl (aq (setRow_heap _ _ _ _ _ _ ((z.h.block _ sV).trans K2.out))) Tryz.underlying56 rfl TY) rfl ⟨rfl, below_setRow (BV.out.trans (z.h.mono BV.out.size)) TX _⟩
theorem tQ {r : RG} (hl : r.length = 16) (h0 : rg r 0 = (0, 0)) (an : Nat) (x : Int × Int) : (r.set an x).set 0 (0, 0) = aO r (an : Int) x := by
 have hz : r.set 0 (0, 0) = r := by
  apply List.ext_getElem?
  intro i
  by_cases hi : i = 0
  ·subst hi
   rw [List.getElem?_set]
   have := fe (r := r) (k := 0) TX
   rw [show ((0 : Nat) : Int) = 0 from rfl] at this
   rw [this]
   simp [hl]
   exact h0.symm
  ·rw [List.getElem?_set]; simp [Ne.symm hi]
 unfold aO
 by_cases ha : an = 0
 ·subst ha
  simp [hz]
 ·rw [if_neg TX, List.set_comm _ _ ha, hz]
  simp
theorem qO {r : RG} (hl : r.length = 16) (h0 : rg r 0 = (0, 0)) : r.set 0 (0, 0) = r := by
 have h := tQ hl h0 0 (0, 0)
 rw [List.set_set] at h
 rw [h]
 rfl
theorem ju {r : RG} (h : bk r = true) : rg r 0 = (0, 0) := by
 unfold bk at h
 rw [Bool.and_eq_true, decide_eq_true_eq] at h
 exact h.2
end
section
open Go.RowKit
theorem pJ (w : World) (cA cB cC cD : Array Value) (tA tB tC tD : TypeId) : ∃ V, (((w.alloc (.cells cA tA)).alloc (.cells cB tB)).alloc (.cells cC tC)).alloc (.cells cD tD) = V ∧ V.heap[w.heap.size]? = some (.cells cA tA (0, 0)) ∧ V.heap[w.heap.size + 1]? = some (.cells cB tB (0, 0)) ∧ V.heap[w.heap.size + 1 + 1]? = some (.cells cC tC (0, 0)) ∧ V.heap[w.heap.size + 1 + 1 + 1]? = some (.cells cD tD (0, 0)) ∧ Below w.heap.size w V ∧ w.heap.size + 1 + 1 + 1 < V.heap.size := by
 obtain ⟨V, e, h0, h1, h2, hb, hs⟩ := aW w cA cB cC tA tB tC
 have hs3 : V.heap.size = w.heap.size + 1 + 1 + 1 := by rw [← e]; simp
 refine ⟨V.alloc (.cells cD tD), by rw [← e], ?_, ?_, ?_, ?_, hb.alloc TX _, by simp; omega⟩
 ·rw [heap_alloc_old _ _ TX]; exact h0
 ·rw [heap_alloc_old _ _ TX]; exact h1
 ·rw [heap_alloc_old _ _ TX]; exact h2
 ·rw [← hs3]; exact heap_alloc_new _ _
theorem CP {x y z : RG} {F : Int × Int → Int × Int → Int × Int} (hx : x.length = 16) (hy : y.length = 16) (hz : z.length = 16) (h : ∀ j : Nat, j < 16 → rg z (j : Int) = F (rg x (j : Int)) (rg y (j : Int))) : z = List.zipWith F x y := by
 apply List.ext_getElem?
 intro i
 by_cases hi : i < 16
 ·have := h i hi
  rw [fe TX, this]
  rw [List.getElem?_zipWith, fe TX, fe TX]
 ·rw [List.getElem?_eq_none TX, List.getElem?_eq_none (by rw [List.length_zipWith]; omega)]
theorem gG (fid : FuncId) (F : Int × Int → Int × Int → Int × Int) (he : ∀ (args : Array Value) (w : World), (callFunc fid args).run Tryz.prog w = .ok (.enter fid args) w)
  (hF : ∀ a b c d w, Calls Tryz.prog fid #[.agg #[.int .i32 a, .int .i32 b], .agg #[.int .i32 c, .int .i32 d]] w fun e w' => e = .returned (.agg #[.int .i32 (F (a, b) (c, d)).1, .int .i32 (F (a, b) (c, d)).2]) ∧ Below w.heap.size w w')
  (x y : RG) (hx : x.length = 16) (hy : y.length = 16) (w : World) :
  Calls Tryz.prog 63 #[.agg (aa x).toArray, .agg (aa y).toArray, .func (.func fid) #[] #[]] w fun e w' => e = .returned (.agg (aa (List.zipWith F x y)).toArray) ∧ Below w.heap.size w w' := by
 obtain ⟨V, hV, k0, k1, k2, k3, bV, sV⟩ := pJ w (aa x).toArray (aa y).toArray Va.toArray Va.toArray 56 56 56 56
 have K0 := UZ (show aC V w.heap.size 56 x from k0)
 have K1 := UZ (show aC V (w.heap.size + 1) 56 y from k1)
 have K2 := UZ k2
 have K3 := UZ (show aC V (w.heap.size + 1 + 1 + 1) 56 ak from k3)
 have BV := UZ bV
 have HX := UZ hx
 have HY := UZ hy
 have HF := UZ hF
 clear k0 k1 k2 k3 bV hF hx hy
 go_enter Tryz.func63, Tryz.ntmps63
 go_upto_region 3 with fail
 clear hV
 go_loopw [9] (fun a9 wr => ∃ k : Nat, ∃ z : RG, k ≤ 16 ∧ a9 = .int .i64 (k : Int) ∧ z.length = 16 ∧ (∀ j : Nat, j < k → rg z (j : Int) = F (rg x (j : Int)) (rg y (j : Int))) ∧ Below (w.heap.size + 1 + 1 + 1) V wr ∧ aC wr (w.heap.size + 1 + 1 + 1) 56 z) (fun a9 _ => 16 - (intOf a9).toNat)
 case atStart => exact ⟨0, ak, by omega, rfl, by simp [ak], fun j hj => by omega, Below.refl _ _, K3.out⟩
 case round =>
  obtain ⟨k, z, hk, rfl, hz, hall, hb, kz⟩ := hrel
  have HA := UZ hall
  have HB := UZ hb
  have HZ := UZ hz
  have Mm := UZ hb.size
  clear hall hb hz
  by_cases hlt : k < 16
  ·have dl : decide ((k : Int) < 16) = true := decide_eq_true TX
   have ik : (k : Int) < 16 := by omega
   have KX : aC wr w.heap.size 56 x := (HB.out.block _ TX).trans K0.out
   have KY : aC wr (w.heap.size + 1) 56 y := (HB.out.block _ TX).trans K1.out
   obtain ⟨xl, hxl⟩ : ∃ v, (rg x (k : Int)).1 = v := ⟨_, rfl⟩
   obtain ⟨xh, jx⟩ : ∃ v, (rg x (k : Int)).2 = v := ⟨_, rfl⟩
   obtain ⟨yl, MX⟩ : ∃ v, (rg y (k : Int)).1 = v := ⟨_, rfl⟩
   obtain ⟨yh, MZ⟩ : ∃ v, (rg y (k : Int)).2 = v := ⟨_, rfl⟩
   have c0 : wr.cell? ⟨w.heap.size, k * 2, none⟩ = some (.int .i32 xl) := by rw [← hxl]; exact KX.lo (by rw [HX.out]; exact hlt)
   have c1 : wr.cell? ⟨w.heap.size, k * 2 + 1, none⟩ = some (.int .i32 xh) := by rw [← jx]; exact KX.hi (by rw [HX.out]; exact hlt)
   have c2 : wr.cell? ⟨w.heap.size + 1, k * 2, none⟩ = some (.int .i32 yl) := by rw [← MX]; exact KY.lo (by rw [HY.out]; exact hlt)
   have c3 : wr.cell? ⟨w.heap.size + 1, k * 2 + 1, none⟩ = some (.int .i32 yh) := by rw [← MZ]; exact KY.hi (by rw [HY.out]; exact hlt)
   have l0 : w.heap.size < wr.heap.size := KX.lt
   have l1 : w.heap.size + 1 < wr.heap.size := KY.lt
   have l3 : w.heap.size + 1 + 1 + 1 < wr.heap.size := kz.lt
   have f0 : wr.frozen? ⟨w.heap.size + 1 + 1 + 1, k * 2, none⟩ = false := kz.fz _
   have f1 : wr.frozen? ⟨w.heap.size + 1 + 1 + 1, k * 2 + 1, none⟩ = false := kz.fz _
   have z0 : wr.cell? ⟨w.heap.size + 1 + 1 + 1, k * 2, none⟩ = some (.int .i32 (rg z (k : Int)).1) := kz.lo Uz
   have z1 : wr.cell? ⟨w.heap.size + 1 + 1 + 1, k * 2 + 1, none⟩ = some (.int .i32 (rg z (k : Int)).2) := kz.hi Uz
   obtain ⟨p, q, hp⟩ : ∃ p q, F (xl, xh) (yl, yh) = (p, q) := ⟨_, _, rfl⟩
   have HG := UZ (show ∀ w, Calls Tryz.prog fid #[.agg #[.int .i32 xl, .int .i32 xh], .agg #[.int .i32 yl, .int .i32 yh]] w fun e w' => e = .returned (.agg #[.int .i32 p, .int .i32 q]) ∧ Below w.heap.size w w' from fun w => by
    have := HF.out xl xh yl yh w
    rw [hp] at this
    exact this)
   have HP := UZ (show F (rg x (k : Int)) (rg y (k : Int)) = (p, q) by rw [← hp, ← hxl, ← jx, ← MX, ← MZ])
   have KZ := UZ kz
   clear hp hxl jx MX MZ KX KY kz
   go_upto_region 5 with fail
   refine aD 9 TY TY ?_
   simp only [U8, List.take_zero, U9, List.drop_zero]
   repeat (go_big_quiet_step (exact Calls.au (HG.out _)))
   refine wpQuiet_nil ?_
   rintro _ ⟨x1, rfl⟩
   go_wp2_with fail
   go_roundw
   case rel =>
    refine ⟨k + 1, z.set k (p, q), by omega, by go_num, by rw [List.length_set]; exact HZ.out, fun j hj => ?_, ?_, (KZ.out.keep x1.h).set k (p, q)⟩
    ·by_cases hjk : j = k
     ·subst hjk
      rw [HP.out, fZ]
      simp [List.getD, show j < z.length by rw [HZ.out]; exact hlt]
     ·have := HA.out j TX
      rw [← this, fZ, fZ]
      simp [List.getD, List.getElem?_set, Ne.symm hjk]
    ·exact Below.setCell (Below.setCell (HB.out.trans (x1.h.mono (by have := Mm.out; omega))) (Nat.le_refl _) _) (Nat.le_refl _) _
   case measure => simp [intOf]; omega
  ·obtain rfl : k = 16 := by omega
   have HR := UZ (CP HX.out HY.out HZ.out HA.out)
   have fR := UZ kz.range
   have vD := UZ (show (Tryz.prog.info? 56).map (·.size) = some (aa z).length by rw [az, HZ.out]; kernel_rfl)
   have Bg := UZ (show (Tryz.prog.info? 56).map (·.size) = some (aa z).toArray.size by rw [List.size_toArray, az, HZ.out]; kernel_rfl)
   have FT := UZ (show (Va.toArray : Array Value).size = (aa z).toArray.size by rw [show (aa z).toArray.size = 32 by rw [List.size_toArray, az, HZ.out]]; rfl)
   have sZ := UZ (aj z)
   have KO := UZ ((HB.out.block _ TX).trans K2.out)
   go_wp2_with (first | (refine wpList_load_mid rfl _ _ rfl _ _ rfl (aa z) _ fR.out Tryz.underlying56 rfl vD.out ?_) | (refine wpList_store_row rfl 56 (.tmp 6) (.tmp 23) rfl (w.heap.size + 1 + 1) (aa z).toArray rfl rfl 56 _ KO.out Bg.out FT.out sZ.out ?_))
   refine bodyPost_ret (aX (P := Tryz.prog) Tryz.results63 _ _ (w.heap.size + 1 + 1) (aa z) _ rfl (aq (setRow_heap _ _ _ _ _ _ KO.out)) Tryz.underlying56 rfl vD.out) rfl ⟨?_, below_setRow (BV.out.trans (HB.out.mono TX)) TX _⟩
   rw [HR.out]
end
section
open Go.RowKit
theorem pG (l : List Int) : aK (aA l).1 ∧ aK (aA l).2 := by
 rcases wQ l with h | ⟨h, h1, h2⟩
 ·rw [h]; unfold aK; simp only; omega
 ·rw [h]
  have h3 : wK l ≤ wS l := by
   by_cases hl : l = []
   ·subst hl; decide
   ·exact Int.le_trans (He (lu hl)) (Hf (lu hl))
  unfold aK
  simp only
  omega
theorem FX (a n : Bool) : aK (eH a n).1 ∧ aK (eH a n).2 := by cases a <;> cases n <;> (unfold eH aK; simp)
theorem Cy {x y : Int × Int} (hx : aK x.1 ∧ aK x.2) (hy : aK y.1 ∧ aK y.2) : aK (aH x y).1 ∧ aK (aH x y).2 := by
 unfold aH aK at *
 split <;> simp only <;> omega
theorem GV {x y : Int} (h : aK x) : aK (x.tmod y) := by
 unfold aK at *
 have h1 := Int.natAbs_tmod x y
 have h2 : x.natAbs % y.natAbs ≤ x.natAbs := Nat.mod_le _ _
 by_cases h0 : 0 ≤ x
 ·have := Int.tmod_nonneg y h0
  omega
 ·have h3 : 0 ≤ (-x).tmod y := Int.tmod_nonneg y TX
  rw [Int.neg_tmod] at h3
  omega
theorem BO {a : Int} (h : aK a) (n : Nat) : aK (a / 2 ^ n) := by
 have h1 := vU a n
 unfold aK at *
 by_cases h2 : 0 ≤ a
 ·have := h1.1 h2; omega
 ·have := h1.2 TX; omega
theorem KJ (b : Bool) : aK (ku b) := by cases b <;> (unfold aK ku; simp)
theorem JU {c : Prop} [Decidable c] {a b : Int} (ha : aK a) (hb : aK b) : aK (if c then a else b) := by split <;> assumption
theorem Jz {op a b : Int} (ha : aK a) : aK (wv op a b) := by
 have z : aK 0 := by unfold aK; omega
 unfold wv
 repeat' (first | exact gA _ | exact AL _ _ _ | exact KJ _ | exact z | exact GV ha | exact BO ha _ | refine JU ?_ ?_)
theorem fq {op : Int} {x y : Int × Int} (hx : aK x.1 ∧ aK x.2) (hy : aK y.1 ∧ aK y.2) : aK (aM op x y).1 ∧ aK (aM op x y).2 := by
 have full : aK ((-2147483648, 2147483647) : Int × Int).1 ∧ aK ((-2147483648, 2147483647) : Int × Int).2 := by unfold aK; simp
 have em : aK ((1, 0) : Int × Int).1 ∧ aK ((1, 0) : Int × Int).2 := by unfold aK; simp
 unfold aM
 split
 ·exact full
 split
 ·exact em
 rename_i ne
 split
 ·split
  ·rename_i h
   exact ⟨Jz hx.1, Jz hx.1⟩
  ·exact em
 unfold gz
 split; exact pG _
 split; exact pG _
 split; exact pG _
 split
 ·unfold j5
  split; exact em
  split; exact full
  exact pG _
 split
 ·unfold eJ
  split
  ·exact em
  ·unfold aK qu at *
   simp only
   constructor <;> split <;> omega
 split
 ·unfold ni
  have ho : ∀ n : Int, aK n → 0 ≤ n → aK (eV n) := fun n h1 h2 => by
   have h3 := wG (n := n) (m := 2147483647) h1.2
   have h4 := CE h2 h1.2
   have h5 : eV 2147483647 = 2147483647 := by decide
   unfold aK at *
   omega
  have hm : aK (max x.2 y.2) := by unfold aK at *; omega
  split; · unfold aK at *; simp only; omega
  split; · unfold aK at *; simp only; omega
  split; · unfold aK at *; simp only; omega
  split
  ·refine ⟨by unfold aK at *; simp only; omega, ho _ hm TX⟩
  split; · unfold aK at *; simp only; omega
  split
  ·refine ⟨by unfold aK; simp, ho _ hm TX⟩
  exact full
 split
 ·unfold rZ
  split
  ·split
   ·exact pG _
   ·exact full
  ·split
   ·exact ⟨BO hx.1 _, BO hx.2 _⟩
   ·unfold aK at *
    simp only
    constructor <;> split <;> omega
 split
 ·unfold Dl
  (repeat' split) <;> exact FX _ _
 ·unfold CB
  split <;> exact FX _ _
theorem JY {i : bB} (hv : aL i = true) (h0 : 0 ≤ i.op) : aK i.aR ∧ aK (i.aR - 1) := by
 obtain ⟨k, hk⟩ := (dy h0).1 hv
 have h1 := hk.aR
 have h2 : ∀ k, k < 30 → -131072 ≤ ji k ∧ jk k ≤ 131071 := by decide
 have := h2 k hk.lt
 unfold aK
 omega
theorem gR {i : bB} {r r' : RG} (h0 : 0 ≤ i.op) (hr : R16 r) (h : bQ i r = some r') : R16 r' := by
 unfold bQ at h
 split at h
 ·rename_i hv
  obtain ⟨w1, w2⟩ := JY hv.1 h0
  have z : aK 0 := by unfold aK; omega
  split at h
  ·split at h
   ·cases h
   ·cases h
    exact hr.aO _ (fq (hr.at_ _) (hr.at_ _))
  split at h
  ·cases h; exact hr.aO _ ⟨w1, w1⟩
  split at h
  ·cases h; exact hr.aO _ (fq (hr.at_ _) ⟨w1, w1⟩)
  split at h
  ·cases h; exact hr.aO _ (fq (hr.at_ _) ⟨w1, w1⟩)
  split at h
  ·cases h; exact hr.aO _ (fq (hr.at_ _) ⟨w1, w1⟩)
  split at h
  ·cases h; exact hr.aO _ (by unfold uN aK; simp)
  split at h
  ·split at h
   ·cases h
   ·cases h; exact hr.aO _ (Cy (hr.at_ _) ⟨z, w2⟩)
  cases h
  exact hr
 ·cases h
theorem G5 {op : Int} {t : Bool} {x : Int × Int} (hx : aK x.1 ∧ aK x.2) : aK (iR op t x).1 ∧ aK (iR op t x).2 := by
 unfold iR
 split
 ·exact Cy hx (by unfold aK; simp)
 ·unfold dW aK at *
  (repeat' split) <;> first | omega | (simp only; omega)
theorem dF {i : bB} {r r' : RG} {t : Bool} (hr : R16 r) (h : cU i r t = some r') : R16 r' := by
 unfold cU at h
 split at h
 ·split at h
  ·split at h
   ·cases h
   ·cases h; exact hr.aO _ (G5 (hr.at_ _))
  split at h
  ·split at h
   ·cases h; exact hr
   ·cases h
  ·split at h
   ·cases h
   ·cases h; exact hr
 ·cases h
theorem k8 : ∀ {l : List bB} {r r' : RG}, (∀ i ∈ l, 0 ≤ i.op) → R16 r → dJ l r = some r' → R16 r'
 | [], r, r', _, hr, h => by cases h; exact hr
 | i :: l, r, r', ho, hr, h => by
  unfold dJ at h
  cases e : bQ i r with
  | none => rw [e] at h; cases h
  | some x =>
   rw [e] at h
   exact k8 (fun j hj => ho j (List.mem_cons_of_mem _ hj)) (gR (ho i (List.mem_cons_self ..)) hr e) h
theorem mo {last : bB} {m k : Nat} {r r' : RG} (hr : R16 r) (h : dL last m k r = some r') : R16 r' := by
 unfold dL at h
 split at h
 ·cases h; exact hr
 split at h
 ·exact dF hr h
 ·split at h
  ·exact dF hr h
  ·rename_i h1 _
   cases h
   exact dF hr h1
  ·rename_i h1 h2
   cases h
   exact (dF hr h1).join (dF hr h2)
theorem tJ {n : Nat} {last : bB} {nx : List Int} {bM : RG} (ha : R16 bM) (gy : ∀ t ∈ nx, 0 ≤ t ∧ t < n) {s : AS} (hs : vt n s) : ∀ k, k ≤ nx.length → vt n (fV last nx bM s k).1 ∧ ((fV last nx bM s k).2 = true → gL (fV last nx bM s k).1 n < gL s n) ∧ ((fV last nx bM s k).2 = false → (fV last nx bM s k).1 = s)
 | 0, _ => ⟨hs, (fun h => by cases h), fun _ => rfl⟩
 | k + 1, hk => by
  obtain ⟨h1, h2, h3⟩ := tJ ha gy hs k TX
  have ht : 0 ≤ nx.getD k 0 ∧ nx.getD k 0 < n := by
   have e : nx.getD k 0 = nx[k] := by simp [List.getD, List.getElem?_eq_getElem (show k < nx.length by omega)]
   rw [e]
   exact gy _ (List.getElem_mem _)
  obtain ⟨g1, g2, g3⟩ := jK h1 (t := (nx.getD k 0).toNat) TX (dL last nx.length k bM) (fun r hr => mo ha hr)
  unfold fV
  simp only
  refine ⟨g1, fun h => ?_, fun h => ?_⟩
  ·rw [Bool.or_eq_true] at h
   cases q1 : (fV last nx bM s k).2 <;> cases q2 : (dO (fV last nx bM s k).1 (nx.getD k 0).toNat (dL last nx.length k bM)).2
   ·rw [q1, q2] at h; simp at h
   ·have := g2 q2; rw [h3 q1] at this ⊢; exact this
   ·rw [g3 q2]; exact h2 q1
   ·have := g2 q2; have := h2 q1; omega
  ·rw [Bool.or_eq_false_iff] at h
   rw [g3 h.2, h3 h.1]
structure IZ (n : Nat) (b : AB) : Prop where
 op : ∀ i ∈ b.code, 0 ≤ i.op
 nx : ∀ t ∈ b.nx, 0 ≤ t ∧ t < n
theorem BA {n : Nat} {b : AB} (hb : IZ n b) {s : AS} (hs : vt n s) {k : Nat} (hk : k < n) : vt n (gJ b k s).1 ∧ ((gJ b k s).2 = true → gL (gJ b k s).1 n < gL s n) ∧ ((gJ b k s).2 = false → (gJ b k s).1 = s) := by
 unfold gJ
 split
 ·exact ⟨hs, (fun h => by cases h), fun _ => rfl⟩
 ·rename_i bM h
  exact tJ (k8 hb.op (hs.get hk) h) hb.nx hs _ (Nat.le_refl _)
theorem qY {n : Nat} {B : List AB} (hB : ∀ b ∈ B, IZ n b) (hl : B.length = n) {s : AS} (hs : vt n s) : ∀ k, k ≤ n → vt n (cK B s k).1 ∧ ((cK B s k).2 = true → gL (cK B s k).1 n < gL s n) ∧ ((cK B s k).2 = false → (cK B s k).1 = s)
 | 0, _ => ⟨hs, (fun h => by cases h), fun _ => rfl⟩
 | k + 1, hk => by
  obtain ⟨h1, h2, h3⟩ := qY hB hl hs k TX
  have e : B.getD k ⟨[], []⟩ = B[k]'TX := by simp [List.getD, List.getElem?_eq_getElem (show k < B.length by omega)]
  obtain ⟨g1, g2, g3⟩ := BA (hB _ (List.getElem_mem (show k < B.length by omega))) h1 (k := k) TX
  rw [← e] at g1 g2 g3
  unfold cK
  simp only
  split
  ·simp only
   refine ⟨g1, fun h => ?_, fun h => ?_⟩
   ·rw [Bool.or_eq_true] at h
    cases q1 : (cK B s k).2 <;> cases q2 : (gJ (B.getD k ⟨[], []⟩) k (cK B s k).1).2
    ·rw [q1, q2] at h; simp at h
    ·have := g2 q2; rw [h3 q1] at this ⊢; exact this
    ·rw [g3 q2]; exact h2 q1
    ·have := g2 q2; have := h2 q1; omega
   ·rw [Bool.or_eq_false_iff] at h
    rw [g3 h.2, h3 h.1]
  ·exact ⟨h1, h2, h3⟩
theorem vR (n : Nat) : vt n (cX n) := by
 refine ⟨by simp [cX], by simp [cX], by simp [cX], fun r hr => by rw [(List.mem_replicate.1 hr).2]; exact R16.zero, fun x hx => ?_⟩
 rw [(List.mem_replicate.1 hx).2]
 have hb : ∀ k, jm (cX n) k ≤ 70 := fun k => by
  unfold jm
  split
  ·exact Nat.le_refl _
  ·have h : jZ ((cX n).cJ.getD k []) ≤ 64 := by
    have := sw (r := (cX n).cJ.getD k [])
    have hl : ((cX n).cJ.getD k []).length ≤ 16 := by
     unfold cX
     simp only [List.getD]
     by_cases hk : k < n
     ·simp [hk, ak]
     ·simp [hk]
    omega
   omega
 have : ∀ m, ((List.range m).map (jm (cX n))).sum ≤ 70 * m := fun m => by
  induction m with
  | zero => simp
  | succ m ih =>
   simp only [List.range_succ, List.map_append, List.map_cons, List.map_nil, List.sum_append, List.sum_cons, List.sum_nil]
   have := hb m
   omega
 have := this n
 unfold gL
 omega
end
section
open Go.RowKit
def dZ (l : List bB) : List Value := l.flatMap fun i => [.int .u8 i.op, .int .i64 i.a, .int .i64 i.b, .int .i64 i.c, .int .i64 i.aR]
theorem eP : ∀ (l : List bB) (k j : Nat) (i : bB), l[k]? = some i → j < 5 → (dZ l)[k * 5 + j]? = [Value.int .u8 i.op, .int .i64 i.a, .int .i64 i.b, .int .i64 i.c, .int .i64 i.aR][j]?
 | y :: L, 0, j, x, h, hj => by
  simp at h; subst h
  unfold dZ
  rw [List.flatMap_cons, Nat.zero_mul, Nat.zero_add, List.getElem?_append_left (by simpa using hj)]
 | y :: L, k + 1, j, x, h, hj => by
  have h' : L[k]? = some x := by simpa using h
  have ih := eP L k j x h' hj
  unfold dZ at ih ⊢
  rw [List.flatMap_cons, List.getElem?_append_right T9, ← ih]
  simp only [List.length_cons, List.length_nil]
  congr 1
  omega
theorem qw (l : List bB) (i : bB) : dZ (l ++ [i]) = dZ l ++ [.int .u8 i.op, .int .i64 i.a, .int .i64 i.b, .int .i64 i.c, .int .i64 i.aR] := by simp [dZ]
def jY (L : List RG) : List Value := L.flatMap aa
theorem gT : ∀ {L : List RG}, (∀ r ∈ L, r.length = 16) → (jY L).length = L.length * 32
 | [], _ => rfl
 | r :: L, h => by
  have ih := gT (L := L) (fun x hx => h x (List.mem_cons_of_mem _ hx))
  have h1 := h r (List.mem_cons_self ..)
  unfold jY at ih ⊢
  rw [List.flatMap_cons, List.length_append, ih, az, h1, List.length_cons]
  omega
theorem jL : ∀ {L : List RG} {k : Nat} {r : RG}, (∀ r ∈ L, r.length = 16) → L[k]? = some r → ∀ j, j < 32 → (jY L)[k * 32 + j]? = (aa r)[j]?
 | y :: L, 0, r, h, hk, j, hj => by
  simp at hk; subst hk
  unfold jY
  rw [List.flatMap_cons, Nat.zero_mul, Nat.zero_add, List.getElem?_append_left (by rw [az, h y (List.mem_cons_self ..)]; omega)]
 | y :: L, k + 1, r, h, hk, j, hj => by
  have hk' : L[k]? = some r := by simpa using hk
  have ih := jL (fun x hx => h x (List.mem_cons_of_mem _ hx)) hk' j hj
  unfold jY at ih ⊢
  rw [List.flatMap_cons, List.getElem?_append_right (by rw [az, h y (List.mem_cons_self ..)]; omega), ← ih, az, h y (List.mem_cons_self ..)]
  congr 1
  omega
theorem BS {L : List RG} (h : ∀ r ∈ L, r.length = 16) {k : Nat} (hk : k < L.length) {r : RG} (hr : r.length = 16) :
  (jY L).take (k * 32) ++ aa r ++ (jY L).drop (k * 32 + 32) = jY (L.set k r) := by
 have hl := gT h
 have h' : ∀ x ∈ L.set k r, x.length = 16 := fun x hx => by rcases List.mem_or_eq_of_mem_set hx with h1 | rfl; exact h _ h1; exact hr
 have hl' := gT h'
 rw [List.length_set] at hl'
 have hc : (aa r).length = 32 := by rw [az, hr]
 apply List.ext_getElem?
 intro q
 by_cases hq : q < L.length * 32
 ·obtain ⟨a, b, hb, rfl⟩ : ∃ a b, b < 32 ∧ q = a * 32 + b := ⟨q / 32, q % 32, Nat.mod_lt _ TX, by omega⟩
  have ha : a < L.length := by omega
  by_cases e : a = k
  ·subst e
   rw [jL h' (r := r) (by simp [ha]) b hb, List.append_assoc, List.getElem?_append_right UK, List.length_take, Nat.min_eq_left TX, show a * 32 + b - a * 32 = b by omega, List.getElem?_append_left TX]
  ·rw [jL h' (r := L[a]) (by rw [List.getElem?_set]; simp [Ne.symm e, ha]) b hb, ← jL h (List.getElem?_eq_getElem ha) b hb]
   by_cases e2 : a < k
   ·rw [List.append_assoc, List.getElem?_append_left UK, List.getElem?_take, if_pos TX]
   ·rw [List.getElem?_append_right (by rw [List.length_append, List.length_take]; omega), List.length_append, List.length_take, hc, Nat.min_eq_left TX, List.getElem?_drop]
    congr 1
    omega
 ·rw [List.getElem?_eq_none (by rw [List.length_append, List.length_append, List.length_take, List.length_drop, hc]; omega), List.getElem?_eq_none TX]
structure An (V w : World) (ab cb rb ib pb : Nat) (bv pv : Value) (G : List ew) (B : List AB) (val : Nat → Value) (s : AS) : Prop where
 aB : Below V.heap.size V w
 Io : jH V bv G
 lG : G.length = B.length
 NU : ∀ (k : Nat) (x : ew) (b : AB), G[k]? = some x → B[k]? = some b → x.nx = b.nx
 lB : B.length ≤ 1000000
 aV : V.heap.size ≤ ab
 rV : V.heap.size ≤ rb
 iV : V.heap.size ≤ ib
 pV : V.heap.size ≤ pb
 head : w.heap[ab]? = some (.cells #[bv, pv, .slice (some ⟨cb, 0, none⟩) B.length B.length, .slice (some ⟨rb, 0, none⟩) B.length B.length, .slice (some ⟨ib, 0, none⟩) B.length B.length, .slice (some ⟨pb, 0, none⟩) B.length B.length] 84 (0, 0))
 jC : w.ownsRow V.heap.size 50 1 (.slice (some ⟨cb, 0, none⟩) B.length B.length) B.length ((List.range B.length).map val)
 own : ∀ (k : Nat) (b : AB), B[k]? = some b → w.ownsRow V.heap.size 64 5 (val k) b.code.length (dZ b.code)
 gv : w.heap[rb]? = some (.cells (s.reach.map Value.bool).toArray 4 (0, 0))
 ir : w.heap[ib]? = some (.cells (jY s.cJ).toArray 56 (0, 0))
 dD : w.heap[pb]? = some (.cells (s.rep.map (Value.int .i64)).toArray 3 (0, 0))
 ou : vt B.length s
section
variable {V w : World} {ab cb rb ib pb : Nat} {bv pv : Value} {G : List ew} {B : List AB} {val : Nat → Value} {s : AS}
theorem An.lt (h : An V w ab cb rb ib pb bv pv G B val s) : ab < w.heap.size ∧ cb < w.heap.size ∧ rb < w.heap.size ∧ ib < w.heap.size ∧ pb < w.heap.size :=
 ⟨ax h.head, (h.jC.lt cb rfl).2, ax h.gv, ax h.ir, ax h.dD⟩
theorem eU {w : World} {B : Nat} {e : TypeId} {z n q : Nat} {v : Value} {xs : List Value} (h : w.ownsRow B e z v n xs) (hq : v.ownBlock = some q) : ∃ cs, w.heap[q]? = some (.cells cs e (0, 0)) := by
 rcases h.2 with ⟨rfl, _⟩ | ⟨g, cap, cur, rfl, _, hg, _⟩
 ·cases hq
 ·cases hq; exact ⟨_, hg⟩
theorem bK {w : World} {q q' : Nat} {cs cs' : Array Value} {e e' : TypeId} (h : w.heap[q]? = some (.cells cs e (0, 0))) (h' : w.heap[q']? = some (.cells cs' e' (0, 0))) (hne : e ≠ e') : q ≠ q' := by
 rintro rfl
 rw [h] at h'
 cases h'
 exact hne rfl
theorem An.ne (h : An V w ab cb rb ib pb bv pv G B val s) : ab ≠ rb ∧ ab ≠ ib ∧ ab ≠ pb ∧ cb ≠ rb ∧ cb ≠ ib ∧ cb ≠ pb ∧ rb ≠ ib ∧ rb ≠ pb ∧ ib ≠ pb := by
 obtain ⟨cs, hc⟩ := eU h.jC (q := cb) rfl
 exact ⟨bK h.head h.gv T1, bK h.head h.ir T1, bK h.head h.dD T1, bK hc h.gv T1, bK hc h.ir T1, bK hc h.dD T1, bK h.gv h.ir T1, bK h.gv h.dD T1, bK h.ir h.dD T1⟩
def A6 (rb ib pb : Nat) : Nat → Prop := fun k => k = rb ∨ k = ib ∨ k = pb
theorem An.to {w' : World} {s' : AS} (h : An V w ab cb rb ib pb bv pv G B val s) (hf : Fr (A6 rb ib pb) w w')
  (hr : w'.heap[rb]? = some (.cells (s'.reach.map Value.bool).toArray 4 (0, 0))) (hi : w'.heap[ib]? = some (.cells (jY s'.cJ).toArray 56 (0, 0)))
  (hp : w'.heap[pb]? = some (.cells (s'.rep.map (Value.int .i64)).toArray 3 (0, 0))) (ha : vt B.length s') : An V w' ab cb rb ib pb bv pv G B val s' := by
 obtain ⟨n1, n2, n3, n4, n5, n6, _⟩ := h.ne
 have hS : ∀ k, A6 rb ib pb k → V.heap.size ≤ k := fun k hk => by
  have := h.rV; have := h.iV; have := h.pV
  rcases hk with rfl | rfl | rfl <;> assumption
 have hq : ∀ {e : TypeId} {z n : Nat} {v : Value} {xs : List Value}, w.ownsRow V.heap.size e z v n xs → e ≠ 4 → e ≠ 56 → e ≠ 3 → ∀ q, v.ownBlock = some q → ¬ A6 rb ib pb q := fun ho e1 e2 e3 q hq hk => by
  obtain ⟨cs, hc⟩ := eU ho hq
  rcases hk with rfl | rfl | rfl
  ·exact bK hc h.gv e1 rfl
  ·exact bK hc h.ir e2 rfl
  ·exact bK hc h.dD e3 rfl
 refine ⟨h.aB.trans (hf.below h.aB.size hS), h.Io, h.lG, h.NU, h.lB, h.aV, h.rV, h.iV, h.pV, ?_, ?_, fun k b hk => ?_, hr, hi, hp, ha⟩
 ·rw [hf.block ab h.lt.1 (by unfold A6; omega)]; exact h.head
 ·exact hf.own h.jC (hq h.jC T1 T1 T1)
 ·exact hf.own (h.own k b hk) (hq (h.own k b hk) T1 T1 T1)
theorem An.below {w' : World} (h : An V w ab cb rb ib pb bv pv G B val s) (hb : Below w.heap.size w w') : An V w' ab cb rb ib pb bv pv G B val s := by
 obtain ⟨l1, l2, l3, l4, l5⟩ := h.lt
 exact h.to (Fr.of hb) ((hb.block _ l3).trans h.gv) ((hb.block _ l4).trans h.ir) ((hb.block _ l5).trans h.dD) h.ou
theorem An.cells (h : An V w ab cb rb ib pb bv pv G B val s) : w.cell? ⟨ab, 0, none⟩ = some bv ∧ w.cell? ⟨ab, 2, none⟩ = some (.slice (some ⟨cb, 0, none⟩) B.length B.length) ∧ w.cell? ⟨ab, 3, none⟩ = some (.slice (some ⟨rb, 0, none⟩) B.length B.length) ∧ w.cell? ⟨ab, 4, none⟩ = some (.slice (some ⟨ib, 0, none⟩) B.length B.length) ∧ w.cell? ⟨ab, 5, none⟩ = some (.slice (some ⟨pb, 0, none⟩) B.length B.length) := by
 refine ⟨?_, ?_, ?_, ?_, ?_⟩ <;> simp [World.cell?, h.head]
theorem An.code (h : An V w ab cb rb ib pb bv pv G B val s) {k : Nat} {b : AB} (hk : B[k]? = some b) : w.cell? ⟨cb, k, none⟩ = some (val k) ∧ (val k = .slice none 0 0 ∧ b.code = [] ∨ ∃ q cap, val k = .slice (some ⟨q, 0, none⟩) b.code.length cap ∧ b.code.length ≤ cap ∧ cap ≤ maxLen ∧ q < w.heap.size ∧ ∀ j i, b.code[j]? = some i →
  w.cell? ⟨q, j * 5, none⟩ = some (.int .u8 i.op) ∧ w.cell? ⟨q, j * 5 + 1, none⟩ = some (.int .i64 i.a) ∧ w.cell? ⟨q, j * 5 + 2, none⟩ = some (.int .i64 i.b) ∧ w.cell? ⟨q, j * 5 + 3, none⟩ = some (.int .i64 i.c) ∧ w.cell? ⟨q, j * 5 + 4, none⟩ = some (.int .i64 i.aR)) := by
 have hlt := (List.getElem?_eq_some_iff.1 hk).1
 refine ⟨by rw [h.jC.cellAt _ TX, List.getElem?_map, List.getElem?_range hlt]; rfl, ?_⟩
 have ho := h.own k b hk
 rcases ho.2 with ⟨h1, h2⟩ | ⟨g, cap, cur, h1, h2, h3, h4, h5, h6, h7⟩
 ·exact .inl ⟨h1, List.length_eq_zero_iff.1 h2⟩
 ·refine .inr ⟨g, cap, h1, h4, h5, ax h3, fun j i hi => ?_⟩
  have hj := (List.getElem?_eq_some_iff.1 hi).1
  rw [h1] at ho
  refine ⟨?_, ?_, ?_, ?_, ?_⟩
  ·rw [ho.cellAt _ TX, show j * 5 = j * 5 + 0 by omega, eP _ _ _ _ hi TX]; rfl
  ·rw [ho.cellAt _ TX, eP _ _ _ _ hi TX]; rfl
  ·rw [ho.cellAt _ TX, eP _ _ _ _ hi TX]; rfl
  ·rw [ho.cellAt _ TX, eP _ _ _ _ hi TX]; rfl
  ·rw [ho.cellAt _ TX, eP _ _ _ _ hi TX]; rfl
theorem An.og (h : An V w ab cb rb ib pb bv pv G B val s) {t : Nat} (ht : t < B.length) : w.cell? ⟨rb, t, none⟩ = some (.bool (s.reach.getD t false)) ∧ w.frozen? ⟨rb, t, none⟩ = false := by
 have hl : t < s.reach.length := by rw [h.ou.l1]; exact ht
 constructor
 ·simp [World.cell?, h.gv, List.getD, List.getElem?_eq_getElem hl]
 ·simp [World.frozen?, h.gv]
theorem An.qQ (h : An V w ab cb rb ib pb bv pv G B val s) {t : Nat} (ht : t < B.length) : w.cell? ⟨pb, t, none⟩ = some (.int .i64 (s.rep.getD t 0)) ∧ w.frozen? ⟨pb, t, none⟩ = false := by
 have hl : t < s.rep.length := by rw [h.ou.l3]; exact ht
 constructor
 ·simp [World.cell?, h.dD, List.getD, List.getElem?_eq_getElem hl]
 ·simp [World.frozen?, h.dD]
theorem An.uw (h : An V w ab cb rb ib pb bv pv G B val s) : ∀ r ∈ s.cJ, r.length = 16 := fun r hr => (h.ou.r16 r hr).len
theorem zE {w : World} {q : Nat} {T : TypeId} {xs cs : List Value} {o : Nat} (h : w.heap[q]? = some (.cells xs.toArray T (0, 0))) (hc : ∀ j, j < cs.length → xs[o + j]? = cs[j]?) : w.rangeAt q o cs := fun j v hv => by
 have hj := (List.getElem?_eq_some_iff.1 hv).1
 have := hc j hj
 rw [hv] at this
 simp [World.cell?, h, this]
theorem An.lZ (h : An V w ab cb rb ib pb bv pv G B val s) {t : Nat} (ht : t < B.length) : w.rangeAt ib (t * 32) (aa (s.cJ.getD t [])) := by
 have hl : t < s.cJ.length := by rw [h.ou.l2]; exact ht
 have e : s.cJ.getD t [] = s.cJ[t] := by simp [List.getD, List.getElem?_eq_getElem hl]
 have h16 := h.uw _ (List.getElem_mem hl)
 refine zE h.ir (fun j hj => ?_)
 rw [e] at hj ⊢
 rw [az, h16] at hj
 exact jL h.uw (List.getElem?_eq_getElem hl) j hj
end
end
section
open Go.RowKit
theorem refine_no (op a b c im : Int) (h0 : 0 ≤ op) (r : RG) (hr : R16 r) (tk : Bool) (w : World) (T : fM w) (hno : aL ⟨op, a, b, c, im⟩ = false ∨ (aL ⟨op, a, b, c, im⟩ = true ∧ bk r = false)) :
  Calls Tryz.prog 15 #[.agg #[.int .u8 op, .int .i64 a, .int .i64 b, .int .i64 c, .int .i64 im], .agg (aa r).toArray, .bool tk] w fun e w' => e = .returned (cE none) ∧ Below w.heap.size w w' := by
 obtain ⟨V, hV, k0, k1, k2, bV, sV⟩ := aW w #[.int .u8 op, .int .i64 a, .int .i64 b, .int .i64 c, .int .i64 im] (aa r).toArray Va.toArray 64 56 56
 obtain ⟨a0, a1, a2, a3, a4, lV⟩ := aG k0
 have K1 := UZ (show aC V (w.heap.size + 1) 56 r from k1)
 have j8 := UZ (show (Tryz.prog.info? 56).map (·.size) = some (aa r).length by rw [az, hr.len]; kernel_rfl)
 have K2 := UZ k2
 have BV := UZ bV
 have dI := UZ (Calls.ext (cG ⟨op, a, b, c, im⟩ h0 V (T.below bV)))
 have jf := UZ (fun x : Ext V => Calls.au (x := x) (dX r hr.len x.w))
 clear k0 k1 k2 bV
 go_enter Tryz.func15, Tryz.ntmps15
 go_upto_region 1 with fail
 clear hV
 rcases hno with hv | ⟨hv, hp⟩
 ·rw [hv] at dI
  go_wp2_with (first | (go_at_call 32; refine dI.out.mono ?_; rintro e w' ⟨rfl, y, rfl⟩) | (refine wpList_store_row rfl 56 (.tmp 6) (.tmp 16) rfl (w.heap.size + 1 + 1) Va.toArray rfl rfl 56 _ (((Ext.h _).block _ sV).trans K2.out) TY rfl T2 ?_))
  refine bodyPost_ret (results_cell_tmp (P := Tryz.prog) Tryz.results15 _ _ (w.heap.size + 1 + 1) Va _ rfl (aq (setRow_heap _ _ _ _ _ _ ((y.h.block _ sV).trans K2.out))) Tryz.underlying56 rfl TY) rfl ⟨rfl, below_setRow (BV.out.trans (y.h.mono BV.out.size)) TX _⟩
 ·rw [hv] at dI
  rw [hp] at jf
  go_wp2_with (first | (go_at_call 32; refine dI.out.mono ?_; rintro e w' ⟨rfl, y, rfl⟩) | (go_at_call 33; refine (jf.out _).mono ?_; rintro e w' ⟨rfl, z, rfl⟩) | (refine aQ T8 _ _ rfl _ _ rfl (aa r) _ (K1.out.keep (Ext.h _)).range Tryz.underlying56 rfl j8.out ?_) | (refine wpList_store_row rfl 56 (.tmp 6) (.tmp 16) rfl (w.heap.size + 1 + 1) Va.toArray rfl rfl 56 _ (((Ext.h _).block _ sV).trans K2.out) TY rfl T2 ?_))
  refine bodyPost_ret (results_cell_tmp (P := Tryz.prog) Tryz.results15 _ _ (w.heap.size + 1 + 1) Va _ rfl (aq (setRow_heap _ _ _ _ _ _ ((z.h.block _ sV).trans K2.out))) Tryz.underlying56 rfl TY) rfl ⟨rfl, below_setRow (BV.out.trans (z.h.mono BV.out.size)) TX _⟩
theorem refine_rest (op : Int) (an bn cn : Nat) (im : Int) (ha : an < 16) (hop : (0 ≤ op ∧ op ≤ 21) ∨ (25 ≤ op ∧ op ≤ 29)) (r : RG) (hr : R16 r) (w : World) (T : fM w) (hv : aL ⟨op, an, bn, cn, im⟩ = true) (hp : bk r = true) :
  Calls Tryz.prog 15 #[.agg #[.int .u8 op, .int .i64 (an : Int), .int .i64 (bn : Int), .int .i64 (cn : Int), .int .i64 im], .agg (aa r).toArray, .bool false] w fun e w' => e = .returned (cE (some r)) ∧ Below w.heap.size w w' := by
 have h0 : 0 ≤ op := by omega
 have mF := UZ hop
 clear hop
 obtain ⟨V, hV, k0, k1, k2, bV, sV⟩ := aW w #[.int .u8 op, .int .i64 (an : Int), .int .i64 (bn : Int), .int .i64 (cn : Int), .int .i64 im] (aa r).toArray Va.toArray 64 56 56
 obtain ⟨a0, a1, a2, a3, a4, lV⟩ := aG k0
 have K1 := UZ (show aC V (w.heap.size + 1) 56 r from k1)
 have j8 := UZ (show (Tryz.prog.info? 56).map (·.size) = some (aa r).length by rw [az, hr.len]; kernel_rfl)
 have K2 := UZ k2
 have BV := UZ bV
 have dI := UZ (Calls.ext (cG ⟨op, an, bn, cn, im⟩ h0 V (T.below bV)))
 have jf := UZ (fun x : Ext V => Calls.au (x := x) (dX r hr.len x.w))
 clear k0 k1 k2 bV
 go_enter Tryz.func15, Tryz.ntmps15
 go_upto_region 1 with fail
 clear hV
 rw [hv] at dI
 rw [hp] at jf
 have HP := UZ hp
 clear hp hv
 have hop := mF.out
 clear mF
 have e1 : (op == 22) = false := by rw [beq_eq_false_iff_ne]; omega
 have e2 : (op == 23) = false := by rw [beq_eq_false_iff_ne]; omega
 have e3 : (op == 24) = false := by rw [beq_eq_false_iff_ne]; omega
 clear hop
 go_upto_region 16 with (first | (go_at_call 32; refine dI.out.mono ?_; rintro e w' ⟨rfl, y, rfl⟩) | (go_at_call 33; refine (jf.out _).mono ?_; rintro e w' ⟨rfl, z, rfl⟩) | (refine aQ T8 _ _ rfl _ _ rfl (aa r) _ (K1.out.keep (Ext.h _)).range Tryz.underlying56 rfl j8.out ?_))
 obtain ⟨r3, hr3⟩ : ∃ r3, r = r3 := ⟨_, rfl⟩
 have l3 : r3.length = 16 := by rw [← hr3]; exact hr.len
 have sY := UZ hr3
 obtain ⟨Z, hZ⟩ : ∃ Z, z.w = Z := ⟨_, rfl⟩
 have kZ : aC Z (w.heap.size + 1) 56 r3 := by rw [← hZ]; exact sY.out ▸ K1.out.keep z.h
 have CO : Z.heap[w.heap.size + 1 + 1]? = some (.cells Va.toArray 56 (0, 0)) := by rw [← hZ]; exact (z.h.block _ sV).trans K2.out
 have bZ : Below w.heap.size w Z := by rw [← hZ]; exact BV.out.trans (z.h.mono BV.out.size)
 rw [hZ]
 have fR := UZ kZ.range
 have DF := UZ CO
 have BZ := UZ bZ
 have vD := UZ (show (Tryz.prog.info? 56).map (·.size) = some (aa r3).length by rw [az, l3]; kernel_rfl)
 have Bg := UZ (show (Tryz.prog.info? 56).map (·.size) = some (aa r3).toArray.size by rw [List.size_toArray, az, l3]; kernel_rfl)
 have FT := UZ (show (Va.toArray : Array Value).size = (aa r3).toArray.size by rw [show (aa r3).toArray.size = 32 by rw [List.size_toArray, az, l3]]; rfl)
 have sZ := UZ (aj r3)
 clear hZ kZ CO bZ l3
 go_wp2_with (first | (refine wpList_load_mid rfl _ _ rfl _ _ rfl (aa r3) _ fR.out Tryz.underlying56 rfl vD.out ?_) | (refine wpList_store_row rfl 56 (.tmp 6) (.tmp 57) rfl (w.heap.size + 1 + 1) (aa r3).toArray rfl rfl 56 _ DF.out Bg.out FT.out sZ.out ?_))
 refine bodyPost_ret (results_cell_tmp (P := Tryz.prog) Tryz.results15 _ _ (w.heap.size + 1 + 1) (aa r3) _ rfl (aq (setRow_heap _ _ _ _ _ _ DF.out)) Tryz.underlying56 rfl vD.out) rfl ⟨?_, below_setRow BZ.out TX _⟩
 rw [sY.out]
 rfl
theorem refine_restT (op : Int) (an bn cn : Nat) (im : Int) (ha : an < 16) (hop : (0 ≤ op ∧ op ≤ 21) ∨ (25 ≤ op ∧ op ≤ 29)) (r : RG) (hr : R16 r) (w : World) (T : fM w) (hv : aL ⟨op, an, bn, cn, im⟩ = true) (hp : bk r = true) :
  Calls Tryz.prog 15 #[.agg #[.int .u8 op, .int .i64 (an : Int), .int .i64 (bn : Int), .int .i64 (cn : Int), .int .i64 im], .agg (aa r).toArray, .bool true] w fun e w' => e = .returned (cE (none)) ∧ Below w.heap.size w w' := by
 have h0 : 0 ≤ op := by omega
 have mF := UZ hop
 clear hop
 obtain ⟨V, hV, k0, k1, k2, bV, sV⟩ := aW w #[.int .u8 op, .int .i64 (an : Int), .int .i64 (bn : Int), .int .i64 (cn : Int), .int .i64 im] (aa r).toArray Va.toArray 64 56 56
 obtain ⟨a0, a1, a2, a3, a4, lV⟩ := aG k0
 have K1 := UZ (show aC V (w.heap.size + 1) 56 r from k1)
 have j8 := UZ (show (Tryz.prog.info? 56).map (·.size) = some (aa r).length by rw [az, hr.len]; kernel_rfl)
 have K2 := UZ k2
 have BV := UZ bV
 have dI := UZ (Calls.ext (cG ⟨op, an, bn, cn, im⟩ h0 V (T.below bV)))
 have jf := UZ (fun x : Ext V => Calls.au (x := x) (dX r hr.len x.w))
 clear k0 k1 k2 bV
 go_enter Tryz.func15, Tryz.ntmps15
 go_upto_region 1 with fail
 clear hV
 rw [hv] at dI
 rw [hp] at jf
 have HP := UZ hp
 clear hp hv
 have hop := mF.out
 clear mF
 have e1 : (op == 22) = false := by rw [beq_eq_false_iff_ne]; omega
 have e2 : (op == 23) = false := by rw [beq_eq_false_iff_ne]; omega
 have e3 : (op == 24) = false := by rw [beq_eq_false_iff_ne]; omega
 clear hop
 go_wp2_with (first | (go_at_call 32; refine dI.out.mono ?_; rintro e w' ⟨rfl, y, rfl⟩) | (go_at_call 33; refine (jf.out _).mono ?_; rintro e w' ⟨rfl, z, rfl⟩) | (refine aQ T8 _ _ rfl _ _ rfl (aa r) _ (K1.out.keep (Ext.h _)).range Tryz.underlying56 rfl j8.out ?_) | (refine wpList_store_row rfl 56 (.tmp 6) (.tmp 20) rfl (w.heap.size + 1 + 1) Va.toArray rfl rfl 56 _ (((Ext.h _).block _ sV).trans K2.out) TY rfl T2 ?_))
 refine bodyPost_ret (results_cell_tmp (P := Tryz.prog) Tryz.results15 _ _ (w.heap.size + 1 + 1) Va _ rfl (aq (setRow_heap _ _ _ _ _ _ ((z.h.block _ sV).trans K2.out))) Tryz.underlying56 rfl TY) rfl ⟨rfl, below_setRow (BV.out.trans (z.h.mono BV.out.size)) TX _⟩
theorem refine_jmp (op : Int) (an bn cn : Nat) (im : Int) (ha : an < 16) (hop : op = 24) (r : RG) (hr : R16 r) (w : World) (T : fM w) (hv : aL ⟨op, an, bn, cn, im⟩ = true) (hp : bk r = true) :
  Calls Tryz.prog 15 #[.agg #[.int .u8 op, .int .i64 (an : Int), .int .i64 (bn : Int), .int .i64 (cn : Int), .int .i64 im], .agg (aa r).toArray, .bool true] w fun e w' => e = .returned (cE (some r)) ∧ Below w.heap.size w w' := by
 have h0 : 0 ≤ op := by omega
 have mF := UZ hop
 clear hop
 obtain ⟨V, hV, k0, k1, k2, bV, sV⟩ := aW w #[.int .u8 op, .int .i64 (an : Int), .int .i64 (bn : Int), .int .i64 (cn : Int), .int .i64 im] (aa r).toArray Va.toArray 64 56 56
 obtain ⟨a0, a1, a2, a3, a4, lV⟩ := aG k0
 have K1 := UZ (show aC V (w.heap.size + 1) 56 r from k1)
 have j8 := UZ (show (Tryz.prog.info? 56).map (·.size) = some (aa r).length by rw [az, hr.len]; kernel_rfl)
 have K2 := UZ k2
 have BV := UZ bV
 have dI := UZ (Calls.ext (cG ⟨op, an, bn, cn, im⟩ h0 V (T.below bV)))
 have jf := UZ (fun x : Ext V => Calls.au (x := x) (dX r hr.len x.w))
 clear k0 k1 k2 bV
 go_enter Tryz.func15, Tryz.ntmps15
 go_upto_region 1 with fail
 clear hV
 rw [hv] at dI
 rw [hp] at jf
 have HP := UZ hp
 clear hp hv
 have hop := mF.out
 clear mF
 subst hop
 go_upto_region 16 with (first | (go_at_call 32; refine dI.out.mono ?_; rintro e w' ⟨rfl, y, rfl⟩) | (go_at_call 33; refine (jf.out _).mono ?_; rintro e w' ⟨rfl, z, rfl⟩) | (refine aQ T8 _ _ rfl _ _ rfl (aa r) _ (K1.out.keep (Ext.h _)).range Tryz.underlying56 rfl j8.out ?_))
 obtain ⟨r3, hr3⟩ : ∃ r3, r = r3 := ⟨_, rfl⟩
 have l3 : r3.length = 16 := by rw [← hr3]; exact hr.len
 have sY := UZ hr3
 obtain ⟨Z, hZ⟩ : ∃ Z, z.w = Z := ⟨_, rfl⟩
 have kZ : aC Z (w.heap.size + 1) 56 r3 := by rw [← hZ]; exact sY.out ▸ K1.out.keep z.h
 have CO : Z.heap[w.heap.size + 1 + 1]? = some (.cells Va.toArray 56 (0, 0)) := by rw [← hZ]; exact (z.h.block _ sV).trans K2.out
 have bZ : Below w.heap.size w Z := by rw [← hZ]; exact BV.out.trans (z.h.mono BV.out.size)
 rw [hZ]
 have fR := UZ kZ.range
 have DF := UZ CO
 have BZ := UZ bZ
 have vD := UZ (show (Tryz.prog.info? 56).map (·.size) = some (aa r3).length by rw [az, l3]; kernel_rfl)
 have Bg := UZ (show (Tryz.prog.info? 56).map (·.size) = some (aa r3).toArray.size by rw [List.size_toArray, az, l3]; kernel_rfl)
 have FT := UZ (show (Va.toArray : Array Value).size = (aa r3).toArray.size by rw [show (aa r3).toArray.size = 32 by rw [List.size_toArray, az, l3]]; rfl)
 have sZ := UZ (aj r3)
 clear hZ kZ CO bZ l3
 go_wp2_with (first | (refine wpList_load_mid rfl _ _ rfl _ _ rfl (aa r3) _ fR.out Tryz.underlying56 rfl vD.out ?_) | (refine wpList_store_row rfl 56 (.tmp 6) (.tmp 57) rfl (w.heap.size + 1 + 1) (aa r3).toArray rfl rfl 56 _ DF.out Bg.out FT.out sZ.out ?_))
 refine bodyPost_ret (results_cell_tmp (P := Tryz.prog) Tryz.results15 _ _ (w.heap.size + 1 + 1) (aa r3) _ rfl (aq (setRow_heap _ _ _ _ _ _ DF.out)) Tryz.underlying56 rfl vD.out) rfl ⟨?_, below_setRow BZ.out TX _⟩
 rw [sY.out]
 rfl
theorem refine_jmpF (op : Int) (an bn cn : Nat) (im : Int) (ha : an < 16) (hop : op = 24) (r : RG) (hr : R16 r) (w : World) (T : fM w) (hv : aL ⟨op, an, bn, cn, im⟩ = true) (hp : bk r = true) :
  Calls Tryz.prog 15 #[.agg #[.int .u8 op, .int .i64 (an : Int), .int .i64 (bn : Int), .int .i64 (cn : Int), .int .i64 im], .agg (aa r).toArray, .bool false] w fun e w' => e = .returned (cE (none)) ∧ Below w.heap.size w w' := by
 have h0 : 0 ≤ op := by omega
 have mF := UZ hop
 clear hop
 obtain ⟨V, hV, k0, k1, k2, bV, sV⟩ := aW w #[.int .u8 op, .int .i64 (an : Int), .int .i64 (bn : Int), .int .i64 (cn : Int), .int .i64 im] (aa r).toArray Va.toArray 64 56 56
 obtain ⟨a0, a1, a2, a3, a4, lV⟩ := aG k0
 have K1 := UZ (show aC V (w.heap.size + 1) 56 r from k1)
 have j8 := UZ (show (Tryz.prog.info? 56).map (·.size) = some (aa r).length by rw [az, hr.len]; kernel_rfl)
 have K2 := UZ k2
 have BV := UZ bV
 have dI := UZ (Calls.ext (cG ⟨op, an, bn, cn, im⟩ h0 V (T.below bV)))
 have jf := UZ (fun x : Ext V => Calls.au (x := x) (dX r hr.len x.w))
 clear k0 k1 k2 bV
 go_enter Tryz.func15, Tryz.ntmps15
 go_upto_region 1 with fail
 clear hV
 rw [hv] at dI
 rw [hp] at jf
 have HP := UZ hp
 clear hp hv
 have hop := mF.out
 clear mF
 subst hop
 go_wp2_with (first | (go_at_call 32; refine dI.out.mono ?_; rintro e w' ⟨rfl, y, rfl⟩) | (go_at_call 33; refine (jf.out _).mono ?_; rintro e w' ⟨rfl, z, rfl⟩) | (refine aQ T8 _ _ rfl _ _ rfl (aa r) _ (K1.out.keep (Ext.h _)).range Tryz.underlying56 rfl j8.out ?_) | (refine wpList_store_row rfl 56 (.tmp 6) (.tmp 51) rfl (w.heap.size + 1 + 1) Va.toArray rfl rfl 56 _ (((Ext.h _).block _ sV).trans K2.out) TY rfl T2 ?_) | (refine wpList_store_row rfl 56 (.tmp 6) (.tmp 56) rfl (w.heap.size + 1 + 1) Va.toArray rfl rfl 56 _ (((Ext.h _).block _ sV).trans K2.out) TY rfl T2 ?_))
 refine bodyPost_ret (results_cell_tmp (P := Tryz.prog) Tryz.results15 _ _ (w.heap.size + 1 + 1) Va _ rfl (aq (setRow_heap _ _ _ _ _ _ ((z.h.block _ sV).trans K2.out))) Tryz.underlying56 rfl TY) rfl ⟨rfl, below_setRow (BV.out.trans (z.h.mono BV.out.size)) TX _⟩
theorem Ez : ∀ k, k < 30 → (cQ k).Bc ≤ 15 ∧ (cQ k).Bb ≤ 15 ∧ (cQ k).Ba ≤ 15 ∧ -131072 ≤ ji k ∧ jk k ≤ 131071 := by decide
def Ma (op : Int) (tk : Bool) (r : RG) (a : Int) : Option RG := if emp (iR op tk (rg r a)) = true then none else some (aO r a (iR op tk (rg r a)))
theorem G0 {op : Int} {tk : Bool} {r : RG} (hl : r.length = 16) (h0 : rg r 0 = (0, 0)) {an : Nat} {x : Int × Int} (hx : iR op tk (rg r (an : Int)) = x) (he : ¬ emp x = true) : r.set an x = aO r (an : Int) x := by
 unfold aO
 by_cases ha : an = 0
 ·subst ha
  rw [if_pos (show ((0 : Nat) : Int) = 0 from rfl)]
  rw [show ((0 : Nat) : Int) = 0 from rfl, h0] at hx
  have : x = (0, 0) := by
   unfold iR at hx
   split at hx
   ·rw [← hx]; decide
   ·exfalso
    apply he
    rw [← hx]
    decide
  rw [this]
  exact qO hl h0
 ·rw [if_neg TX]
  simp
theorem G3 {r : RG} {an : Nat} {x : Int × Int} (h : an < r.length) : rg (r.set an x) (an : Int) = x := by
 rw [fZ]
 simp [List.getD, h]
theorem refine_br (op : Int) (an bn cn : Nat) (im : Int) (ha : an < 16) (hop : op = 22 ∨ op = 23) (r : RG) (hr : R16 r) (tk : Bool) (w : World) (T : fM w) (hv : aL ⟨op, an, bn, cn, im⟩ = true) (hp : bk r = true) :
  Calls Tryz.prog 15 #[.agg #[.int .u8 op, .int .i64 (an : Int), .int .i64 (bn : Int), .int .i64 (cn : Int), .int .i64 im], .agg (aa r).toArray, .bool tk] w fun e w' => e = .returned (cE (Ma op tk r (an : Int))) ∧ Below w.heap.size w w' := by
 have h0 : 0 ≤ op := by omega
 have mF := UZ hop
 clear hop
 obtain ⟨V, hV, k0, k1, k2, bV, sV⟩ := aW w #[.int .u8 op, .int .i64 (an : Int), .int .i64 (bn : Int), .int .i64 (cn : Int), .int .i64 im] (aa r).toArray Va.toArray 64 56 56
 obtain ⟨a0, a1, a2, a3, a4, lV⟩ := aG k0
 have K1 := UZ (show aC V (w.heap.size + 1) 56 r from k1)
 have j8 := UZ (show (Tryz.prog.info? 56).map (·.size) = some (aa r).length by rw [az, hr.len]; kernel_rfl)
 have K2 := UZ k2
 have BV := UZ bV
 have dI := UZ (Calls.ext (cG ⟨op, an, bn, cn, im⟩ h0 V (T.below bV)))
 have jf := UZ (fun x : Ext V => Calls.au (x := x) (dX r hr.len x.w))
 clear k0 k1 k2 bV
 go_enter Tryz.func15, Tryz.ntmps15
 go_upto_region 1 with fail
 clear hV
 rw [hv] at dI
 rw [hp] at jf
 have HP := UZ hp
 clear hp hv
 have hop := mF.out
 clear mF
 obtain ⟨O, hO⟩ : ∃ O, Ma op tk r (an : Int) = O := ⟨_, rfl⟩
 have HO := UZ hO
 have Bf := UZ (show ∀ x, iR op tk (rg r (an : Int)) = x → (emp x = true → O = none) ∧ (¬ emp x = true → O = some (r.set an x)) from fun x hx => ⟨fun h => by rw [← hO]; unfold Ma; rw [hx, if_pos h], fun h => by rw [← hO]; unfold Ma; rw [hx, if_neg h, G0 hr.len (ju HP.out) hx h]⟩)
 clear hO
 obtain ⟨al, hal⟩ : ∃ al, (rg r (an : Int)).1 = al := ⟨_, rfl⟩
 obtain ⟨ah, wU⟩ : ∃ ah, (rg r (an : Int)).2 = ah := ⟨_, rfl⟩
 have r4 : V.cell? ⟨w.heap.size + 1, an * 2, none⟩ = some (.int .i32 al) := by rw [← hal]; exact K1.out.lo Ud
 have r5 : V.cell? ⟨w.heap.size + 1, an * 2 + 1, none⟩ = some (.int .i32 ah) := by rw [← wU]; exact K1.out.hi Ud
 have rf0 : V.frozen? ⟨w.heap.size + 1, an * 2, none⟩ = false := K1.out.fz _
 have rf1 : V.frozen? ⟨w.heap.size + 1, an * 2 + 1, none⟩ = false := K1.out.fz _
 have ow := UZ (show rg r (an : Int) = (al, ah) from Prod.ext hal wU)
 have ia : (an : Int) < 16 := by omega
 have lR : w.heap.size + 1 < V.heap.size := by omega
 clear hal wU
 have hc : ((op = 22 ∧ tk = true) ∨ (op = 23 ∧ tk = false)) ∨ (op = 22 ∧ tk = false) ∨ (op = 23 ∧ tk = true) := by rcases hop with h | h <;> cases tk <;> simp [h]
 clear hop
 rcases hc with hc | hc
 focus
  obtain ⟨xa, xb, hx⟩ : ∃ xa xb, aH (al, ah) (0, 0) = (xa, xb) := ⟨_, _, rfl⟩
  have hf := fun w => lH al ah 0 0 w
  rw [hx] at hf
  have HF := UZ hf
  have HX := UZ (show iR op tk (rg r (an : Int)) = (xa, xb) by rw [ow.out]; unfold iR; rw [if_pos (by rcases hc with ⟨rfl, rfl⟩ | ⟨rfl, rfl⟩ <;> decide)]; exact hx)
  clear hf hx
  rcases hc with ⟨rfl, rfl⟩ | ⟨rfl, rfl⟩
  all_goals
   go_upto_region 9 with (first | (go_at_call 32; refine dI.out.mono ?_; rintro e w' ⟨rfl, y, rfl⟩) | (go_at_call 33; refine (jf.out _).mono ?_; rintro e w' ⟨rfl, z, rfl⟩) | (refine aQ T8 _ _ rfl _ _ rfl (aa r) _ (K1.out.keep (Ext.h _)).range Tryz.underlying56 rfl j8.out ?_))
   refine aT 9 TY TY ?_
   simp only [U8, List.take_zero, U9, List.drop_zero]
   repeat (go_big_quiet_step (first | (go_at_call 34; exact Calls.au (cy 0 _)) | (go_at_call 38; exact Calls.au (HF.out _))))
   refine wpQuiet_nil ?_
   rintro _ ⟨x1, rfl⟩
   go_upto_region 11 with fail
 rotate_left 2
 focus
  obtain ⟨xa, xb, hx⟩ : ∃ xa xb, dW (al, ah) = (xa, xb) := ⟨_, _, rfl⟩
  have hf := fun w => tH al ah w
  rw [hx] at hf
  have HF := UZ hf
  have HX := UZ (show iR op tk (rg r (an : Int)) = (xa, xb) by rw [ow.out]; unfold iR; rw [if_neg (by rcases hc with ⟨rfl, rfl⟩ | ⟨rfl, rfl⟩ <;> decide)]; exact hx)
  clear hf hx
  rcases hc with ⟨rfl, rfl⟩ | ⟨rfl, rfl⟩
  all_goals
   go_upto_region 10 with (first | (go_at_call 32; refine dI.out.mono ?_; rintro e w' ⟨rfl, y, rfl⟩) | (go_at_call 33; refine (jf.out _).mono ?_; rintro e w' ⟨rfl, z, rfl⟩) | (refine aQ T8 _ _ rfl _ _ rfl (aa r) _ (K1.out.keep (Ext.h _)).range Tryz.underlying56 rfl j8.out ?_))
   refine aT 8 TY TY ?_
   simp only [U8, List.take_zero, U9, List.drop_zero]
   repeat (go_big_quiet_step (first | (go_at_call 48; exact Calls.au (HF.out _))))
   refine wpQuiet_nil ?_
   rintro _ ⟨x1, rfl⟩
   go_upto_region 11 with fail
 all_goals
  obtain ⟨Y, hY⟩ : ∃ Y, (x1.w.setCell ⟨w.heap.size + 1, an * 2, none⟩ (.int .i32 xa)).setCell ⟨w.heap.size + 1, an * 2 + 1, none⟩ (.int .i32 xb) = Y := ⟨_, rfl⟩
  obtain ⟨r3, hr3⟩ : ∃ r3, r.set an (xa, xb) = r3 := ⟨_, rfl⟩
  have l3 : r3.length = 16 := by rw [← hr3, List.length_set]; exact hr.len
  have kY : aC Y (w.heap.size + 1) 56 r3 := by rw [← hY, ← hr3]; exact (K1.out.keep x1.h).set an (xa, xb)
  have kO : Y.heap[w.heap.size + 1 + 1]? = some (.cells Va.toArray 56 (0, 0)) := by
   rw [← hY, Below.heap_setCell _ _ _ _ Uk, Below.heap_setCell _ _ _ _ Uk]
   exact (x1.h.block _ sV).trans K2.out
  have bY : Below w.heap.size w Y := by rw [← hY]; exact Below.setCell (Below.setCell (BV.out.trans (x1.h.mono BV.out.size)) Uo _) Uo _
  have kI : Y.cell? ⟨w.heap.size, 1, none⟩ = some (.int .i64 (an : Int)) := by
   rw [← hY, World.cell?_of_block (Below.heap_setCell _ _ _ _ (by show w.heap.size ≠ w.heap.size + 1; omega)), World.cell?_of_block (Below.heap_setCell _ _ _ _ (by show w.heap.size ≠ w.heap.size + 1; omega)), x1.h.cell (p := ⟨w.heap.size, 1, none⟩) lV]
   exact a1
  rw [hY]
  have lY : w.heap.size + 1 < Y.heap.size := kY.lt
  have Ts : w.heap.size < Y.heap.size := by omega
  have JR : w.heap.size + 1 + 1 < Y.heap.size := (Array.getElem?_eq_some_iff.1 kO).1
  have Ag : rg r3 (an : Int) = (xa, xb) := by rw [← hr3]; exact G3 Ud
  have z0 : Y.cell? ⟨w.heap.size + 1, an * 2, none⟩ = some (.int .i32 xa) := by have h := kY.lo (k := an) (by rw [l3]; exact ha); rw [Ag] at h; exact h
  have z1 : Y.cell? ⟨w.heap.size + 1, an * 2 + 1, none⟩ = some (.int .i32 xb) := by have h := kY.hi (k := an) (by rw [l3]; exact ha); rw [Ag] at h; exact h
  have KY := UZ kY
  have KO := UZ kO
  have BY := UZ bY
  have sY := UZ hr3
  have rQ := UZ (Calls.ext (af xa xb Y))
  clear hY kY kO bY hr3 Ag r4 r5 rf0 rf1 a0 a1 a2 a3 a4
  by_cases he : xb < xa
  ·have d := decide_eq_true he
   have rR := UZ (show emp (xa, xb) = true by unfold emp; simpa using he)
   clear he
   go_wp2_with (first | (go_at_call 39; refine rQ.out.mono ?_; rintro e w' ⟨rfl, y5, rfl⟩) | (refine wpList_store_row rfl 56 (.tmp 6) (.tmp 51) rfl (w.heap.size + 1 + 1) Va.toArray rfl rfl 56 _ (((Ext.h _).block _ JR).trans KO.out) TY rfl T2 ?_))
   refine bodyPost_ret (results_cell_tmp (P := Tryz.prog) Tryz.results15 _ _ (w.heap.size + 1 + 1) Va _ rfl (aq (setRow_heap _ _ _ _ _ _ ((y5.h.block _ JR).trans KO.out))) Tryz.underlying56 rfl TY) rfl ⟨?_, below_setRow (BY.out.trans (y5.h.mono BY.out.size)) TX _⟩
   rw [HO.out, (Bf.out _ HX.out).1 rR.out]
   rfl
  ·have d := decide_eq_false he
   have rR := UZ (show ¬ emp (xa, xb) = true by unfold emp; simpa using he)
   clear he
   go_upto_region 16 with (go_at_call 39; refine rQ.out.mono ?_; rintro e w' ⟨rfl, y5, rfl⟩)
   obtain ⟨Z, hZ⟩ : ∃ Z, y5.w = Z := ⟨_, rfl⟩
   have kZ : aC Z (w.heap.size + 1) 56 r3 := by rw [← hZ]; exact KY.out.keep y5.h
   have CO : Z.heap[w.heap.size + 1 + 1]? = some (.cells Va.toArray 56 (0, 0)) := by rw [← hZ]; exact (y5.h.block _ JR).trans KO.out
   have bZ : Below w.heap.size w Z := by rw [← hZ]; exact BY.out.trans (y5.h.mono BY.out.size)
   rw [hZ]
   have fR := UZ kZ.range
   have DF := UZ CO
   have BZ := UZ bZ
   have vD := UZ (show (Tryz.prog.info? 56).map (·.size) = some (aa r3).length by rw [az, l3]; kernel_rfl)
   have Bg := UZ (show (Tryz.prog.info? 56).map (·.size) = some (aa r3).toArray.size by rw [List.size_toArray, az, l3]; kernel_rfl)
   have FT := UZ (show (Va.toArray : Array Value).size = (aa r3).toArray.size by rw [show (aa r3).toArray.size = 32 by rw [List.size_toArray, az, l3]]; rfl)
   have sZ := UZ (aj r3)
   clear hZ kZ CO bZ l3 z0 z1
   go_wp2_with (first | (refine wpList_load_mid rfl _ _ rfl _ _ rfl (aa r3) _ fR.out Tryz.underlying56 rfl vD.out ?_) | (refine wpList_store_row rfl 56 (.tmp 6) (.tmp 57) rfl (w.heap.size + 1 + 1) (aa r3).toArray rfl rfl 56 _ DF.out Bg.out FT.out sZ.out ?_))
   refine bodyPost_ret (results_cell_tmp (P := Tryz.prog) Tryz.results15 _ _ (w.heap.size + 1 + 1) (aa r3) _ rfl (aq (setRow_heap _ _ _ _ _ _ DF.out)) Tryz.underlying56 rfl vD.out) rfl ⟨?_, below_setRow BZ.out TX _⟩
   rw [HO.out, (Bf.out _ HX.out).2 rR.out, sY.out]
   rfl
theorem refine_any (op a b c im : Int) (h0 : 0 ≤ op) (r : RG) (hr : R16 r) (tk : Bool) (w : World) (T : fM w) :
  Calls Tryz.prog 15 #[.agg #[.int .u8 op, .int .i64 a, .int .i64 b, .int .i64 c, .int .i64 im], .agg (aa r).toArray, .bool tk] w fun e w' => e = .returned (cE (cU ⟨op, a, b, c, im⟩ r tk)) ∧ Below w.heap.size w w' := by
 by_cases hvp : aL ⟨op, a, b, c, im⟩ = true ∧ bk r = true
 case neg =>
  refine (refine_no op a b c im h0 r hr tk w T (by
   cases h1 : aL ⟨op, a, b, c, im⟩ <;> cases h2 : bk r <;> simp_all)).mono fun e w' ⟨q, hb⟩ => ⟨q.trans ?_, hb⟩
  unfold cU
  rw [if_neg hvp]
 obtain ⟨hv, hp⟩ := hvp
 obtain ⟨k, g1, g2, ⟨a1, a2⟩, ⟨b1, b2⟩, ⟨c1, c2⟩, i1, i2⟩ := (dy (i := ⟨op, a, b, c, im⟩) h0).1 hv
 obtain ⟨s1, s2, s3, s4, s5⟩ := Ez k g2
 simp only at g1 a1 a2 b1 b2 c1 c2 i1 i2
 obtain ⟨an, rfl⟩ : ∃ n : Nat, a = (n : Int) := ⟨a.toNat, by omega⟩
 obtain ⟨bn, rfl⟩ : ∃ n : Nat, b = (n : Int) := ⟨b.toNat, by omega⟩
 obtain ⟨cn, rfl⟩ : ∃ n : Nat, c = (n : Int) := ⟨c.toNat, by omega⟩
 have ha : an < 16 := by omega
 have hT : ∀ o : Option RG, cU ⟨op, an, bn, cn, im⟩ r tk = o → (∀ e w', (e = Ending.returned (cE o) ∧ Below w.heap.size w w') → (e = .returned (cE (cU ⟨op, an, bn, cn, im⟩ r tk)) ∧ Below w.heap.size w w')) := fun o h e w' ⟨q, hb⟩ => ⟨by rw [h]; exact q, hb⟩
 have hO : op = 22 ∨ op = 23 ∨ op = 24 ∨ ((0 ≤ op ∧ op ≤ 21) ∨ (25 ≤ op ∧ op ≤ 29)) := by omega
 rcases hO with rfl | rfl | rfl | h
 ·cases tk
  ·exact (refine_br 22 an bn cn im ha (.inl rfl) r hr false w T hv hp).mono (hT _ (by unfold cU; rw [if_pos ⟨hv, hp⟩, if_pos (.inl rfl)]; rfl))
  ·exact (refine_br 22 an bn cn im ha (.inl rfl) r hr true w T hv hp).mono (hT _ (by unfold cU; rw [if_pos ⟨hv, hp⟩, if_pos (.inl rfl)]; rfl))
 ·cases tk
  ·exact (refine_br 23 an bn cn im ha (.inr rfl) r hr false w T hv hp).mono (hT _ (by unfold cU; rw [if_pos ⟨hv, hp⟩, if_pos (.inr rfl)]; rfl))
  ·exact (refine_br 23 an bn cn im ha (.inr rfl) r hr true w T hv hp).mono (hT _ (by unfold cU; rw [if_pos ⟨hv, hp⟩, if_pos (.inr rfl)]; rfl))
 ·cases tk
  ·exact (refine_jmpF 24 an bn cn im ha rfl r hr w T hv hp).mono (hT _ (by unfold cU; rw [if_pos ⟨hv, hp⟩, if_neg T4, if_pos rfl, if_neg T1]))
  ·exact (refine_jmp 24 an bn cn im ha rfl r hr w T hv hp).mono (hT _ (by unfold cU; rw [if_pos ⟨hv, hp⟩, if_neg T4, if_pos rfl, if_pos rfl]))
 ·cases tk
  ·exact (refine_rest op an bn cn im ha h r hr w T hv hp).mono (hT _ (by unfold cU; rw [if_pos ⟨hv, hp⟩, if_neg Us, if_neg Us, if_neg T1]))
  ·exact (refine_restT op an bn cn im ha h r hr w T hv hp).mono (hT _ (by unfold cU; rw [if_pos ⟨hv, hp⟩, if_neg Us, if_neg Us, if_pos rfl]))
end
section
open Go.RowKit
def Dt (r : RG) (a im : Int) : Option RG := if emp (aH (rg r a) (0, im - 1)) = true then none else some (aO r a (aH (rg r a) (0, im - 1)))
theorem ym {W0 wx : World} {g : Nat} {a b : Value} (k : bI W0 wx) (h1 : wx.cell? ⟨g, 0, none⟩ = some a) (h2 : wx.cell? ⟨g, 1, none⟩ = some b) (h5 : g < wx.heap.size) :
  ∃ (g' : Nat) (v : Ext W0), Value.pointer (some ⟨g, 0, none⟩) = .pointer (some ⟨g', 0, none⟩) ∧ wx = v.w ∧ v.w.cell? ⟨g', 0, none⟩ = some a ∧ v.w.cell? ⟨g', 1, none⟩ = some b ∧ g' < v.w.heap.size := ⟨g, ⟨wx, k⟩, rfl, rfl, h1, h2, h5⟩
theorem nj (k bl bh cl ch : Int) (hb : aK bl ∧ aK bh) (hc : aK cl ∧ aK ch) : ∃ xa xb, aM k (bl, bh) (cl, ch) = (xa, xb) ∧ ∀ w, Calls Tryz.prog 35 #[.int .u8 k, .agg #[.int .i32 bl, .int .i32 bh], .agg #[.int .i32 cl, .int .i32 ch]] w fun e w' => e = .returned (.agg #[.int .i32 xa, .int .i32 xb]) ∧ Below w.heap.size w w' :=
 ⟨_, _, rfl, fun w => nk k bl bh cl ch w hb.1.1 hb.1.2 hb.2.1 hb.2.2 hc.1.1 hc.1.2 hc.2.1 hc.2.2⟩
theorem rX (op : Int) (an bn cn : Nat) (im : Int) (ha : an < 16) (hb : bn < 16) (hc : cn < 16) (Ec : -131072 ≤ im ∧ im ≤ 131071) (h0 : 0 ≤ op) (h30 : op < 30) (r : RG) (hr : R16 r) (w : World) (T : fM w) (hv : aL ⟨op, an, bn, cn, im⟩ = true) (hp : bk r = true) :
  Calls Tryz.prog 12 #[.agg #[.int .u8 op, .int .i64 (an : Int), .int .i64 (bn : Int), .int .i64 (cn : Int), .int .i64 im], .agg (aa r).toArray] w fun e w' => e = .returned (cE (bQ ⟨op, an, bn, cn, im⟩ r)) ∧ Below w.heap.size w w' := by
 have Lb := UZ (fun (o1 : 2 ≤ op ∧ op ≤ 13) (hz : (op = 5 ∨ op = 6) ∧ rg r (cn : Int) = (0, 0)) => show bQ ⟨op, an, bn, cn, im⟩ r = none by unfold bQ; rw [if_pos ⟨hv, hp⟩, if_pos o1, if_pos hz])
 have GI := UZ (fun (o1 : 2 ≤ op ∧ op ≤ 13) (hz : ¬ ((op = 5 ∨ op = 6) ∧ rg r (cn : Int) = (0, 0))) => show bQ ⟨op, an, bn, cn, im⟩ r = some (aO r (an : Int) (aM (nM op) (rg r (bn : Int)) (rg r (cn : Int)))) by unfold bQ; rw [if_pos ⟨hv, hp⟩, if_pos o1, if_neg hz])
 have vp := UZ (fun (o1 : ¬ (2 ≤ op ∧ op ≤ 13)) => show bQ ⟨op, an, bn, cn, im⟩ r = (if op = 14 then some (aO r an (im, im)) else if op = 15 then some (aO r an (aM 6 (rg r bn) (im, im))) else if op = 16 then some (aO r an (aM 14 (rg r bn) (im, im)))
   else if op = 17 then some (aO r an (aM 12 (rg r bn) (im, im))) else if op = 18 ∨ op = 20 ∨ op = 26 then some (aO r an uN) else if op = 25 then Dt r an im else some r) by
  unfold bQ Dt
  rw [if_pos ⟨hv, hp⟩, if_neg o1])
 obtain ⟨O, hO⟩ : ∃ O, bQ ⟨op, an, bn, cn, im⟩ r = O := ⟨_, rfl⟩
 rw [hO] at Lb GI vp ⊢
 clear hO
 obtain ⟨V, hV, k0, k1, k2, bV, sV⟩ := aW w #[.int .u8 op, .int .i64 (an : Int), .int .i64 (bn : Int), .int .i64 (cn : Int), .int .i64 im] (aa r).toArray Va.toArray 64 56 56
 obtain ⟨a0, a1, a2, a3, a4, lV⟩ := aG k0
 have K1 := UZ (show aC V (w.heap.size + 1) 56 r from k1)
 have j8 := UZ (show (Tryz.prog.info? 56).map (·.size) = some (aa r).length by rw [az, hr.len]; kernel_rfl)
 have K2 := UZ k2
 have BV := UZ bV
 have dI := UZ (Calls.ext (cG ⟨op, an, bn, cn, im⟩ h0 V (T.below bV)))
 have jf := UZ (fun x : Ext V => Calls.au (x := x) (dX r hr.len x.w))
 clear k0 k1 k2 bV
 go_enter Tryz.func12, Tryz.ntmps12
 go_upto_region 1 with fail
 clear hV
 rw [hv] at dI
 rw [hp] at jf
 have MH : IntKind.i32.wrap im = im := IntWalk.i32_in _ TX
 go_upto_region 4 with (first | (go_at_call 32; refine dI.out.mono ?_; rintro e w' ⟨rfl, y, rfl⟩) | (go_at_call 33; refine (jf.out _).mono ?_; rintro e w' ⟨rfl, z, rfl⟩) | (refine aQ T8 _ _ rfl _ _ rfl (aa r) _ (K1.out.keep (Ext.h _)).range Tryz.underlying56 rfl j8.out ?_) | (go_at_call 34; refine (Calls.au (cy im _)).mono ?_; rintro e w' ⟨rfl, q, rfl⟩))
 obtain ⟨cb, hcb⟩ : ∃ cb, q.w.heap.size = cb := ⟨_, rfl⟩
 obtain ⟨U, hU⟩ : ∃ U, q.w.alloc (.cells #[.int .i32 im, .int .i32 im] 54) = U := ⟨_, rfl⟩
 have bU : Below V.heap.size V U := hU ▸ q.h.alloc q.h.size _
 have kC : U.heap[q.w.heap.size]? = some (.cells #[.int .i32 im, .int .i32 im] 54 (0, 0)) := hU ▸ heap_alloc_new _ _
 rw [hU]
 rw [hcb] at kC ⊢
 have g0 : U.cell? ⟨cb, 0, none⟩ = some (.int .i32 im) := cell_of_row _ _ _ _ _ _ kC
 have g1 : U.cell? ⟨cb, 1, none⟩ = some (.int .i32 im) := cell_of_row _ _ _ _ _ _ kC
 have lC : cb < U.heap.size := (Array.getElem?_eq_some_iff.1 kC).1
 have u0 : U.cell? ⟨w.heap.size, 0, none⟩ = some (.int .u8 op) := by rw [bU.cell (p := ⟨w.heap.size, 0, none⟩) lV]; exact a0
 have u1 : U.cell? ⟨w.heap.size, 1, none⟩ = some (.int .i64 (an : Int)) := by rw [bU.cell (p := ⟨w.heap.size, 1, none⟩) lV]; exact a1
 have u2 : U.cell? ⟨w.heap.size, 2, none⟩ = some (.int .i64 (bn : Int)) := by rw [bU.cell (p := ⟨w.heap.size, 2, none⟩) lV]; exact a2
 have u3 : U.cell? ⟨w.heap.size, 3, none⟩ = some (.int .i64 (cn : Int)) := by rw [bU.cell (p := ⟨w.heap.size, 3, none⟩) lV]; exact a3
 have u4 : U.cell? ⟨w.heap.size, 4, none⟩ = some (.int .i64 im) := by rw [bU.cell (p := ⟨w.heap.size, 4, none⟩) lV]; exact a4
 have Be := UZ (K1.out.keep bU)
 have KT := UZ ((bU.block _ sV).trans K2.out)
 have sU := bU.size
 have BU := UZ (BV.out.trans (bU.mono BV.out.size))
 obtain ⟨bl, hbl⟩ : ∃ bl, (rg r (bn : Int)).1 = bl := ⟨_, rfl⟩
 obtain ⟨bh, C6⟩ : ∃ bh, (rg r (bn : Int)).2 = bh := ⟨_, rfl⟩
 obtain ⟨cl, hcl⟩ : ∃ cl, (rg r (cn : Int)).1 = cl := ⟨_, rfl⟩
 obtain ⟨ch, hch⟩ : ∃ ch, (rg r (cn : Int)).2 = ch := ⟨_, rfl⟩
 obtain ⟨al, hal⟩ : ∃ al, (rg r (an : Int)).1 = al := ⟨_, rfl⟩
 obtain ⟨ah, wU⟩ : ∃ ah, (rg r (an : Int)).2 = ah := ⟨_, rfl⟩
 have r0 : U.cell? ⟨w.heap.size + 1, bn * 2, none⟩ = some (.int .i32 bl) := by rw [← hbl]; exact Be.out.lo Uh
 have r1 : U.cell? ⟨w.heap.size + 1, bn * 2 + 1, none⟩ = some (.int .i32 bh) := by rw [← C6]; exact Be.out.hi Uh
 have r2 : U.cell? ⟨w.heap.size + 1, cn * 2, none⟩ = some (.int .i32 cl) := by rw [← hcl]; exact Be.out.lo Ul
 have r3 : U.cell? ⟨w.heap.size + 1, cn * 2 + 1, none⟩ = some (.int .i32 ch) := by rw [← hch]; exact Be.out.hi Ul
 have r4 : U.cell? ⟨w.heap.size + 1, an * 2, none⟩ = some (.int .i32 al) := by rw [← hal]; exact Be.out.lo Ud
 have r5 : U.cell? ⟨w.heap.size + 1, an * 2 + 1, none⟩ = some (.int .i32 ah) := by rw [← wU]; exact Be.out.hi Ud
 have vr := UZ (show rg r (bn : Int) = (bl, bh) from Prod.ext hbl C6)
 have rS := UZ (show rg r (cn : Int) = (cl, ch) from Prod.ext hcl hch)
 have ow := UZ (show rg r (an : Int) = (al, ah) from Prod.ext hal wU)
 have ia : (an : Int) < 16 := by omega
 have ib : (bn : Int) < 16 := by omega
 have ic : (cn : Int) < 16 := by omega
 have lR : w.heap.size + 1 < U.heap.size := by omega
 have lI : w.heap.size < U.heap.size := by omega
 have lO : w.heap.size + 1 + 1 < U.heap.size := by omega
 have rf0 : U.frozen? ⟨w.heap.size + 1, an * 2, none⟩ = false := Be.out.fz _
 have rf1 : U.frozen? ⟨w.heap.size + 1, an * 2 + 1, none⟩ = false := Be.out.fz _
 have eD : aK bl ∧ aK bh := by have h := hr.at_ (bn : Int); rw [vr.out] at h; exact h
 have hcw : aK cl ∧ aK ch := by have h := hr.at_ (cn : Int); rw [rS.out] at h; exact h
 have C7 : aK al ∧ aK ah := by have h := hr.at_ (an : Int); rw [ow.out] at h; exact h
 clear hcb hU bU kC a0 a1 a2 a3 a4 hbl C6 hcl hch hal wU dI jf K1 K2 MH hv
 have HP := UZ hp
 clear hp
 have hC : (op = 0 ∨ op = 1 ∨ op = 19 ∨ op = 21 ∨ op = 22 ∨ op = 23 ∨ op = 24 ∨ op = 27 ∨ op = 28 ∨ op = 29) ∨ ((2 ≤ op ∧ op ≤ 13) ∧ (op = 5 ∨ op = 6) ∧ rg r (cn : Int) = (0, 0)) ∨ ((2 ≤ op ∧ op ≤ 13) ∧ ¬ ((op = 5 ∨ op = 6) ∧ rg r (cn : Int) = (0, 0)) ∧ (op = 5 ∨ op = 6)) ∨ ((2 ≤ op ∧ op ≤ 13) ∧ ¬ ((op = 5 ∨ op = 6) ∧ rg r (cn : Int) = (0, 0)) ∧ ¬ (op = 5 ∨ op = 6)) ∨ op = 14 ∨ op = 15 ∨ op = 16 ∨ op = 17 ∨ (op = 18 ∨ op = 20 ∨ op = 26) ∨ op = 25 := by
  by_cases hz : rg r (cn : Int) = (0, 0)
  ·simp only [hz, and_true]; omega
  ·simp only [hz, and_false, not_false_eq_true, true_and]; omega
 rcases hC with h | ⟨o1, hz⟩ | ⟨o1, hz, h5⟩ | ⟨o1, hz, h5⟩ | h | h | h | h | h | h
 focus
  have cq := vp.out TX
  rw [if_neg TX, if_neg TX, if_neg TX, if_neg TX, if_neg TX, if_neg TX] at cq
  have jc := UZ cq
  clear cq
  rcases h with rfl | rfl | rfl | rfl | rfl | rfl | rfl | rfl | rfl | rfl
  all_goals
   go_upto_region 23 with fail
   obtain ⟨Y, hY⟩ : ∃ Y, U = Y := ⟨_, rfl⟩
   obtain ⟨rs, EW⟩ : ∃ rs, r = rs := ⟨_, rfl⟩
   have lrs : rs.length = 16 := by rw [← EW]; exact hr.len
   have kY : aC Y (w.heap.size + 1) 56 rs := by rw [← hY, ← EW]; exact Be.out
   have kO : Y.heap[w.heap.size + 1 + 1]? = some (.cells Va.toArray 56 (0, 0)) := by rw [← hY]; exact KT.out
   have bY : Below w.heap.size w Y := by rw [← hY]; exact BU.out
   have qg := UZ (show ∀ r3, rs.set 0 (0, 0) = r3 → O = some r3 from fun r3 h => by rw [jc.out, ← h, ← EW, qO hr.len (ju HP.out)])
   clear EW
 rotate_left 10
 focus
  have EZ : ∀ w : World, (binOp .eql 54 (.agg #[.int .i32 cl, .int .i32 ch]) (.agg #[.int .i32 0, .int .i32 0])).run Tryz.prog w = .ok (.bool true) w := fun w => by
   rw [fO]
   have h := rS.out
   rw [hz.2] at h
   simp only [Prod.mk.injEq] at h
   rw [← h.1, ← h.2]
   rfl
  have jc := UZ (Lb.out o1 hz)
  obtain ⟨hop, -⟩ := hz
  rcases hop with rfl | rfl
  all_goals
   go_upto_region 5 with fail
   refine ay TY TY ?_
   repeat (go_big_quiet_step (first | (go_at_call 34; exact Calls.au (cy 0 _))))
   refine wpQuiet_nil ?_
   rintro _ ⟨x, rfl⟩
   go_wp2_with (first | (refine wpList_store_row rfl 56 (.tmp 4) (.tmp 46) rfl (w.heap.size + 1 + 1) Va.toArray rfl rfl 56 _ (((Ext.h _).block _ lO).trans KT.out) TY rfl T2 ?_))
   refine bodyPost_ret (results_cell_tmp (P := Tryz.prog) Tryz.results12 _ _ (w.heap.size + 1 + 1) Va _ rfl (aq (setRow_heap _ _ _ _ _ _ ((x.h.block _ lO).trans KT.out))) Tryz.underlying56 rfl TY) rfl ⟨by rw [jc.out]; rfl, below_setRow (BU.out.trans (x.h.mono BU.out.size)) TX _⟩
 focus
  have d1 : decide (2 ≤ op) = true := decide_eq_true o1.1
  have d2 : decide (op ≤ 13) = true := decide_eq_true o1.2
  have qL := UZ (lp op o1.1 o1.2)
  have jd := GI.out o1 hz
  have HZ := UZ hz
  have hap := fun w => nk (nM op) bl bh cl ch w (eD).1.1 eD.1.2 eD.2.1 eD.2.2 hcw.1.1 hcw.1.2 hcw.2.1 hcw.2.2
  obtain ⟨xa, fc⟩ : ∃ xa, (aM (nM op) (bl, bh) (cl, ch)).1 = xa := ⟨_, rfl⟩
  obtain ⟨xb, hxb⟩ : ∃ xb, (aM (nM op) (bl, bh) (cl, ch)).2 = xb := ⟨_, rfl⟩
  rw [fc, hxb] at hap
  have qM := UZ hap
  rw [vr.out, rS.out, show aM (nM op) (bl, bh) (cl, ch) = (xa, xb) from Prod.ext fc hxb] at jd
  have jc := UZ jd
  clear hz hap fc hxb eD hcw jd
  have EZ : ∀ w : World, (binOp .eql 54 (.agg #[.int .i32 cl, .int .i32 ch]) (.agg #[.int .i32 0, .int .i32 0])).run Tryz.prog w = .ok (.bool false) w := fun w => by
   rw [fO, show (cl == 0 && ch == 0) = false by
    rw [Bool.eq_false_iff]
    intro h
    rw [Bool.and_eq_true, beq_iff_eq, beq_iff_eq] at h
    exact HZ.out ⟨h5, by rw [rS.out, h.1, h.2]⟩]
  clear HZ
  rcases h5 with rfl | rfl
  all_goals
   go_upto_region 5 with fail
   refine ay TY TY ?_
   repeat (go_big_quiet_step (first | (go_at_call 34; exact Calls.au (cy 0 _))))
   refine wpQuiet_nil ?_
   rintro _ ⟨x, rfl⟩
   go_upto_region 7 with fail
   refine aT 15 TY TY ?_
   simp only [U8, List.take_zero, U9, List.drop_zero]
   repeat (go_big_quiet_step (first | (go_at_call 36; exact Calls.bO (qL.out _)) | (go_at_call 35; exact Calls.au (qM.out _))))
   refine wpQuiet_nil ?_
   rintro _ ⟨x1, rfl⟩
   go_upto_region 23 with fail
   obtain ⟨W1, hW1⟩ : ∃ W1, x1.w = W1 := ⟨_, rfl⟩
   have A4 := UZ (show Below U.heap.size U W1 from hW1 ▸ x1.h)
   rw [hW1]
   clear hW1
 rotate_left 2
 focus
  have d1 : decide (2 ≤ op) = true := decide_eq_true o1.1
  have d2 : decide (op ≤ 13) = true := decide_eq_true o1.2
  have qL := UZ (lp op o1.1 o1.2)
  have jd := GI.out o1 hz
  have HZ := UZ hz
  have hap := fun w => nk (nM op) bl bh cl ch w (eD).1.1 eD.1.2 eD.2.1 eD.2.2 hcw.1.1 hcw.1.2 hcw.2.1 hcw.2.2
  obtain ⟨xa, fc⟩ : ∃ xa, (aM (nM op) (bl, bh) (cl, ch)).1 = xa := ⟨_, rfl⟩
  obtain ⟨xb, hxb⟩ : ∃ xb, (aM (nM op) (bl, bh) (cl, ch)).2 = xb := ⟨_, rfl⟩
  rw [fc, hxb] at hap
  have qM := UZ hap
  rw [vr.out, rS.out, show aM (nM op) (bl, bh) (cl, ch) = (xa, xb) from Prod.ext fc hxb] at jd
  have jc := UZ jd
  clear hz hap fc hxb eD hcw jd
  have e5 : (op == 5) = false := by rw [Bool.eq_false_iff]; intro h; exact h5 (.inl Ur)
  have e6 : (op == 6) = false := by rw [Bool.eq_false_iff]; intro h; exact h5 (.inr Ur)
  clear h5
  go_upto_region 5 with fail
  refine ay TY TY ?_
  repeat (go_big_quiet_step (fail))
  refine wpQuiet_nil ?_
  rintro _ ⟨x, rfl⟩
  go_upto_region 7 with fail
  refine aT 15 TY TY ?_
  simp only [U8, List.take_zero, U9, List.drop_zero]
  repeat (go_big_quiet_step (first | (go_at_call 36; exact Calls.bO (qL.out _)) | (go_at_call 35; exact Calls.au (qM.out _))))
  refine wpQuiet_nil ?_
  rintro _ ⟨x1, rfl⟩
  go_upto_region 23 with fail
  obtain ⟨W1, hW1⟩ : ∃ W1, x1.w = W1 := ⟨_, rfl⟩
  have A4 := UZ (show Below U.heap.size U W1 from hW1 ▸ x1.h)
  rw [hW1]
  clear hW1
 rotate_left 1
 focus
  have cq := vp.out TX
  rw [if_pos h] at cq
  subst h
  obtain ⟨xa, fc⟩ : ∃ x, im = x := ⟨_, rfl⟩
  obtain ⟨xb, hxb⟩ : ∃ x, xa = x := ⟨_, rfl⟩
  rw [show ((im, im) : Int × Int) = (xa, xb) by rw [← hxb, ← fc]] at cq
  have jc := UZ cq
  rw [fc] at g0
  rw [fc, hxb] at g1
  clear cq fc hxb
  go_upto_region 23 with fail
  obtain ⟨W1, hW1⟩ : ∃ W1, U = W1 := ⟨_, rfl⟩
  have A4 := UZ (show Below U.heap.size U W1 from hW1 ▸ (Below.refl U.heap.size U))
  rw [hW1]
  clear hW1
 rotate_left 1
 focus
  have cq := vp.out TX
  rw [if_neg TX, if_pos h] at cq
  subst h
  obtain ⟨xa, xb, hx, hap⟩ := nj 6 bl bh im im eD Uv
  have qM := UZ hap
  rw [vr.out, hx] at cq
  have jc := UZ cq
  clear hap hx eD hcw cq
  go_upto_region 11 with fail
  refine aD 9 TY TY ?_
  simp only [U8, List.take_zero, U9, List.drop_zero]
  repeat (go_big_quiet_step (first | (go_at_call 35; exact Calls.au (qM.out _))))
  refine wpQuiet_nil ?_
  rintro _ ⟨x1, rfl⟩
  go_upto_region 23 with fail
  obtain ⟨W1, hW1⟩ : ∃ W1, x1.w = W1 := ⟨_, rfl⟩
  have A4 := UZ (show Below U.heap.size U W1 from hW1 ▸ x1.h)
  rw [hW1]
  clear hW1
 rotate_left 1
 focus
  have cq := vp.out TX
  rw [if_neg TX, if_neg TX, if_pos h] at cq
  subst h
  obtain ⟨xa, xb, hx, hap⟩ := nj 14 bl bh im im eD Uv
  have qM := UZ hap
  rw [vr.out, hx] at cq
  have jc := UZ cq
  clear hap hx eD hcw cq
  go_upto_region 13 with fail
  refine aD 9 TY TY ?_
  simp only [U8, List.take_zero, U9, List.drop_zero]
  repeat (go_big_quiet_step (first | (go_at_call 35; exact Calls.au (qM.out _))))
  refine wpQuiet_nil ?_
  rintro _ ⟨x1, rfl⟩
  go_upto_region 23 with fail
  obtain ⟨W1, hW1⟩ : ∃ W1, x1.w = W1 := ⟨_, rfl⟩
  have A4 := UZ (show Below U.heap.size U W1 from hW1 ▸ x1.h)
  rw [hW1]
  clear hW1
 rotate_left 1
 focus
  have cq := vp.out TX
  rw [if_neg TX, if_neg TX, if_neg TX, if_pos h] at cq
  subst h
  obtain ⟨xa, xb, hx, hap⟩ := nj 12 bl bh im im eD Uv
  have qM := UZ hap
  rw [vr.out, hx] at cq
  have jc := UZ cq
  clear hap hx eD hcw cq
  go_upto_region 15 with fail
  refine aD 9 TY TY ?_
  simp only [U8, List.take_zero, U9, List.drop_zero]
  repeat (go_big_quiet_step (first | (go_at_call 35; exact Calls.au (qM.out _))))
  refine wpQuiet_nil ?_
  rintro _ ⟨x1, rfl⟩
  go_upto_region 23 with fail
  obtain ⟨W1, hW1⟩ : ∃ W1, x1.w = W1 := ⟨_, rfl⟩
  have A4 := UZ (show Below U.heap.size U W1 from hW1 ▸ x1.h)
  rw [hW1]
  clear hW1
 rotate_left 1
 focus
  have cq := vp.out TX
  rw [if_neg TX, if_neg TX, if_neg TX, if_neg TX, if_pos h] at cq
  obtain ⟨xa, fc⟩ : ∃ x, (-2147483648 : Int) = x := ⟨_, rfl⟩
  obtain ⟨xb, hxb⟩ : ∃ x, (2147483647 : Int) = x := ⟨_, rfl⟩
  rw [show uN = (xa, xb) by rw [← fc, ← hxb]; rfl] at cq
  have jc := UZ cq
  have QH := UZ (fun w => bC w)
  rw [fc, hxb] at QH
  clear cq fc hxb
  rcases h with rfl | rfl | rfl
  all_goals
   go_upto_region 17 with fail
   refine aD 4 TY TY ?_
   simp only [U8, List.take_zero, U9, List.drop_zero]
   repeat (go_big_quiet_step (first | (go_at_call 37; exact Calls.au (QH.out _))))
   refine wpQuiet_nil ?_
   rintro _ ⟨x1, rfl⟩
   go_upto_region 23 with fail
   obtain ⟨W1, hW1⟩ : ∃ W1, x1.w = W1 := ⟨_, rfl⟩
   have A4 := UZ (show Below U.heap.size U W1 from hW1 ▸ x1.h)
   rw [hW1]
   clear hW1
 rotate_left 3
 focus
  have cq := vp.out TX
  rw [if_neg TX, if_neg TX, if_neg TX, if_neg TX, if_neg TX, if_pos h] at cq
  subst h
  obtain ⟨xa, xb, hx⟩ : ∃ xa xb, aH (al, ah) (0, im - 1) = (xa, xb) := ⟨_, _, rfl⟩
  have hme := fun w => lH al ah 0 (im - 1) w
  rw [hx] at hme
  have IP := UZ hme
  have HX := UZ (show aH (rg r (an : Int)) (0, im - 1) = (xa, xb) by rw [ow.out]; exact hx)
  have LC := UZ cq
  clear cq
  have w1 : IntKind.i64.wrap (im - 1) = im - 1 := IntWalk.i64_in _ TX
  have w2 : IntKind.i32.wrap (im - 1) = im - 1 := IntWalk.i32_in _ TX
  clear hme hx eD hcw C7
  go_upto_region 19 with fail
  go_cut [7] from 131 to 140 (fun s7 wx => ∃ (g : Nat) (v : Ext U), s7 = .pointer (some ⟨g, 0, none⟩) ∧ wx = v.w ∧ v.w.cell? ⟨g, 0, none⟩ = some (.int .i32 xa) ∧ v.w.cell? ⟨g, 1, none⟩ = some (.int .i32 xb) ∧ g < v.w.heap.size)
  case first =>
   as_aux_lemma =>
    have K0 : bI U U := Below.refl _ _
    go_region_held3 (fun w' => (∀ b o, b < U.heap.size → w'.cell? ⟨b, o, none⟩ = U.cell? ⟨b, o, none⟩) ∧ bI U w') ((refine o9 rfl ?_; (repeat (first | (with_reducible assumption) | (with_reducible refine bI.alloc ?_ _) | (with_reducible refine bI.ext ?_ _) | (with_reducible refine bI.set ?_ Un _) | (with_reducible refine bI.drew ?_)))))
     (first | (go_at_call 38; (first | (with_reducible refine (Calls.au (IP.out _)).mono ?_) | (with_reducible refine (Calls.ext (IP.out _)).mono ?_)); rintro e _ ⟨rfl, y, rfl⟩; have KK : bI U y.w := (by (repeat (first | (with_reducible assumption) | (with_reducible refine bI.alloc ?_ _) | (with_reducible refine bI.ext ?_ _) | (with_reducible refine bI.set ?_ Un _) | (with_reducible refine bI.drew ?_)))); have KS : U.heap.size ≤ y.w.heap.size := KK.size; (have KZ := Below.size (Ext.h y)); (try simp only [World.size_alloc, World.size_drew] at KZ); (try have KM : U.heap.size < y.w.heap.size := TX)))
    all_goals (go_wp2_with fail; go_meet; refine ym ?_ ?_ ?_ ?_)
    all_goals first
     | (with_reducible show bI _ _; (repeat (first | (with_reducible assumption) | (with_reducible refine bI.alloc ?_ _) | (with_reducible refine bI.ext ?_ _) | (with_reducible refine bI.set ?_ Un _) | (with_reducible refine bI.drew ?_))); done)
     | (simp; done)
     | (simp; omega)
     | (go_simp; done)
     | (simp; refine World.cell?_setCell_same _ _ _ (u := .int .i32 0) ?_; go_simp; done)
     | (go_simp; refine World.cell?_setCell_same _ _ _ (u := .int .i32 0) ?_; go_simp; done)
  obtain ⟨tb, v, rfl, rfl, MJ, MI, G9⟩ := hcut
  obtain ⟨U2, yb⟩ : ∃ U2, v.w = U2 := ⟨_, rfl⟩
  have b2 : Below U.heap.size U U2 := yb ▸ v.h
  rw [yb] at MJ MI G9 ⊢
  have t0 := MJ
  have t1 := MI
  have lt2 := G9
  have v1 : U2.cell? ⟨w.heap.size, 1, none⟩ = some (.int .i64 (an : Int)) := by rw [b2.cell (p := ⟨w.heap.size, 1, none⟩) lI]; exact u1
  have s4 : U2.cell? ⟨w.heap.size + 1, an * 2, none⟩ = some (.int .i32 al) := by rw [b2.cell (p := ⟨w.heap.size + 1, an * 2, none⟩) lR]; exact r4
  have s5 : U2.cell? ⟨w.heap.size + 1, an * 2 + 1, none⟩ = some (.int .i32 ah) := by rw [b2.cell (p := ⟨w.heap.size + 1, an * 2 + 1, none⟩) lR]; exact r5
  have sf0 : U2.frozen? ⟨w.heap.size + 1, an * 2, none⟩ = false := (Be.out.keep b2).fz _
  have sf1 : U2.frozen? ⟨w.heap.size + 1, an * 2 + 1, none⟩ = false := (Be.out.keep b2).fz _
  have li2 : w.heap.size < U2.heap.size := by have := b2.size; omega
  have lr2 : w.heap.size + 1 < U2.heap.size := by have := b2.size; omega
  have lo2 : w.heap.size + 1 + 1 < U2.heap.size := by have := b2.size; omega
  have B2 := UZ b2
  have Qh := UZ ((b2.block _ lO).trans KT.out)
  clear MJ MI G9 yb b2 r0 r1 r2 r3 r4 r5 u0 u1 u2 u3 u4 rf0 rf1 g0 g1 w1 w2
  have rQ := UZ (Calls.ext (af xa xb U2))
  by_cases he : xb < xa
  ·have d := decide_eq_true he
   have rR := UZ (show emp (xa, xb) = true by unfold emp; simpa using he)
   clear he
   go_wp2_with (first | (go_at_call 39; refine rQ.out.mono ?_; rintro e w' ⟨rfl, y, rfl⟩) | (refine wpList_store_row rfl 56 (.tmp 4) (.tmp 143) rfl (w.heap.size + 1 + 1) Va.toArray rfl rfl 56 _ (((Ext.h _).block _ lo2).trans Qh.out) TY rfl T2 ?_))
   refine bodyPost_ret (results_cell_tmp (P := Tryz.prog) Tryz.results12 _ _ (w.heap.size + 1 + 1) Va _ rfl (aq (setRow_heap _ _ _ _ _ _ ((y.h.block _ lo2).trans Qh.out))) Tryz.underlying56 rfl TY) rfl ⟨?_, below_setRow (BU.out.trans ((B2.out.trans (y.h.mono B2.out.size)).mono BU.out.size)) TX _⟩
   rw [LC.out, show Dt r (an : Int) im = none by unfold Dt; rw [HX.out, if_pos rR.out]]
   rfl
  have d := decide_eq_false he
  have rR := UZ (show ¬ emp (xa, xb) = true by unfold emp; simpa using he)
  clear he
  go_upto_region 22 with (go_at_call 39; refine rQ.out.mono ?_; rintro e w' ⟨rfl, y, rfl⟩)
  go_upto_region 23 with fail
  have jc := UZ (show O = some (aO r (an : Int) (xa, xb)) by rw [LC.out]; unfold Dt; rw [HX.out, if_neg rR.out])
  have Th := UZ (B2.out.trans (y.h.mono B2.out.size))
  obtain ⟨W1, hW1⟩ : ∃ W1, y.w = W1 := ⟨_, rfl⟩
  have A4 := UZ (show Below U.heap.size U W1 from hW1 ▸ Th.out)
  rw [hW1]
  clear hW1
 rotate_left 1
 rotate_left 10
 iterate 11
  focus
   obtain ⟨Y, hY⟩ : ∃ Y, (W1.setCell ⟨w.heap.size + 1, an * 2, none⟩ (.int .i32 xa)).setCell ⟨w.heap.size + 1, an * 2 + 1, none⟩ (.int .i32 xb) = Y := ⟨_, rfl⟩
   obtain ⟨rs, EW⟩ : ∃ rs, r.set an (xa, xb) = rs := ⟨_, rfl⟩
   have lrs : rs.length = 16 := by rw [← EW, List.length_set]; exact hr.len
   have kY : aC Y (w.heap.size + 1) 56 rs := by rw [← hY, ← EW]; exact (Be.out.keep A4.out).set an (xa, xb)
   have kO : Y.heap[w.heap.size + 1 + 1]? = some (.cells Va.toArray 56 (0, 0)) := by
    rw [← hY, Below.heap_setCell _ _ _ _ Uk, Below.heap_setCell _ _ _ _ Uk]
    exact (A4.out.block _ lO).trans KT.out
   have bY : Below w.heap.size w Y := by rw [← hY]; exact Below.setCell (Below.setCell (BU.out.trans (A4.out.mono BU.out.size)) Uo _) Uo _
   have qg := UZ (show ∀ r3, rs.set 0 (0, 0) = r3 → O = some r3 from fun r3 h => by rw [jc.out, ← h, ← EW, tQ hr.len (ju HP.out)])
   clear EW
  rotate_left 1
 all_goals
  rw [hY]
  have lY : w.heap.size + 1 < Y.heap.size := kY.lt
  have JR : w.heap.size + 1 + 1 < Y.heap.size := (Array.getElem?_eq_some_iff.1 kO).1
  have z0 : Y.cell? ⟨w.heap.size + 1, 0, none⟩ = some (.int .i32 (rg rs 0).1) := by simpa using kY.lo (k := 0) TX
  have z1 : Y.cell? ⟨w.heap.size + 1, 1, none⟩ = some (.int .i32 (rg rs 0).2) := by simpa using kY.hi (k := 0) TX
  have zf0 : Y.frozen? ⟨w.heap.size + 1, 0, none⟩ = false := kY.fz _
  have zf1 : Y.frozen? ⟨w.heap.size + 1, 1, none⟩ = false := kY.fz _
  have KY := UZ kY
  have KO := UZ kO
  have BY := UZ bY
  have Sq := UZ lrs
  have FP := UZ (Calls.ext (cy 0 Y))
  clear hY kY kO bY lrs
  go_upto_region 24 with (go_at_call 34; refine FP.out.mono ?_; rintro e w' ⟨rfl, y2, rfl⟩)
  obtain ⟨Z, hZ⟩ : ∃ Z, (y2.w.setCell ⟨w.heap.size + 1, 0, none⟩ (.int .i32 0)).setCell ⟨w.heap.size + 1, 1, none⟩ (.int .i32 0) = Z := ⟨_, rfl⟩
  obtain ⟨r3, hr3⟩ : ∃ r3, rs.set 0 (0, 0) = r3 := ⟨_, rfl⟩
  have l3 : r3.length = 16 := by rw [← hr3, List.length_set]; exact Sq.out
  have kZ : aC Z (w.heap.size + 1) 56 r3 := by
   rw [← hZ, ← hr3]
   have h := (KY.out.keep y2.h).set 0 (0, 0)
   simpa using h
  have CO : Z.heap[w.heap.size + 1 + 1]? = some (.cells Va.toArray 56 (0, 0)) := by
   rw [← hZ, Below.heap_setCell _ _ _ _ Uk, Below.heap_setCell _ _ _ _ Uk]
   exact (y2.h.block _ JR).trans KO.out
  have bZ : Below w.heap.size w Z := by rw [← hZ]; exact Below.setCell (Below.setCell (BY.out.trans (y2.h.mono BY.out.size)) Uo _) Uo _
  rw [hZ]
  have fR := UZ kZ.range
  have DF := UZ CO
  have BZ := UZ bZ
  have vD := UZ (show (Tryz.prog.info? 56).map (·.size) = some (aa r3).length by rw [az, l3]; kernel_rfl)
  have Bg := UZ (show (Tryz.prog.info? 56).map (·.size) = some (aa r3).toArray.size by rw [List.size_toArray, az, l3]; kernel_rfl)
  have FT := UZ (show (Va.toArray : Array Value).size = (aa r3).toArray.size by rw [show (aa r3).toArray.size = 32 by rw [List.size_toArray, az, l3]]; rfl)
  have sZ := UZ (aj r3)
  have SE := UZ (qg.out r3 hr3)
  clear hZ kZ CO bZ hr3 l3 z0 z1 zf0 zf1
  go_wp2_with (first | (refine wpList_load_mid rfl _ _ rfl _ _ rfl (aa r3) _ fR.out Tryz.underlying56 rfl vD.out ?_) | (refine wpList_store_row rfl 56 (.tmp 4) (.tmp 150) rfl (w.heap.size + 1 + 1) (aa r3).toArray rfl rfl 56 _ DF.out Bg.out FT.out sZ.out ?_))
  refine bodyPost_ret (results_cell_tmp (P := Tryz.prog) Tryz.results12 _ _ (w.heap.size + 1 + 1) (aa r3) _ rfl (aq (setRow_heap _ _ _ _ _ _ DF.out)) Tryz.underlying56 rfl vD.out) rfl ⟨?_, below_setRow BZ.out TX _⟩
  rw [SE.out]
  rfl
end
end Go.Proofs.YtebklpnkcicpjaaGreatDoor
