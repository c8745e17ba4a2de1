/-
  What is proved here: parts aDef, aPot, aMem, aFn1, aTr, aCb, aPot2, aAn, aRf.
-/
import Derived.Test.YtlmgkipmfgijiaaGreatDoorXa
import Derived.Test.YtlmgkipmfgijiaaGreatDoorXh
import Derived.Test.YtlmgkipmfgijiaaGreatDoorXc
import Derived.Deep.MidRow
import Derived.Deep.WholeRow
import Derived.Test.YtlmgkipmfgijiaaGreatDoorXg
import Derived.Test.YtlmgkipmfgijiaaGreatDoorXb
import Derived.Deep.QuietTactic
import Derived.BigQuiet
import Derived.Laws.CopyOwn
import Derived.Test.YtlmgkipmfgijiaaGreatDoorXd
namespace Go.Proofs.YtlmgkipmfgijiaaGreatDoor
set_option linter.unusedVariables false
set_option linter.unusedSimpArgs false
set_option maxRecDepth 100000
set_option maxHeartbeats 8000000
section
open Go.RowKit
abbrev RG := List (Int × Int)
def aa (r : RG) : List Value := r.flatMap fun x => [.int .i32 x.1, .int .i32 x.2]
def aA : RG := List.replicate 16 (0, 0)
def rg (r : RG) (k : Int) : Int × Int := r.getD k.toNat (0, 0)
def cL (r : RG) (k : Int) (x : Int × Int) : RG := if k = 0 then r else r.set k.toNat x
structure R16 (r : RG) : Prop where
 len : r.length = 16
 wi : ∀ x ∈ r, bg x.1 ∧ bg x.2
def cu (r : RG) : Bool := r.all (fun x => decide (x.1 ≤ x.2)) && decide (rg r 0 = (0, 0))
def Gs (op : Int) : Int := if op = 13 then 18 else op + 4
def Ck : Int × Int := (-2147483648, 2147483647)
def eT (i : Ins) (r : RG) : Option RG :=
 if aT i = true ∧ cu r = true then
  if 2 ≤ i.op ∧ i.op ≤ 13 then
   if (i.op = 5 ∨ i.op = 6) ∧ rg r i.c = (0, 0) then none else some (cL r i.a (cJ (Gs i.op) (rg r i.b) (rg r i.c)))
  else if i.op = 14 then some (cL r i.a (i.aP, i.aP))
  else if i.op = 15 then some (cL r i.a (cJ 6 (rg r i.b) (i.aP, i.aP)))
  else if i.op = 16 then some (cL r i.a (cJ 14 (rg r i.b) (i.aP, i.aP)))
  else if i.op = 17 then some (cL r i.a (cJ 12 (rg r i.b) (i.aP, i.aP)))
  else if i.op = 18 ∨ i.op = 20 ∨ i.op = 26 then some (cL r i.a Ck)
  else if i.op = 25 then (if emp (aJ (rg r i.a) (0, i.aP - 1)) = true then none else some (cL r i.a (aJ (rg r i.a) (0, i.aP - 1))))
  else some r
 else none
def fY (x : Int × Int) : Int × Int := if x = (0, 0) then (1, 0) else if x.1 = 0 then (1, x.2) else if x.2 = 0 then (x.1, -1) else x
def nT (op : Int) (taken : Bool) (x : Int × Int) : Int × Int := if (taken == decide (op = 22)) = true then aJ x (0, 0) else fY x
def fu (i : Ins) (r : RG) (taken : Bool) : Option RG :=
 if aT i = true ∧ cu r = true then
  if i.op = 22 ∨ i.op = 23 then (if emp (nT i.op taken (rg r i.a)) = true then none else some (cL r i.a (nT i.op taken (rg r i.a))))
  else if i.op = 24 then (if taken = true then some r else none)
  else if taken = true then none else some r
 else none
def bO (x y : RG) : RG := List.zipWith bH x y
def dX (x y : RG) : RG := List.zipWith aL x y
def gS : List Ins → RG → Option RG
 | [], r => some r
 | i :: l, r => match eT i r with
  | none => none
  | some r' => gS l r'
def dW (last : Ins) (m k : Nat) (r : RG) : Option RG :=
 if ¬ (last.op = 22 ∨ last.op = 23) then some r
 else if m = 2 then fu last r (decide (k = 1))
 else match fu last r false, fu last r true with
  | none, y => y
  | some x, none => some x
  | some x, some y => some (bO x y)
structure AS where
 reach : List Bool
 bC : List RG
 rep : List Int
def eA (s : AS) (t : Nat) : Option RG → AS × Bool
 | none => (s, false)
 | some r =>
  if s.reach.getD t false = false then (⟨s.reach.set t true, s.bC.set t r, s.rep⟩, true)
  else if bO (s.bC.getD t []) r = s.bC.getD t [] then (s, false)
  else (⟨s.reach, s.bC.set t (if 2 ≤ s.rep.getD t 0 then dX (s.bC.getD t []) (bO (s.bC.getD t []) r) else bO (s.bC.getD t []) r), s.rep.set t (s.rep.getD t 0 + 1)⟩, true)
def iM (last : Ins) (nx : List Int) (bz : RG) (s : AS) : Nat → AS × Bool
 | 0 => (s, false)
 | k + 1 => let p := iM last nx bz s k; let q := eA p.1 (nx.getD k 0).toNat (dW last nx.length k bz); (q.1, p.2 || q.2)
structure AB where
 code : List Ins
 nx : List Int
def AB.last (b : AB) : Ins := b.code.getD (b.code.length - 1) ⟨0, 0, 0, 0, 0⟩
def jv (b : AB) (n : Nat) (s : AS) : AS × Bool := match gS b.code (s.bC.getD n []) with
 | none => (s, false)
 | some bz => iM b.last b.nx bz s b.nx.length
def cF (B : List AB) (s : AS) : Nat → AS × Bool
 | 0 => (s, false)
 | n + 1 => let p := cF B s n; if p.1.reach.getD n false = true then (let q := jv (B.getD n ⟨[], []⟩) n p.1; (q.1, p.2 || q.2)) else p
inductive Ends (B : List AB) : AS → AS → Prop
 | done {s : AS} (h : (cF B s B.length).2 = false) : Ends B s (cF B s B.length).1
 | more {s s' : AS} (h : (cF B s B.length).2 = true) (k : Ends B (cF B s B.length).1 s') : Ends B s s'
theorem Ends.LQ {B : List AB} {s a b : AS} (h : Ends B s a) (k : Ends B s b) : a = b := by
 induction h with
 | done h => cases k with
  | done _ => rfl
  | more h' _ => rw [h] at h'; cases h'
 | more h _ ih => cases k with
  | done h' => rw [h] at h'; cases h'
  | more _ k' => exact ih k'
def cg (n : Nat) : AS := ⟨(List.replicate n false).set 0 true, List.replicate n aA, List.replicate n 0⟩
def fC (b : AB) (n k : Nat) (r : RG) : List (Int × Int) := match gS b.code r with
 | none => ((b.nx.take k).map fun t => ((n : Int), t))
 | some bz => ((List.range k).filter fun j => (dW b.last b.nx.length j bz).isNone).map fun j => ((n : Int), b.nx.getD j 0)
def fJ (B : List AB) (s : AS) (n : Nat) : List (Int × Int) := (List.range n).flatMap fun j => if s.reach.getD j false = true then fC (B.getD j ⟨[], []⟩) j (B.getD j ⟨[], []⟩).nx.length (s.bC.getD j []) else []
theorem R16.at_ {r : RG} (h : R16 r) (k : Int) : bg (rg r k).1 ∧ bg (rg r k).2 := by
 unfold rg
 by_cases hk : k.toNat < r.length
 ·have e : r.getD k.toNat (0, 0) = r[k.toNat] := by simp [List.getD, List.getElem?_eq_getElem hk]
  rw [e]
  exact h.wi _ (List.getElem_mem hk)
 ·have e : r.getD k.toNat (0, 0) = (0, 0) := by simp [List.getD, List.getElem?_eq_none (Nat.le_of_not_lt hk)]
  rw [e]
  unfold bg
  simp only
  omega
theorem R16.set {r : RG} (h : R16 r) (k : Nat) {x : Int × Int} (hx : bg x.1 ∧ bg x.2) : R16 (r.set k x) :=
 ⟨by rw [List.length_set]; exact h.len, fun y hy => by rcases List.mem_or_eq_of_mem_set hy with h1 | rfl; exact h.wi _ h1; exact hx⟩
theorem R16.cL {r : RG} (h : R16 r) (k : Int) {x : Int × Int} (hx : bg x.1 ∧ bg x.2) : R16 (cL r k x) := by
 unfold Go.Proofs.YtlmgkipmfgijiaaGreatDoor.cL
 split
 ·exact h
 ·exact h.set _ hx
theorem R16.zero : R16 aA := ⟨by simp [aA], fun x hx => by rw [(List.mem_replicate.1 hx).2]; unfold bg; simp only; omega⟩
end
section
open Go.RowKit
def nu (x : Int × Int) : Nat := if x.2 < x.1 then (if x = (1, 0) then 3 else 4) else (if -2147483648 < x.1 then 1 else 0) + (if x.2 < 2147483647 then 1 else 0)
def mJ (r : RG) : Nat := (r.map nu).sum
def kS (s : AS) (k : Nat) : Nat := if s.reach.getD k false = false then 70 else (2 - (s.rep.getD k 0).toNat) + mJ (s.bC.getD k [])
def jx (s : AS) (n : Nat) : Nat := ((List.range n).map (kS s)).sum
theorem KC (x : Int × Int) : nu x ≤ 4 := by unfold nu; split <;> split <;> (try split) <;> omega
theorem OE {x y : Int × Int} (hx : bg x.1 ∧ bg x.2) (hy : bg y.1 ∧ bg y.2) : bg (bH x y).1 ∧ bg (bH x y).2 := by
 unfold bH bg at *
 split <;> split <;> first | omega | (simp only; omega)
theorem Kq {x y : Int × Int} (hx : bg x.1 ∧ bg x.2) (hy : bg y.1 ∧ bg y.2) : bg (aL x y).1 ∧ bg (aL x y).2 := by
 unfold aL bg at *
 split
 ·split <;> first | omega | (simp only; omega)
 ·split
  ·exact hx
  ·simp only
   constructor <;> split <;> omega
theorem Gp {x y : Int × Int} (hx : bg x.1 ∧ bg x.2) (hy : bg y.1 ∧ bg y.2) : nu (bH x y) ≤ nu x := by
 obtain ⟨a, b⟩ := x
 obtain ⟨c, d⟩ := y
 unfold bg at hx hy
 simp only at hx hy
 unfold bH emp nu
 by_cases h1 : b < a <;> by_cases h2 : d < c <;> simp only [h1, h2, decide_true, decide_false, if_true, if_false, Bool.false_eq_true, Prod.mk.injEq]
 ·simp; split <;> omega
 ·split <;> split <;> split <;> omega
 ·exact Nat.le_refl _
 ·rw [if_neg ahU]
  split <;> split <;> split <;> split <;> omega
theorem Dy {x y : Int × Int} (hx : bg x.1 ∧ bg x.2) (hy : bg y.1 ∧ bg y.2) : nu (aL x (bH x y)) ≤ nu x ∧ (bH x y ≠ x → nu (aL x (bH x y)) < nu x) := by
 obtain ⟨a, b⟩ := x
 obtain ⟨c, d⟩ := y
 unfold bg at hx hy
 simp only at hx hy
 by_cases h1 : b < a
 ·by_cases h2 : d < c
  ·have e : bH (a, b) (c, d) = (1, 0) := by unfold bH emp; simp [h1, h2]
   have e2 : aL (a, b) (1, 0) = (1, 0) := by unfold aL emp; simp [h1]
   rw [e, e2]
   have e3 : nu (1, 0) = 3 := by unfold nu; simp
   rw [e3]
   unfold nu
   simp only [h1, if_true]
   refine ⟨by split <;> omega, fun hn => ?_⟩
   rw [if_neg (fun h => hn h.symm)]
   omega
  ·have e : bH (a, b) (c, d) = (c, d) := by unfold bH emp; simp [h1, h2]
   have e2 : aL (a, b) (c, d) = (c, d) := by unfold aL emp; simp [h1, h2]
   rw [e, e2]
   unfold nu
   simp only [h1, h2, if_true, if_false]
   constructor
   ·split <;> split <;> split <;> omega
   ·intro _; split <;> split <;> split <;> omega
 ·by_cases h2 : d < c
  ·have e : bH (a, b) (c, d) = (a, b) := by unfold bH emp; simp [h1, h2]
   have e2 : aL (a, b) (a, b) = (a, b) := by unfold aL emp; simp [h1]
   rw [e, e2]
   exact ⟨Nat.le_refl _, fun h => absurd rfl h⟩
  ·have e : bH (a, b) (c, d) = (min a c, max b d) := by unfold bH emp; simp [h1, h2]
   have h3 : ¬ max b d < min a c := by omega
   have e2 : aL (a, b) (min a c, max b d) = (if min a c < a then -2147483648 else a, if b < max b d then 2147483647 else b) := by unfold aL emp; simp [h1, h3]
   rw [e, e2]
   unfold nu
   simp only [h1, if_false]
   have h4 : ¬ (if b < max b d then (2147483647 : Int) else b) < (if min a c < a then -2147483648 else a) := by (repeat' split) <;> omega
   have z1 : ¬ ((-2147483648 : Int) < -2147483648) := by decide
   have z2 : ¬ ((2147483647 : Int) < 2147483647) := by decide
   rw [if_neg h4]
   simp only [ne_eq, Prod.mk.injEq, not_and]
   by_cases q1 : min a c < a <;> by_cases q2 : b < max b d <;> simp only [q1, q2, if_true, if_false, z1, z2]
   ·refine ⟨by (repeat' split) <;> omega, fun _ => ?_⟩
    rw [if_pos (show -2147483648 < a by omega), if_pos (show b < 2147483647 by omega)]
    decide
   ·refine ⟨by (repeat' split) <;> omega, fun _ => ?_⟩
    rw [if_pos (show -2147483648 < a by omega)]
    split <;> omega
   ·refine ⟨by (repeat' split) <;> omega, fun _ => ?_⟩
    rw [if_pos (show b < 2147483647 by omega)]
    split <;> omega
   ·exact ⟨Nat.le_refl _, fun h => absurd (show max b d = b by omega) (h ahU)⟩
theorem R16.join {x y : RG} (hx : R16 x) (hy : R16 y) : R16 (bO x y) :=
 ⟨by simp [bO, hx.len, hy.len], fun z hz => by
  obtain ⟨i, hi, e⟩ := List.getElem_of_mem hz
  simp only [bO, List.length_zipWith] at hi
  simp only [bO, List.getElem_zipWith] at e
  rw [← e]
  exact OE (hx.wi _ (List.getElem_mem _)) (hy.wi _ (List.getElem_mem _))⟩
theorem R16.xp {x y : RG} (hx : R16 x) (hy : R16 y) : R16 (dX x y) :=
 ⟨by simp [dX, hx.len, hy.len], fun z hz => by
  obtain ⟨i, hi, e⟩ := List.getElem_of_mem hz
  simp only [dX, List.length_zipWith] at hi
  simp only [dX, List.getElem_zipWith] at e
  rw [← e]
  exact Kq (hx.wi _ (List.getElem_mem _)) (hy.wi _ (List.getElem_mem _))⟩
theorem uy : ∀ {x y : RG}, x.length = y.length → (∀ z ∈ x, bg z.1 ∧ bg z.2) → (∀ z ∈ y, bg z.1 ∧ bg z.2) → mJ (bO x y) ≤ mJ x
 | [], [], _, _, _ => Nat.le_refl _
 | a :: x, b :: y, hl, hx, hy => by
  have ih := uy (x := x) (y := y) aiO (fun z hz => hx z (List.mem_cons_of_mem _ hz)) (fun z hz => hy z (List.mem_cons_of_mem _ hz))
  have h := Gp (hx a (List.mem_cons_self ..)) (hy b (List.mem_cons_self ..))
  simp only [bO, mJ, List.zipWith_cons_cons, List.map_cons, List.sum_cons] at *
  omega
theorem rM : ∀ {x y : RG}, x.length = y.length → (∀ z ∈ x, bg z.1 ∧ bg z.2) → (∀ z ∈ y, bg z.1 ∧ bg z.2) → mJ (dX x (bO x y)) ≤ mJ x ∧ (bO x y ≠ x → mJ (dX x (bO x y)) < mJ x)
 | [], [], _, _, _ => ⟨Nat.le_refl _, fun h => absurd rfl h⟩
 | a :: x, b :: y, hl, hx, hy => by
  obtain ⟨i1, i2⟩ := rM (x := x) (y := y) aiO (fun z hz => hx z (List.mem_cons_of_mem _ hz)) (fun z hz => hy z (List.mem_cons_of_mem _ hz))
  obtain ⟨h1, h2⟩ := Dy (hx a (List.mem_cons_self ..)) (hy b (List.mem_cons_self ..))
  simp only [bO, dX, mJ, List.zipWith_cons_cons, List.map_cons, List.sum_cons, ne_eq, List.cons.injEq, not_and] at *
  refine ⟨by omega, fun hn => ?_⟩
  by_cases q : bH a b = a
  ·have := i2 (hn q); omega
  ·have := h2 q; omega
theorem vI : ∀ {r : RG}, mJ r ≤ 4 * r.length
 | [] => Nat.le_refl _
 | a :: r => by
  have ih := vI (r := r)
  have h := KC a
  simp only [mJ, List.map_cons, List.sum_cons, List.length_cons] at *
  omega
structure zg (n : Nat) (s : AS) : Prop where
 l1 : s.reach.length = n
 l2 : s.bC.length = n
 l3 : s.rep.length = n
 r16 : ∀ r ∈ s.bC, R16 r
 rep : ∀ x ∈ s.rep, 0 ≤ x ∧ x + (jx s n : Int) ≤ 70 * (n : Int)
theorem rz {f g : Nat → Nat} {n t : Nat} (ht : t < n) (h : ∀ k, k ≠ t → g k = f k) : ((List.range n).map g).sum + f t = ((List.range n).map f).sum + g t := by
 induction n with
 | zero => omega
 | succ n ih =>
  simp only [List.range_succ, List.map_append, List.map_cons, List.map_nil, List.sum_append, List.sum_cons, List.sum_nil]
  by_cases e : t = n
  ·subst e
   have : (List.range t).map g = (List.range t).map f := List.map_congr_left fun k hk => h k (by have := List.mem_range.1 hk; omega)
   rw [this]; omega
  ·have := ih ahU
   rw [h n (fun e2 => e e2.symm)]; omega
theorem zg.get {n : Nat} {s : AS} (h : zg n s) {t : Nat} (ht : t < n) : R16 (s.bC.getD t []) := by
 have hl : t < s.bC.length := by rw [h.l2]; exact ht
 have e : s.bC.getD t [] = s.bC[t] := by simp [List.getD, List.getElem?_eq_getElem hl]
 rw [e]
 exact h.r16 _ (List.getElem_mem hl)
theorem zg.uo {n : Nat} {s : AS} (h : zg n s) {t : Nat} (ht : t < n) : 0 ≤ s.rep.getD t 0 ∧ s.rep.getD t 0 + (jx s n : Int) ≤ 70 * (n : Int) := by
 have hl : t < s.rep.length := by rw [h.l3]; exact ht
 have e : s.rep.getD t 0 = s.rep[t] := by simp [List.getD, List.getElem?_eq_getElem hl]
 rw [e]
 exact h.rep _ (List.getElem_mem hl)
theorem cY {α : Type} {l : List α} {t : Nat} {x d : α} (ht : t < l.length) : (l.set t x).getD t d = x := by simp [List.getD, ht]
theorem bJ {α : Type} {l : List α} {t k : Nat} {x d : α} (hk : k ≠ t) : (l.set t x).getD k d = l.getD k d := by simp [List.getD, List.getElem?_set, Ne.symm hk]
theorem mm {n : Nat} {s : AS} (h : zg n s) {t : Nat} (ht : t < n) (o : Option RG) (ho : ∀ r, o = some r → R16 r) : zg n (eA s t o).1 ∧ ((eA s t o).2 = true → jx (eA s t o).1 n < jx s n) ∧ ((eA s t o).2 = false → (eA s t o).1 = s) := by
 cases o with
 | none => exact ⟨h, (fun e => by cases e), fun _ => rfl⟩
 | some r =>
  have hr := ho r rfl
  have hg := h.get ht
  have Ho := h.uo ht
  unfold eA
  simp only
  by_cases h1 : s.reach.getD t false = false
  ·rw [if_pos h1]
   have hp : jx ⟨s.reach.set t true, s.bC.set t r, s.rep⟩ n < jx s n := by
    have hu := rz (f := kS s) (g := kS ⟨s.reach.set t true, s.bC.set t r, s.rep⟩) ht (fun k hk => by unfold kS; simp only; rw [bJ hk, bJ hk])
    have e1 : kS s t = 70 := by unfold kS; rw [if_pos h1]
    have e2 : kS ⟨s.reach.set t true, s.bC.set t r, s.rep⟩ t ≤ 66 := by
     unfold kS
     simp only
     rw [cY (by rw [h.l1]; exact ht), cY (by rw [h.l2]; exact ht)]
     have := vI (r := r)
     rw [hr.len] at this
     simp
     omega
    unfold jx
    omega
   refine ⟨⟨by simp [h.l1], by simp [h.l2], h.l3, fun x hx => ?_, fun x hx => ?_⟩, fun _ => hp, (fun e => by cases e)⟩
   ·rcases List.mem_or_eq_of_mem_set hx with h2 | rfl
    ·exact h.r16 _ h2
    ·exact hr
   ·have := h.rep x hx
    dsimp only
    omega
  ·rw [if_neg h1]
   have hreach : s.reach.getD t false = true := by simpa using h1
   by_cases h2 : bO (s.bC.getD t []) r = s.bC.getD t []
   ·rw [if_pos h2]
    exact ⟨h, (fun e => by cases e), fun _ => rfl⟩
   ·rw [if_neg h2]
    simp only
    obtain ⟨j, hj⟩ : ∃ j, (if 2 ≤ s.rep.getD t 0 then dX (s.bC.getD t []) (bO (s.bC.getD t []) r) else bO (s.bC.getD t []) r) = j := ⟨_, rfl⟩
    have Na := hg.join hr
    have Yc : R16 j := by rw [← hj]; split; exact hg.xp Na; exact Na
    have hjp : (2 - (s.rep.getD t 0 + 1).toNat) + mJ j < (2 - (s.rep.getD t 0).toNat) + mJ (s.bC.getD t []) := by
     have hlen : (s.bC.getD t []).length = r.length := by rw [hg.len, hr.len]
     rw [← hj]
     split
     ·rename_i h3
      have := (rM hlen hg.wi hr.wi).2 h2
      omega
     ·have := uy hlen hg.wi hr.wi
      omega
    rw [hj]
    have hp : jx ⟨s.reach, s.bC.set t j, s.rep.set t (s.rep.getD t 0 + 1)⟩ n < jx s n := by
     have hu := rz (f := kS s) (g := kS ⟨s.reach, s.bC.set t j, s.rep.set t (s.rep.getD t 0 + 1)⟩) ht (fun k hk => by unfold kS; simp only; rw [bJ hk, bJ hk])
     have e1 : kS s t = (2 - (s.rep.getD t 0).toNat) + mJ (s.bC.getD t []) := by unfold kS; rw [if_neg h1]
     have e2 : kS ⟨s.reach, s.bC.set t j, s.rep.set t (s.rep.getD t 0 + 1)⟩ t = (2 - (s.rep.getD t 0 + 1).toNat) + mJ j := by
      unfold kS
      simp only
      rw [cY (by rw [h.l3]; exact ht), cY (by rw [h.l2]; exact ht), if_neg h1]
     unfold jx
     omega
    refine ⟨⟨h.l1, by simp [h.l2], by simp [h.l3], fun x hx => ?_, fun x hx => ?_⟩, fun _ => hp, (fun e => by cases e)⟩
    ·rcases List.mem_or_eq_of_mem_set hx with h3 | rfl
     ·exact h.r16 _ h3
     ·exact Yc
    ·rcases List.mem_or_eq_of_mem_set hx with h3 | rfl
     ·have := h.rep x h3
      omega
     ·omega
end
section
open Go.RowKit
theorem bM {P : Program} {ops : Array Oper} {rest : List Oper} {op : Oper} {a : Act} {w : World} {Q : Exit → Act → World → Prop} (hw : Region.wanted op (yielded ops a.tmps) = true) (ty : TypeId) (x : Operand) (ho : op.op = .load ty x)
  (b o : Nat) (hx : a.eval x = .pointer (some ⟨b, o, none⟩)) (cs : List Value) (d : TypeDesc) (hc : w.rangeAt b o cs)
  (hu : P.underlying ty = some d) (hd : d.isRow = true) (hi : (P.info? ty).map (·.size) = some cs.length)
  (h : wpList P ops Q rest (a.put op.dst (.agg cs.toArray)) w) : wpList P ops Q (op :: rest) a w :=
 wpList_step fun K hK => by simp only [hw, if_true]; exact wp_load_mid ty x ho b o hx cs d hc hu hd hi (hK _ _ h)
theorem az (r : RG) : (aa r).length = r.length * 2 := by
 induction r with
 | nil => rfl
 | cons a l ih => simp only [aa, List.flatMap_cons, List.length_append, List.length_cons] at *; rw [ih]; simp; omega
theorem mD : ∀ (r : RG) (k j : Nat) (x : Int × Int), r[k]? = some x → j < 2 → (aa r)[k * 2 + j]? = [Value.int .i32 x.1, .int .i32 x.2][j]?
 | y :: L, 0, j, x, h, hj => by
  simp at h; subst h
  unfold aa
  rw [List.flatMap_cons, Nat.zero_mul, Nat.zero_add, List.getElem?_append_left (by simpa using hj)]
 | y :: L, k + 1, j, x, h, hj => by
  have h' : L[k]? = some x := by simpa using h
  have ih := mD L k j x h' hj
  unfold aa at ih ⊢
  rw [List.flatMap_cons, List.getElem?_append_right ah3, ← ih]
  simp only [List.length_cons, List.length_nil]
  congr 1
  omega
theorem sM : ∀ (r : RG) (k : Nat) (x : Int × Int), ((aa r).set (k * 2) (.int .i32 x.1)).set (k * 2 + 1) (.int .i32 x.2) = aa (r.set k x)
 | [], k, x => by simp [aa]
 | y :: L, 0, x => by simp [aa]
 | y :: L, k + 1, x => by
  have ih := sM L k x
  simp only [aa, List.flatMap_cons, ai0] at ih ⊢
  rw [← ih, show (k + 1) * 2 = k * 2 + 2 by omega]
  simp
theorem rE (r : RG) (k : Nat) : rg r (k : Int) = r.getD k (0, 0) := by simp [rg]
theorem iY {r : RG} {k : Nat} (hk : k < r.length) : r[k]? = some (rg r (k : Int)) := by
 rw [rE]
 simp [List.getD, List.getElem?_eq_getElem hk]
theorem Ba {r : RG} {k : Nat} (hk : k < r.length) : (aa r).toArray.extract (k * 2) (k * 2 + 2) = #[.int .i32 (rg r (k : Int)).1, .int .i32 (rg r (k : Int)).2] := by
 have hl := az r
 apply Array.ext
 ·simp; omega
 ·intro i h1 h2
  have h3 : i < 2 := by simpa using h2
  have := mD r k i _ (iY hk) h3
  rw [List.getElem?_eq_getElem ahU] at this
  simp only [Array.getElem_extract, aiV]
  rw [List.getElem?_eq_getElem (by simpa using h3)] at this
  simpa using this
theorem oW {r : RG} {k : Nat} (hk : k < r.length) (w : World) : (part 172 (aa r).toArray (k * 2)).run Tryz.prog w = .ok (.agg #[.int .i32 (rg r (k : Int)).1, .int .i32 (rg r (k : Int)).2]) w := by
 have h1 : (isAgg 172).run Tryz.prog w = .ok true w := by kernel_rfl
 have h2 : (sizeOf 172).run Tryz.prog w = .ok 2 w := by kernel_rfl
 unfold part
 simp only [Sem.run_bind, h1, h2, Result.andThen_ok, if_true, Sem.run_pure]
 rw [Ba hk]
theorem Am {r : RG} (hr : r.length = 16) {k : Nat} (hk : k < 16) (w : World) : (Instr.index 174 (.agg (aa r).toArray) (.int .i64 (k : Int))).run Tryz.prog w = .ok (.agg #[.int .i32 (rg r (k : Int)).1, .int .i32 (rg r (k : Int)).2]) w := by
 have h2 : (sizeOf 172).run Tryz.prog w = .ok 2 w := by kernel_rfl
 have h3 : (0 : Int) ≤ k ∧ (k : Int) < ((16 : Nat) : Int) := by omega
 have h4 := oW (r := r) (k := k) ahU w
 simp [Instr.index, run_underlying Tryz.underlying174, asIntOf, Sem.run_bind, h2, hk, h4]
theorem uS {P : Program} {w : World} (q : Nat → Bool) (g : Nat → Option Bool × PUnit → Sem (ForInStep (Option Bool × PUnit))) : ∀ (l : List Nat), (∀ i ∈ l, ∀ s, (g i s).run P w = .ok (if q i then .yield (none, ()) else .done (some false, ())) w) →
  (forIn l ((none, ()) : Option Bool × PUnit) g).run P w = .ok (if l.all q then (none, ()) else (some false, ())) w
 | [], _ => by simp
 | i :: l, h => by
  have ih := uS q g l (fun j hj => h j (List.mem_cons_of_mem _ hj))
  have h1 := h i (List.mem_cons_self ..) (none, ())
  rw [List.forIn_cons, Sem.run_bind, h1]
  cases hq : q i <;> simp [hq, ih]
theorem EB (d : Nat) {a b : RG} (ha : a.length = 16) (hb : b.length = 16) (w : World) : (Op.equalIn (d + 1 + 1 + 1) 174 (.agg (aa a).toArray) (.agg (aa b).toArray)).run Tryz.prog w = .ok (decide (a = b)) w := by
 rw [Op.equalIn]
 simp [run_underlying Tryz.underlying174, Sem.run_bind]
 rw [uS (fun i => decide (rg a (i : Int) = rg b (i : Int)))]
 ·have e : (List.range' 0 16).all (fun i => decide (rg a (i : Int) = rg b (i : Int))) = decide (a = b) := by
   rw [Bool.eq_iff_iff, List.all_eq_true, decide_eq_true_eq]
   constructor
   ·intro h
    apply List.ext_getElem?
    intro i
    by_cases hi : i < 16
    ·have := h i (by simp [List.mem_range'_1]; omega)
     rw [decide_eq_true_eq] at this
     rw [iY ahU, iY ahU, this]
    ·rw [List.getElem?_eq_none ahU, List.getElem?_eq_none ahU]
   ·rintro rfl i _
    simp
  rw [e]
  cases decide (a = b) <;> simp
 ·intro i hi s
  have hi2 : i < 16 := by simp [List.mem_range'_1] at hi; omega
  have h1 := oW (r := a) (k := i) ahU w
  have h2 := oW (r := b) (k := i) ahU w
  have h3 := Co d (rg a (i : Int)).1 (rg a (i : Int)).2 (rg b (i : Int)).1 (rg b (i : Int)).2 w
  simp only [Sem.run_bind, h1, h2, Result.andThen_ok, h3]
  by_cases h4 : rg a (i : Int) = rg b (i : Int)
  ·simp [h4]
  ·have : ((rg a (i : Int)).1 == (rg b (i : Int)).1 && (rg a (i : Int)).2 == (rg b (i : Int)).2) = false := by
    rw [Bool.eq_false_iff]
    intro h5
    rw [Bool.and_eq_true] at h5
    exact h4 (Prod.ext (by simpa using h5.1) (by simpa using h5.2))
   simp [this, h4]
theorem Cn {a b : RG} (ha : a.length = 16) (hb : b.length = 16) (w : World) : (binOp .eql 174 (.agg (aa a).toArray) (.agg (aa b).toArray)).run Tryz.prog w = .ok (.bool (decide (a = b))) w := by
 simp only [binOp]
 simp [Op.equal, Op.maxDepth, EB 9997 ha hb]
def aN (w : World) (b : Nat) (T : TypeId) (r : RG) : Prop := w.heap[b]? = some (.cells (aa r).toArray T (0, 0))
section
variable {w : World} {b : Nat} {T : TypeId} {r : RG}
theorem aN.lt (h : aN w b T r) : b < w.heap.size := (Array.getElem?_eq_some_iff.1 h).1
theorem aN.lo (h : aN w b T r) {k : Nat} (hk : k < r.length) : w.cell? ⟨b, k * 2, none⟩ = some (.int .i32 (rg r (k : Int)).1) := by
 have := mD r k 0 _ (iY hk) ahU
 unfold aN at h
 simpa [World.cell?, h] using this
theorem aN.hi (h : aN w b T r) {k : Nat} (hk : k < r.length) : w.cell? ⟨b, k * 2 + 1, none⟩ = some (.int .i32 (rg r (k : Int)).2) := by
 have := mD r k 1 _ (iY hk) ahU
 unfold aN at h
 simpa [World.cell?, h] using this
theorem aN.fz (h : aN w b T r) (o : Nat) : w.frozen? ⟨b, o, none⟩ = false := by unfold aN at h; simp [World.frozen?, h]
theorem aN.keep {w' : World} (h : aN w b T r) (hb : Below w.heap.size w w') : aN w' b T r := (hb.block b h.lt).trans h
theorem aN.set (h : aN w b T r) (k : Nat) (x : Int × Int) : aN ((w.setCell ⟨b, k * 2, none⟩ (.int .i32 x.1)).setCell ⟨b, k * 2 + 1, none⟩ (.int .i32 x.2)) b T (r.set k x) := by
 unfold aN at h ⊢
 rw [heap_setCell_same _ b _ _ T _ (heap_setCell_same w b _ _ T _ h), ← sM]
 simp
theorem aN.range (h : aN w b T r) : w.rangeAt b 0 (aa r) := fun j v hv => by
 unfold aN at h
 simp [World.cell?, h, hv]
end
end
section
open Go.RowKit
theorem mh (w : World) (cA cB : Array Value) (tA tB : TypeId) (x : Ext ((w.alloc (.cells cA tA)).alloc (.cells cB tB))) : w.heap.size + 1 < x.w.heap.size ∧ x.w.heap[w.heap.size]? = some (.cells cA tA (0, 0)) ∧ x.w.heap[w.heap.size + 1]? = some (.cells cB tB (0, 0)) ∧ Below w.heap.size w x.w := by
 have e2 : ((w.alloc (.cells cA tA)).alloc (.cells cB tB)).heap.size = w.heap.size + 1 + 1 := by simp only [World.size_alloc]
 have hs := x.h.size
 refine ⟨by omega, ?_, ?_, Ext.below (((Below.refl _ _).alloc (Nat.le_refl _) _).alloc ahZ _) ahU x⟩
 ·rw [x.h.block _ ahU, heap_alloc_old _ _ ahZ]; exact heap_alloc_new _ _
 ·rw [x.h.block _ ahU]; exact aG _ _ ahZ
theorem nU (op : Int) (h1 : 2 ≤ op) (h2 : op ≤ 13) (w : World) : Calls Tryz.prog 132 #[.int .u8 op] w fun e w' => e = .returned (.int .u8 (Gs op)) ∧ w = w' := by
 have h : op = 2 ∨ op = 3 ∨ op = 4 ∨ op = 5 ∨ op = 6 ∨ op = 7 ∨ op = 8 ∨ op = 9 ∨ op = 10 ∨ op = 11 ∨ op = 12 ∨ op = 13 := by omega
 rcases h with rfl | rfl | rfl | rfl | rfl | rfl | rfl | rfl | rfl | rfl | rfl | rfl
 all_goals
  go_enter Tryz.func132, Tryz.ntmps132
  go_wp2
  go_ret
  exact ⟨rfl, rfl⟩
theorem zJ (xl xh : Int) (h1 : xl = 0) (h2 : xh = 0) (w : World) : Calls Tryz.prog 135 #[.agg #[.int .i32 xl, .int .i32 xh]] w fun e w' => e = .returned (.agg #[.int .i32 (1), .int .i32 (0)]) ∧ Below w.heap.size w w' := by
 have E := ja xl xh 0 0
 have hb : (xl == 0 && xh == 0) = true := by simp [h1, h2]
 rw [hb] at E
 clear h1 h2
 go_enter Tryz.func135, Tryz.ntmps135
 go_wp2
 refine aj ahV ahV ?_
 repeat (go_big_quiet_step (exact Calls.ax (cj 0 _)))
 refine wpQuiet_nil ?_
 rintro _ ⟨x, rfl⟩
 obtain ⟨hz2, k0, k1, kL⟩ := mh w _ _ _ _ x
 have hz1 : w.heap.size < x.w.heap.size := by omega
 have c0 : x.w.cell? ⟨w.heap.size, 0, none⟩ = some (.int .i32 xl) := by rw [cell_of_row _ _ _ _ _ _ k0]; rfl
 have c1 : x.w.cell? ⟨w.heap.size, 1, none⟩ = some (.int .i32 xh) := by rw [cell_of_row _ _ _ _ _ _ k0]; rfl
 have c2 : x.w.cell? ⟨w.heap.size + 1, 0, none⟩ = some (.int .i32 0) := by rw [cell_of_row _ _ _ _ _ _ k1]; rfl
 have c3 : x.w.cell? ⟨w.heap.size + 1, 1, none⟩ = some (.int .i32 0) := by rw [cell_of_row _ _ _ _ _ _ k1]; rfl
 clear k0 k1 kL
 go_wp2_with (go_at_call 128; refine (Calls.ax (av _)).mono ?_; rintro e w' ⟨rfl, y, rfl⟩)
 all_goals
  refine bodyPost_ret (v := .agg #[.int .i32 (1), .int .i32 (0)]) ?hr rfl ⟨rfl, ?aD⟩
  case hr =>
   simp [results, Tryz.results135, go_sem]
  case aD =>
   exact aiR
theorem zL (xl xh : Int) (h1 : xl = 0) (h2 : xh ≠ 0) (w : World) : Calls Tryz.prog 135 #[.agg #[.int .i32 xl, .int .i32 xh]] w fun e w' => e = .returned (.agg #[.int .i32 (1), .int .i32 (xh)]) ∧ Below w.heap.size w w' := by
 have E := ja xl xh 0 0
 have hb : (xl == 0 && xh == 0) = false := by simp [h2]
 rw [hb] at E
 have d1 : (xl == 0) = true := by simp [h1]
 clear h1 h2
 go_enter Tryz.func135, Tryz.ntmps135
 go_wp2
 refine aj ahV ahV ?_
 repeat (go_big_quiet_step (exact Calls.ax (cj 0 _)))
 refine wpQuiet_nil ?_
 rintro _ ⟨x, rfl⟩
 obtain ⟨hz2, k0, k1, kL⟩ := mh w _ _ _ _ x
 have hz1 : w.heap.size < x.w.heap.size := by omega
 have c0 : x.w.cell? ⟨w.heap.size, 0, none⟩ = some (.int .i32 xl) := by rw [cell_of_row _ _ _ _ _ _ k0]; rfl
 have c1 : x.w.cell? ⟨w.heap.size, 1, none⟩ = some (.int .i32 xh) := by rw [cell_of_row _ _ _ _ _ _ k0]; rfl
 have c2 : x.w.cell? ⟨w.heap.size + 1, 0, none⟩ = some (.int .i32 0) := by rw [cell_of_row _ _ _ _ _ _ k1]; rfl
 have c3 : x.w.cell? ⟨w.heap.size + 1, 1, none⟩ = some (.int .i32 0) := by rw [cell_of_row _ _ _ _ _ _ k1]; rfl
 clear k0 k1 kL
 go_wp2_with (go_at_call 128; refine (Calls.ax (av _)).mono ?_; rintro e w' ⟨rfl, y, rfl⟩)
 all_goals
  refine bodyPost_ret (v := .agg #[.int .i32 (1), .int .i32 (xh)]) ?hr rfl ⟨rfl, ?aD⟩
  case hr =>
   simp [results, Tryz.results135, go_sem]
  case aD =>
   exact aiR
theorem zM (xl xh : Int) (h1 : xl ≠ 0) (h2 : xh = 0) (w : World) : Calls Tryz.prog 135 #[.agg #[.int .i32 xl, .int .i32 xh]] w fun e w' => e = .returned (.agg #[.int .i32 (xl), .int .i32 (-1)]) ∧ Below w.heap.size w w' := by
 have E := ja xl xh 0 0
 have hb : (xl == 0 && xh == 0) = false := by simp [h1]
 rw [hb] at E
 have d1 : (xl == 0) = false := by simp [h1]
 have d2 : (xh == 0) = true := by simp [h2]
 clear h1 h2
 go_enter Tryz.func135, Tryz.ntmps135
 go_wp2
 refine aj ahV ahV ?_
 repeat (go_big_quiet_step (exact Calls.ax (cj 0 _)))
 refine wpQuiet_nil ?_
 rintro _ ⟨x, rfl⟩
 obtain ⟨hz2, k0, k1, kL⟩ := mh w _ _ _ _ x
 have hz1 : w.heap.size < x.w.heap.size := by omega
 have c0 : x.w.cell? ⟨w.heap.size, 0, none⟩ = some (.int .i32 xl) := by rw [cell_of_row _ _ _ _ _ _ k0]; rfl
 have c1 : x.w.cell? ⟨w.heap.size, 1, none⟩ = some (.int .i32 xh) := by rw [cell_of_row _ _ _ _ _ _ k0]; rfl
 have c2 : x.w.cell? ⟨w.heap.size + 1, 0, none⟩ = some (.int .i32 0) := by rw [cell_of_row _ _ _ _ _ _ k1]; rfl
 have c3 : x.w.cell? ⟨w.heap.size + 1, 1, none⟩ = some (.int .i32 0) := by rw [cell_of_row _ _ _ _ _ _ k1]; rfl
 clear k0 k1 kL
 go_wp2_with (go_at_call 128; refine (Calls.ax (av _)).mono ?_; rintro e w' ⟨rfl, y, rfl⟩)
 all_goals
  refine bodyPost_ret (v := .agg #[.int .i32 (xl), .int .i32 (-1)]) ?hr rfl ⟨rfl, ?aD⟩
  case hr =>
   simp [results, Tryz.results135, go_sem]
  case aD =>
   exact aiR
theorem zK (xl xh : Int) (h1 : xl ≠ 0) (h2 : xh ≠ 0) (w : World) : Calls Tryz.prog 135 #[.agg #[.int .i32 xl, .int .i32 xh]] w fun e w' => e = .returned (.agg #[.int .i32 (xl), .int .i32 (xh)]) ∧ Below w.heap.size w w' := by
 have E := ja xl xh 0 0
 have hb : (xl == 0 && xh == 0) = false := by simp [h1]
 rw [hb] at E
 have d1 : (xl == 0) = false := by simp [h1]
 have d2 : (xh == 0) = false := by simp [h2]
 clear h1 h2
 go_enter Tryz.func135, Tryz.ntmps135
 go_wp2
 refine aj ahV ahV ?_
 repeat (go_big_quiet_step (exact Calls.ax (cj 0 _)))
 refine wpQuiet_nil ?_
 rintro _ ⟨x, rfl⟩
 obtain ⟨hz2, k0, k1, kL⟩ := mh w _ _ _ _ x
 have hz1 : w.heap.size < x.w.heap.size := by omega
 have c0 : x.w.cell? ⟨w.heap.size, 0, none⟩ = some (.int .i32 xl) := by rw [cell_of_row _ _ _ _ _ _ k0]; rfl
 have c1 : x.w.cell? ⟨w.heap.size, 1, none⟩ = some (.int .i32 xh) := by rw [cell_of_row _ _ _ _ _ _ k0]; rfl
 have c2 : x.w.cell? ⟨w.heap.size + 1, 0, none⟩ = some (.int .i32 0) := by rw [cell_of_row _ _ _ _ _ _ k1]; rfl
 have c3 : x.w.cell? ⟨w.heap.size + 1, 1, none⟩ = some (.int .i32 0) := by rw [cell_of_row _ _ _ _ _ _ k1]; rfl
 clear k0 k1 kL
 go_wp2_with (go_at_call 128; refine (Calls.ax (av _)).mono ?_; rintro e w' ⟨rfl, y, rfl⟩)
 all_goals
  refine bodyPost_ret (v := .agg #[.int .i32 (xl), .int .i32 (xh)]) ?hr rfl ⟨rfl, ?aD⟩
  case hr =>
   simp [results, Tryz.results135, go_sem]
  case aD =>
   exact aiR
theorem xm (xl xh : Int) (w : World) : Calls Tryz.prog 135 #[.agg #[.int .i32 xl, .int .i32 xh]] w fun e w' => e = .returned (.agg #[.int .i32 (fY (xl, xh)).1, .int .i32 (fY (xl, xh)).2]) ∧ Below w.heap.size w w' := by
 by_cases h1 : xl = 0 <;> by_cases h2 : xh = 0
 ·refine (zJ xl xh h1 h2 w).mono fun e w' ⟨q, hb⟩ => ⟨q.trans ?_, hb⟩
  simp [fY, h1, h2]
 ·refine (zL xl xh h1 h2 w).mono fun e w' ⟨q, hb⟩ => ⟨q.trans ?_, hb⟩
  simp [fY, h1, h2]
 ·refine (zM xl xh h1 h2 w).mono fun e w' ⟨q, hb⟩ => ⟨q.trans ?_, hb⟩
  simp [fY, h1, h2]
 ·refine (zK xl xh h1 h2 w).mono fun e w' ⟨q, hb⟩ => ⟨q.trans ?_, hb⟩
  simp [fY, h1, h2]
theorem zX {r : RG} {k : Nat} (hk : k < r.length) (h : (rg r (k : Int)).2 < (rg r (k : Int)).1) : cu r = false := by
 have : r.all (fun x => decide (x.1 ≤ x.2)) = false := by
  rw [List.all_eq_false]
  refine ⟨rg r (k : Int), List.mem_of_getElem? (iY hk), ?_⟩
  simp; omega
 simp [cu, this]
theorem xS {r : RG} (h : ∀ k, k < r.length → (rg r (k : Int)).1 ≤ (rg r (k : Int)).2) : cu r = decide (rg r 0 = (0, 0)) := by
 have : r.all (fun x => decide (x.1 ≤ x.2)) = true := by
  rw [List.all_eq_true]
  intro x hx
  obtain ⟨k, hk⟩ := List.mem_iff_getElem?.1 hx
  have hl := (List.getElem?_eq_some_iff.1 hk).1
  have e := iY hl
  rw [hk] at e
  have := h k hl
  rw [← Option.some.inj e] at this
  simpa using this
 simp [cu, this]
theorem eW (r : RG) (hr : r.length = 16) (w : World) : Calls Tryz.prog 129 #[.agg (aa r).toArray] w fun e w' => e = .returned (.bool (cu r)) ∧ Below w.heap.size w w' := by
 obtain ⟨V, hV⟩ : ∃ V, w.alloc (.cells (aa r).toArray 174) = V := ⟨_, rfl⟩
 have bV : Below w.heap.size w V := hV ▸ (Below.refl _ _).alloc (Nat.le_refl _) _
 have kV : aN V w.heap.size 174 r := by rw [← hV]; exact heap_alloc_new _ _
 have hrg := kV.range
 have Ep : (Tryz.prog.info? 174).map (·.size) = some (aa r).length := by rw [az, hr]; kernel_rfl
 have sV := kV.lt
 have KV := aiU kV
 have BV := aiU bV
 have HR := aiU hr
 clear kV bV hr
 go_enter Tryz.func129, Tryz.ntmps129
 go_upto_region 2 with (refine wpList_load_mid rfl 174 (.tmp 1) rfl w.heap.size 0 rfl (aa r) _ hrg Tryz.underlying174 rfl Ep ?_)
 clear hV
 go_loopw [4, 6] (fun a4 a6 wr => ∃ k : Nat, k ≤ 16 ∧ a6 = .int .i64 (k : Int) ∧ (∀ j : Nat, j < k → (rg r (j : Int)).1 ≤ (rg r (j : Int)).2) ∧ Below V.heap.size V wr) (fun _ a6 _ => 16 - (intOf a6).toNat)
 case atStart => exact ⟨0, by omega, rfl, fun j hj => by omega, Below.refl _ _⟩
 case round =>
  obtain ⟨k, hk, rfl, hall, hb⟩ := hrel
  have HA := aiU hall
  have HB := aiU hb
  have hsz := hb.size
  clear hall hb
  by_cases hlt : k < 16
  ·have dl : decide ((k : Int) < 16) = true := decide_eq_true ahU
   have hix := Am HR.out hlt
   obtain ⟨lo, hlo⟩ : ∃ lo, (rg r (k : Int)).1 = lo := ⟨_, rfl⟩
   obtain ⟨hi, hhi⟩ : ∃ hi, (rg r (k : Int)).2 = hi := ⟨_, rfl⟩
   rw [hlo, hhi] at hix
   have WD := aiU hlo
   have HHI := aiU hhi
   clear hlo hhi
   have N3 := aiU (af lo hi)
   by_cases he : hi < lo
   ·have d2 : decide (hi < lo) = true := decide_eq_true he
    go_wp2_with (go_at_call 127; refine (N3.out _).mono ?_; rintro e w' ⟨rfl, hb2⟩)
    go_ret
    refine ⟨by rw [zX (by rw [HR.out]; exact hlt) (by rw [WD.out, HHI.out]; exact he)]; rfl, BV.out.trans ((HB.out.trans ?_).mono BV.out.size)⟩
    exact (((Below.refl _ _).alloc (Nat.le_refl _) _).trans (hb2.mono ahZ)).mono hsz
   ·have d2 : decide (hi < lo) = false := decide_eq_false he
    go_wp2_with (go_at_call 127; refine (N3.out _).mono ?_; rintro e w' ⟨rfl, hb2⟩)
    go_roundw
    case rel =>
     refine ⟨k + 1, by omega, by go_num, fun j hj => ?_, HB.out.trans ((((Below.refl _ _).alloc (Nat.le_refl _) _).trans (hb2.mono ahZ)).mono hsz)⟩
     by_cases hjk : j = k
     ·subst hjk; rw [WD.out, HHI.out]; omega
     ·exact HA.out j ahU
    case measure => simp [intOf]; omega
  ·have HK := aiU (show k = 16 by omega)
   have HP := aiU (xS (r := r) (fun j hj => HA.out j (by rw [HR.out] at hj; rw [HK.out]; exact hj)))
   have KW := KV.out.keep HB.out
   obtain ⟨lo, hlo⟩ : ∃ lo, (rg r 0).1 = lo := ⟨_, rfl⟩
   obtain ⟨hi, hhi⟩ : ∃ hi, (rg r 0).2 = hi := ⟨_, rfl⟩
   have c0 : wr.cell? ⟨w.heap.size, 0, none⟩ = some (.int .i32 lo) := by rw [← hlo]; simpa using KW.lo (k := 0) (by rw [HR.out]; omega)
   have c1 : wr.cell? ⟨w.heap.size, 1, none⟩ = some (.int .i32 hi) := by rw [← hhi]; simpa using KW.hi (k := 0) (by rw [HR.out]; omega)
   have E := ja lo hi 0 0
   have HQ := aiU (show cu r = (lo == 0 && hi == 0) by
    rw [HP.out, ← hlo, ← hhi, Bool.eq_iff_iff, decide_eq_true_eq, Bool.and_eq_true, beq_iff_eq, beq_iff_eq, Prod.ext_iff])
   have sW : w.heap.size < wr.heap.size := by omega
   clear KW hlo hhi hrg
   have dl : decide ((k : Int) < 16) = false := decide_eq_false ahU
   go_upto_region 7 with fail
   refine aj ahV ahV ?_
   repeat (go_big_quiet_step (exact Calls.ax (cj 0 _)))
   refine wpQuiet_nil ?_
   rintro _ ⟨x, rfl⟩
   go_wp2_with fail
   go_ret
   exact ⟨by rw [HQ.out]; rfl, BV.out.trans ((HB.out.trans (x.h.mono hsz)).mono BV.out.size)⟩
end
section
open Go.RowKit
def dB : Option RG → Value
 | none => .tuple #[.agg (aa aA).toArray, .bool false]
 | some r => .tuple #[.agg (aa r).toArray, .bool true]
theorem bP {w : World} {ib : Nat} {o a b c i : Int} (h : w.heap[ib]? = some (.cells #[.int .u8 o, .int .i64 a, .int .i64 b, .int .i64 c, .int .i64 i] 67 (0, 0))) :
  w.cell? ⟨ib, 0, none⟩ = some (.int .u8 o) ∧ w.cell? ⟨ib, 1, none⟩ = some (.int .i64 a) ∧ w.cell? ⟨ib, 2, none⟩ = some (.int .i64 b) ∧ w.cell? ⟨ib, 3, none⟩ = some (.int .i64 c) ∧ w.cell? ⟨ib, 4, none⟩ = some (.int .i64 i) ∧ ib < w.heap.size :=
 ⟨cell_of_row _ _ _ _ _ _ h, cell_of_row _ _ _ _ _ _ h, cell_of_row _ _ _ _ _ _ h, cell_of_row _ _ _ _ _ _ h, cell_of_row _ _ _ _ _ _ h, (Array.getElem?_eq_some_iff.1 h).1⟩
theorem dP (w : World) (cA cB cC : Array Value) (tA tB tC : TypeId) : ∃ V, ((w.alloc (.cells cA tA)).alloc (.cells cB tB)).alloc (.cells cC tC) = V ∧ V.heap[w.heap.size]? = some (.cells cA tA (0, 0)) ∧ V.heap[w.heap.size + 1]? = some (.cells cB tB (0, 0)) ∧ V.heap[w.heap.size + 1 + 1]? = some (.cells cC tC (0, 0)) ∧ Below w.heap.size w V ∧ w.heap.size + 1 + 1 < V.heap.size := by
 refine ⟨_, rfl, ?_, ?_, aG _ _ ahZ, (((Below.refl _ _).alloc (Nat.le_refl _) _).alloc ahZ _).alloc ah3 _, by simp⟩
 ·rw [heap_alloc_old _ _ ah3, heap_alloc_old _ _ ahZ]; exact heap_alloc_new _ _
 ·rw [heap_alloc_old _ _ ahZ]; exact aG _ _ ahZ
theorem ay (r : RG) : (aa r).toArray.all (·.oneCell') = true := all_oneCell_toArray fun v hv => by
 unfold aa at hv
 obtain ⟨x, _, h⟩ := List.mem_flatMap.1 hv
 simp only [List.mem_cons, List.not_mem_nil, or_false] at h
 rcases h with rfl | rfl <;> rfl
theorem xA (op a b c im : Int) (h0 : 0 ≤ op) (r : RG) (hr : R16 r) (w : World) (T : gZ w) (hno : aT ⟨op, a, b, c, im⟩ = false ∨ (aT ⟨op, a, b, c, im⟩ = true ∧ cu r = false)) :
  Calls Tryz.prog 107 #[.agg #[.int .u8 op, .int .i64 a, .int .i64 b, .int .i64 c, .int .i64 im], .agg (aa r).toArray] w fun e w' => e = .returned (dB none) ∧ Below w.heap.size w w' := by
 obtain ⟨V, hV, k0, k1, k2, bV, sV⟩ := dP w #[.int .u8 op, .int .i64 a, .int .i64 b, .int .i64 c, .int .i64 im] (aa r).toArray ai3.toArray 67 174 174
 obtain ⟨a0, a1, a2, a3, a4, lV⟩ := bP k0
 have K1 := aiU (show aN V (w.heap.size + 1) 174 r from k1)
 have mO := aiU (show (Tryz.prog.info? 174).map (·.size) = some (aa r).length by rw [az, hr.len]; kernel_rfl)
 have K2 := aiU k2
 have BV := aiU bV
 have lD := aiU (Calls.ext (dO ⟨op, a, b, c, im⟩ h0 V (T.below bV)))
 have oL := aiU (fun x : Ext V => Calls.ax (x := x) (eW r hr.len x.w))
 clear k0 k1 k2 bV
 go_enter Tryz.func107, Tryz.ntmps107
 go_upto_region 1 with fail
 clear hV
 rcases hno with hv | ⟨hv, hp⟩
 ·rw [hv] at lD
  go_wp2_with (first | (go_at_call 55; refine lD.out.mono ?_; rintro e w' ⟨rfl, y, rfl⟩) | (refine wpList_store_row rfl 174 (.tmp 4) (.tmp 16) rfl (w.heap.size + 1 + 1) ai3.toArray rfl rfl 174 _ (((Ext.h _).block _ sV).trans K2.out) ahV rfl ahX ?_))
  refine bodyPost_ret (results_cell_tmp (P := Tryz.prog) Tryz.results107 _ _ (w.heap.size + 1 + 1) ai3 _ rfl (aM (setRow_heap _ _ _ _ _ _ ((y.h.block _ sV).trans K2.out))) Tryz.underlying174 rfl ahV) rfl ⟨rfl, below_setRow (BV.out.trans (y.h.mono BV.out.size)) ahU _⟩
 ·rw [hv] at lD
  rw [hp] at oL
  go_wp2_with (first | (go_at_call 55; refine lD.out.mono ?_; rintro e w' ⟨rfl, y, rfl⟩) | (go_at_call 129; refine (oL.out _).mono ?_; rintro e w' ⟨rfl, z, rfl⟩) | (refine bM ah7 _ _ rfl _ _ rfl (aa r) _ (K1.out.keep (Ext.h _)).range Tryz.underlying174 rfl mO.out ?_) | (refine wpList_store_row rfl 174 (.tmp 4) (.tmp 16) rfl (w.heap.size + 1 + 1) ai3.toArray rfl rfl 174 _ (((Ext.h _).block _ sV).trans K2.out) ahV rfl ahX ?_))
  refine bodyPost_ret (results_cell_tmp (P := Tryz.prog) Tryz.results107 _ _ (w.heap.size + 1 + 1) ai3 _ rfl (aM (setRow_heap _ _ _ _ _ _ ((z.h.block _ sV).trans K2.out))) Tryz.underlying174 rfl ahV) rfl ⟨rfl, below_setRow (BV.out.trans (z.h.mono BV.out.size)) ahU _⟩
theorem xJ {r : RG} (hl : r.length = 16) (h0 : rg r 0 = (0, 0)) (an : Nat) (x : Int × Int) : (r.set an x).set 0 (0, 0) = cL r (an : Int) x := by
 have hz : r.set 0 (0, 0) = r := by
  apply List.ext_getElem?
  intro i
  by_cases hi : i = 0
  ·subst hi
   rw [List.getElem?_set]
   have := iY (r := r) (k := 0) ahU
   rw [show ((0 : Nat) : Int) = 0 from rfl] at this
   rw [this]
   simp [hl]
   exact h0.symm
  ·rw [List.getElem?_set]; simp [Ne.symm hi]
 unfold cL
 by_cases ha : an = 0
 ·subst ha
  simp [hz]
 ·rw [if_neg ahU, List.set_comm _ _ ha, hz]
  simp
theorem um {r : RG} (hl : r.length = 16) (h0 : rg r 0 = (0, 0)) : r.set 0 (0, 0) = r := by
 have h := xJ hl h0 0 (0, 0)
 rw [List.set_set] at h
 rw [h]
 rfl
theorem lN {r : RG} (h : cu r = true) : rg r 0 = (0, 0) := by
 unfold cu at h
 rw [Bool.and_eq_true, decide_eq_true_eq] at h
 exact h.2
end
section
open Go.RowKit
theorem Ii (w : World) (cA cB cC cD : Array Value) (tA tB tC tD : TypeId) : ∃ V, (((w.alloc (.cells cA tA)).alloc (.cells cB tB)).alloc (.cells cC tC)).alloc (.cells cD tD) = V ∧ V.heap[w.heap.size]? = some (.cells cA tA (0, 0)) ∧ V.heap[w.heap.size + 1]? = some (.cells cB tB (0, 0)) ∧ V.heap[w.heap.size + 1 + 1]? = some (.cells cC tC (0, 0)) ∧ V.heap[w.heap.size + 1 + 1 + 1]? = some (.cells cD tD (0, 0)) ∧ Below w.heap.size w V ∧ w.heap.size + 1 + 1 + 1 < V.heap.size := by
 obtain ⟨V, e, h0, h1, h2, hb, hs⟩ := dP w cA cB cC tA tB tC
 have hs3 : V.heap.size = w.heap.size + 1 + 1 + 1 := by rw [← e]; simp
 refine ⟨V.alloc (.cells cD tD), by rw [← e], ?_, ?_, ?_, ?_, hb.alloc ahU _, by simp; omega⟩
 ·rw [heap_alloc_old _ _ ahU]; exact h0
 ·rw [heap_alloc_old _ _ ahU]; exact h1
 ·rw [heap_alloc_old _ _ ahU]; exact h2
 ·rw [← hs3]; exact heap_alloc_new _ _
theorem G6 {x y z : RG} {F : Int × Int → Int × Int → Int × Int} (hx : x.length = 16) (hy : y.length = 16) (hz : z.length = 16) (h : ∀ j : Nat, j < 16 → rg z (j : Int) = F (rg x (j : Int)) (rg y (j : Int))) : z = List.zipWith F x y := by
 apply List.ext_getElem?
 intro i
 by_cases hi : i < 16
 ·have := h i hi
  rw [iY ahU, this]
  rw [List.getElem?_zipWith, iY ahU, iY ahU]
 ·rw [List.getElem?_eq_none ahU, List.getElem?_eq_none (by rw [List.length_zipWith]; omega)]
theorem jo (fid : FuncId) (F : Int × Int → Int × Int → Int × Int) (he : ∀ (args : Array Value) (w : World), (callFunc fid args).run Tryz.prog w = .ok (.enter fid args) w)
  (hF : ∀ a b c d w, Calls Tryz.prog fid #[.agg #[.int .i32 a, .int .i32 b], .agg #[.int .i32 c, .int .i32 d]] w fun e w' => e = .returned (.agg #[.int .i32 (F (a, b) (c, d)).1, .int .i32 (F (a, b) (c, d)).2]) ∧ Below w.heap.size w w')
  (x y : RG) (hx : x.length = 16) (hy : y.length = 16) (w : World) :
  Calls Tryz.prog 104 #[.agg (aa x).toArray, .agg (aa y).toArray, .func (.func fid) #[] #[]] w fun e w' => e = .returned (.agg (aa (List.zipWith F x y)).toArray) ∧ Below w.heap.size w w' := by
 obtain ⟨V, hV, k0, k1, k2, k3, bV, sV⟩ := Ii w (aa x).toArray (aa y).toArray ai3.toArray ai3.toArray 174 174 174 174
 have K0 := aiU (show aN V w.heap.size 174 x from k0)
 have K1 := aiU (show aN V (w.heap.size + 1) 174 y from k1)
 have K2 := aiU k2
 have K3 := aiU (show aN V (w.heap.size + 1 + 1 + 1) 174 aA from k3)
 have BV := aiU bV
 have HX := aiU hx
 have HY := aiU hy
 have HF := aiU hF
 clear k0 k1 k2 k3 bV hF hx hy
 go_enter Tryz.func104, Tryz.ntmps104
 go_upto_region 3 with fail
 clear hV
 go_loopw [9] (fun a9 wr => ∃ k : Nat, ∃ z : RG, k ≤ 16 ∧ a9 = .int .i64 (k : Int) ∧ z.length = 16 ∧ (∀ j : Nat, j < k → rg z (j : Int) = F (rg x (j : Int)) (rg y (j : Int))) ∧ Below (w.heap.size + 1 + 1 + 1) V wr ∧ aN wr (w.heap.size + 1 + 1 + 1) 174 z) (fun a9 _ => 16 - (intOf a9).toNat)
 case atStart => exact ⟨0, aA, by omega, rfl, by simp [aA], fun j hj => by omega, Below.refl _ _, K3.out⟩
 case round =>
  obtain ⟨k, z, hk, rfl, hz, hall, hb, kz⟩ := hrel
  have HA := aiU hall
  have HB := aiU hb
  have HZ := aiU hz
  have Ut := aiU hb.size
  clear hall hb hz
  by_cases hlt : k < 16
  ·have dl : decide ((k : Int) < 16) = true := decide_eq_true ahU
   have ik : (k : Int) < 16 := by omega
   have KX : aN wr w.heap.size 174 x := (HB.out.block _ ahU).trans K0.out
   have KY : aN wr (w.heap.size + 1) 174 y := (HB.out.block _ ahU).trans K1.out
   obtain ⟨xl, hxl⟩ : ∃ v, (rg x (k : Int)).1 = v := ⟨_, rfl⟩
   obtain ⟨xh, qP⟩ : ∃ v, (rg x (k : Int)).2 = v := ⟨_, rfl⟩
   obtain ⟨yl, XI⟩ : ∃ v, (rg y (k : Int)).1 = v := ⟨_, rfl⟩
   obtain ⟨yh, QG⟩ : ∃ v, (rg y (k : Int)).2 = v := ⟨_, rfl⟩
   have c0 : wr.cell? ⟨w.heap.size, k * 2, none⟩ = some (.int .i32 xl) := by rw [← hxl]; exact KX.lo (by rw [HX.out]; exact hlt)
   have c1 : wr.cell? ⟨w.heap.size, k * 2 + 1, none⟩ = some (.int .i32 xh) := by rw [← qP]; exact KX.hi (by rw [HX.out]; exact hlt)
   have c2 : wr.cell? ⟨w.heap.size + 1, k * 2, none⟩ = some (.int .i32 yl) := by rw [← XI]; exact KY.lo (by rw [HY.out]; exact hlt)
   have c3 : wr.cell? ⟨w.heap.size + 1, k * 2 + 1, none⟩ = some (.int .i32 yh) := by rw [← QG]; exact KY.hi (by rw [HY.out]; exact hlt)
   have l0 : w.heap.size < wr.heap.size := KX.lt
   have l1 : w.heap.size + 1 < wr.heap.size := KY.lt
   have l3 : w.heap.size + 1 + 1 + 1 < wr.heap.size := kz.lt
   have f0 : wr.frozen? ⟨w.heap.size + 1 + 1 + 1, k * 2, none⟩ = false := kz.fz _
   have f1 : wr.frozen? ⟨w.heap.size + 1 + 1 + 1, k * 2 + 1, none⟩ = false := kz.fz _
   have z0 : wr.cell? ⟨w.heap.size + 1 + 1 + 1, k * 2, none⟩ = some (.int .i32 (rg z (k : Int)).1) := kz.lo (by rw [HZ.out]; exact hlt)
   have z1 : wr.cell? ⟨w.heap.size + 1 + 1 + 1, k * 2 + 1, none⟩ = some (.int .i32 (rg z (k : Int)).2) := kz.hi (by rw [HZ.out]; exact hlt)
   obtain ⟨p, q, hp⟩ : ∃ p q, F (xl, xh) (yl, yh) = (p, q) := ⟨_, _, rfl⟩
   have HG := aiU (show ∀ w, Calls Tryz.prog fid #[.agg #[.int .i32 xl, .int .i32 xh], .agg #[.int .i32 yl, .int .i32 yh]] w fun e w' => e = .returned (.agg #[.int .i32 p, .int .i32 q]) ∧ Below w.heap.size w w' from fun w => by
    have := HF.out xl xh yl yh w
    rw [hp] at this
    exact this)
   have HP := aiU (show F (rg x (k : Int)) (rg y (k : Int)) = (p, q) by rw [← hp, ← hxl, ← qP, ← XI, ← QG])
   have KZ := aiU kz
   clear hp hxl qP XI QG KX KY kz
   go_upto_region 5 with fail
   refine aI 9 ahV ahV ?_
   simp only [ai1, List.take_zero, ai2, List.drop_zero]
   repeat (go_big_quiet_step (exact Calls.ax (HG.out _)))
   refine wpQuiet_nil ?_
   rintro _ ⟨x1, rfl⟩
   go_wp2_with fail
   go_roundw
   case rel =>
    refine ⟨k + 1, z.set k (p, q), by omega, by go_num, by rw [List.length_set]; exact HZ.out, fun j hj => ?_, ?_, (KZ.out.keep x1.h).set k (p, q)⟩
    ·by_cases hjk : j = k
     ·subst hjk
      rw [HP.out, rE]
      simp [List.getD, show j < z.length by rw [HZ.out]; exact hlt]
     ·have := HA.out j ahU
      rw [← this, rE, rE]
      simp [List.getD, List.getElem?_set, Ne.symm hjk]
    ·exact Below.setCell (Below.setCell (HB.out.trans (x1.h.mono (by have := Ut.out; omega))) (Nat.le_refl _) _) (Nat.le_refl _) _
   case measure => simp [intOf]; omega
  ·obtain rfl : k = 16 := by omega
   have HR := aiU (G6 HX.out HY.out HZ.out HA.out)
   have lF := aiU kz.range
   have zC := aiU (show (Tryz.prog.info? 174).map (·.size) = some (aa z).length by rw [az, HZ.out]; kernel_rfl)
   have Mz := aiU (show (Tryz.prog.info? 174).map (·.size) = some (aa z).toArray.size by rw [List.size_toArray, az, HZ.out]; kernel_rfl)
   have My := aiU (show (ai3.toArray : Array Value).size = (aa z).toArray.size by rw [show (aa z).toArray.size = 32 by rw [List.size_toArray, az, HZ.out]]; rfl)
   have wT := aiU (ay z)
   have KO := aiU ((HB.out.block _ ahU).trans K2.out)
   go_wp2_with (first | (refine wpList_load_mid rfl _ _ rfl _ _ rfl (aa z) _ lF.out Tryz.underlying174 rfl zC.out ?_) | (refine wpList_store_row rfl 174 (.tmp 6) (.tmp 23) rfl (w.heap.size + 1 + 1) (aa z).toArray rfl rfl 174 _ KO.out Mz.out My.out wT.out ?_))
   refine bodyPost_ret (vF (P := Tryz.prog) Tryz.results104 _ _ (w.heap.size + 1 + 1) (aa z) _ rfl (aM (setRow_heap _ _ _ _ _ _ KO.out)) Tryz.underlying174 rfl zC.out) rfl ⟨?_, below_setRow (BV.out.trans (HB.out.mono ahU)) ahU _⟩
   rw [HR.out]
end
section
open Go.RowKit
theorem r8 (l : List Int) : bg (aK l).1 ∧ bg (aK l).2 := by
 rcases Ap l with h | ⟨h, h1, h2⟩
 ·rw [h]; unfold bg; simp only; omega
 ·rw [h]
  have h3 : Fj l ≤ r9 l := by
   by_cases hl : l = []
   ·subst hl; decide
   ·exact Int.le_trans (Oz (nW hl)) (OA (nW hl))
  unfold bg
  simp only
  omega
theorem MI (a n : Bool) : bg (kP a n).1 ∧ bg (kP a n).2 := by cases a <;> cases n <;> (unfold kP bg; simp)
theorem GF {x y : Int × Int} (hx : bg x.1 ∧ bg x.2) (hy : bg y.1 ∧ bg y.2) : bg (aJ x y).1 ∧ bg (aJ x y).2 := by
 unfold aJ bg at *
 split <;> simp only <;> omega
theorem Oa {x y : Int} (h : bg x) : bg (x.tmod y) := by
 unfold bg at *
 have h1 := Int.natAbs_tmod x y
 have h2 : x.natAbs % y.natAbs ≤ x.natAbs := Nat.mod_le _ _
 by_cases h0 : 0 ≤ x
 ·have := Int.tmod_nonneg y h0
  omega
 ·have h3 : 0 ≤ (-x).tmod y := Int.tmod_nonneg y ahU
  rw [Int.neg_tmod] at h3
  omega
theorem Gc {a : Int} (h : bg a) (n : Nat) : bg (a / 2 ^ n) := by
 have h1 := Ob a n
 unfold bg at *
 by_cases h2 : 0 ≤ a
 ·have := h1.1 h2; omega
 ·have := h1.2 ahU; omega
theorem TU (b : Bool) : bg (wM b) := by cases b <;> (unfold bg wM; simp)
theorem Sw {c : Prop} [Decidable c] {a b : Int} (ha : bg a) (hb : bg b) : bg (if c then a else b) := by split <;> assumption
theorem RD {op a b : Int} (ha : bg a) : bg (wv op a b) := by
 have z : bg 0 := by unfold bg; omega
 unfold wv
 repeat' (first | exact pR _ | exact EW _ _ _ | exact TU _ | exact z | exact Oa ha | exact Gc ha _ | refine Sw ?_ ?_)
theorem qV {op : Int} {x y : Int × Int} (hx : bg x.1 ∧ bg x.2) (hy : bg y.1 ∧ bg y.2) : bg (cJ op x y).1 ∧ bg (cJ op x y).2 := by
 have full : bg ((-2147483648, 2147483647) : Int × Int).1 ∧ bg ((-2147483648, 2147483647) : Int × Int).2 := by unfold bg; simp
 have em : bg ((1, 0) : Int × Int).1 ∧ bg ((1, 0) : Int × Int).2 := by unfold bg; simp
 unfold cJ
 split
 ·exact full
 split
 ·exact em
 rename_i ne
 split
 ·split
  ·rename_i h
   exact ⟨RD hx.1, RD hx.1⟩
  ·exact em
 unfold l7
 split; exact r8 _
 split; exact r8 _
 split; exact r8 _
 split
 ·unfold wB
  split; exact em
  split; exact full
  exact r8 _
 split
 ·unfold gT
  split
  ·exact em
  ·unfold bg xY at *
   simp only
   constructor <;> split <;> omega
 split
 ·unfold s8
  have ho : ∀ n : Int, bg n → 0 ≤ n → bg (iT n) := fun n h1 h2 => by
   have h3 := Ac (n := n) (m := 2147483647) h1.2
   have h4 := GU h2 h1.2
   have h5 : iT 2147483647 = 2147483647 := by decide
   unfold bg at *
   omega
  have hm : bg (max x.2 y.2) := by unfold bg at *; omega
  split; · unfold bg at *; simp only; omega
  split; · unfold bg at *; simp only; omega
  split; · unfold bg at *; simp only; omega
  split
  ·refine ⟨by unfold bg at *; simp only; omega, ho _ hm ahU⟩
  split; · unfold bg at *; simp only; omega
  split
  ·refine ⟨by unfold bg; simp, ho _ hm ahU⟩
  exact full
 split
 ·unfold Fh
  split
  ·split
   ·exact r8 _
   ·exact full
  ·split
   ·exact ⟨Gc hx.1 _, Gc hx.2 _⟩
   ·unfold bg at *
    simp only
    constructor <;> split <;> omega
 split
 ·unfold IQ
  (repeat' split) <;> exact MI _ _
 ·unfold GL
  split <;> exact MI _ _
theorem SB {i : Ins} (hv : aT i = true) (h0 : 0 ≤ i.op) : bg i.aP ∧ bg (i.aP - 1) := by
 obtain ⟨k, hk⟩ := (eR h0).1 hv
 have h1 := hk.aP
 have h2 : ∀ k, k < 30 → -131072 ≤ mS k ∧ mU k ≤ 131071 := by decide
 have := h2 k hk.lt
 unfold bg
 omega
theorem oQ {i : Ins} {r r' : RG} (h0 : 0 ≤ i.op) (hr : R16 r) (h : eT i r = some r') : R16 r' := by
 unfold eT at h
 split at h
 ·rename_i hv
  obtain ⟨w1, w2⟩ := SB hv.1 h0
  have z : bg 0 := by unfold bg; omega
  split at h
  ·split at h
   ·cases h
   ·cases h
    exact hr.cL _ (qV (hr.at_ _) (hr.at_ _))
  split at h
  ·cases h; exact hr.cL _ ⟨w1, w1⟩
  split at h
  ·cases h; exact hr.cL _ (qV (hr.at_ _) ⟨w1, w1⟩)
  split at h
  ·cases h; exact hr.cL _ (qV (hr.at_ _) ⟨w1, w1⟩)
  split at h
  ·cases h; exact hr.cL _ (qV (hr.at_ _) ⟨w1, w1⟩)
  split at h
  ·cases h; exact hr.cL _ (by unfold Ck bg; simp)
  split at h
  ·split at h
   ·cases h
   ·cases h; exact hr.cL _ (GF (hr.at_ _) ⟨z, w2⟩)
  cases h
  exact hr
 ·cases h
theorem Ou {op : Int} {t : Bool} {x : Int × Int} (hx : bg x.1 ∧ bg x.2) : bg (nT op t x).1 ∧ bg (nT op t x).2 := by
 unfold nT
 split
 ·exact GF hx (by unfold bg; simp)
 ·unfold fY bg at *
  (repeat' split) <;> first | omega | (simp only; omega)
theorem dY {i : Ins} {r r' : RG} {t : Bool} (hr : R16 r) (h : fu i r t = some r') : R16 r' := by
 unfold fu at h
 split at h
 ·split at h
  ·split at h
   ·cases h
   ·cases h; exact hr.cL _ (Ou (hr.at_ _))
  split at h
  ·split at h
   ·cases h; exact hr
   ·cases h
  ·split at h
   ·cases h
   ·cases h; exact hr
 ·cases h
theorem nR : ∀ {l : List Ins} {r r' : RG}, (∀ i ∈ l, 0 ≤ i.op) → R16 r → gS l r = some r' → R16 r'
 | [], r, r', _, hr, h => by cases h; exact hr
 | i :: l, r, r', ho, hr, h => by
  unfold gS at h
  cases e : eT i r with
  | none => rw [e] at h; cases h
  | some x =>
   rw [e] at h
   exact nR (fun j hj => ho j (List.mem_cons_of_mem _ hj)) (oQ (ho i (List.mem_cons_self ..)) hr e) h
theorem oC {last : Ins} {m k : Nat} {r r' : RG} (hr : R16 r) (h : dW last m k r = some r') : R16 r' := by
 unfold dW at h
 split at h
 ·cases h; exact hr
 split at h
 ·exact dY hr h
 ·split at h
  ·exact dY hr h
  ·rename_i h1 _
   cases h
   exact dY hr h1
  ·rename_i h1 h2
   cases h
   exact (dY hr h1).join (dY hr h2)
theorem xq {n : Nat} {last : Ins} {nx : List Int} {bz : RG} (ha : R16 bz) (fc : ∀ t ∈ nx, 0 ≤ t ∧ t < n) {s : AS} (hs : zg n s) : ∀ k, k ≤ nx.length → zg n (iM last nx bz s k).1 ∧ ((iM last nx bz s k).2 = true → jx (iM last nx bz s k).1 n < jx s n) ∧ ((iM last nx bz s k).2 = false → (iM last nx bz s k).1 = s)
 | 0, _ => ⟨hs, (fun h => by cases h), fun _ => rfl⟩
 | k + 1, hk => by
  obtain ⟨h1, h2, h3⟩ := xq ha fc hs k ahU
  have ht : 0 ≤ nx.getD k 0 ∧ nx.getD k 0 < n := by
   have e : nx.getD k 0 = nx[k] := by simp [List.getD, List.getElem?_eq_getElem (show k < nx.length by omega)]
   rw [e]
   exact fc _ (List.getElem_mem _)
  obtain ⟨g1, g2, g3⟩ := mm h1 (t := (nx.getD k 0).toNat) ahU (dW last nx.length k bz) (fun r hr => oC ha hr)
  unfold iM
  simp only
  refine ⟨g1, fun h => ?_, fun h => ?_⟩
  ·rw [Bool.or_eq_true] at h
   cases q1 : (iM last nx bz s k).2 <;> cases q2 : (eA (iM last nx bz s k).1 (nx.getD k 0).toNat (dW last nx.length k bz)).2
   ·rw [q1, q2] at h; simp at h
   ·have := g2 q2; rw [h3 q1] at this ⊢; exact this
   ·rw [g3 q2]; exact h2 q1
   ·have := g2 q2; have := h2 q1; omega
  ·rw [Bool.or_eq_false_iff] at h
   rw [g3 h.2, h3 h.1]
structure Qz (n : Nat) (b : AB) : Prop where
 op : ∀ i ∈ b.code, 0 ≤ i.op
 nx : ∀ t ∈ b.nx, 0 ≤ t ∧ t < n
theorem FZ {n : Nat} {b : AB} (hb : Qz n b) {s : AS} (hs : zg n s) {k : Nat} (hk : k < n) : zg n (jv b k s).1 ∧ ((jv b k s).2 = true → jx (jv b k s).1 n < jx s n) ∧ ((jv b k s).2 = false → (jv b k s).1 = s) := by
 unfold jv
 split
 ·exact ⟨hs, (fun h => by cases h), fun _ => rfl⟩
 ·rename_i bz h
  exact xq (nR hb.op (hs.get hk) h) hb.nx hs _ (Nat.le_refl _)
theorem uB {n : Nat} {B : List AB} (hB : ∀ b ∈ B, Qz n b) (hl : B.length = n) {s : AS} (hs : zg n s) : ∀ k, k ≤ n → zg n (cF B s k).1 ∧ ((cF B s k).2 = true → jx (cF B s k).1 n < jx s n) ∧ ((cF B s k).2 = false → (cF B s k).1 = s)
 | 0, _ => ⟨hs, (fun h => by cases h), fun _ => rfl⟩
 | k + 1, hk => by
  obtain ⟨h1, h2, h3⟩ := uB hB hl hs k ahU
  have e : B.getD k ⟨[], []⟩ = B[k]'ahU := by simp [List.getD, List.getElem?_eq_getElem (show k < B.length by omega)]
  obtain ⟨g1, g2, g3⟩ := FZ (hB _ (List.getElem_mem (show k < B.length by omega))) h1 (k := k) ahU
  rw [← e] at g1 g2 g3
  unfold cF
  simp only
  split
  ·simp only
   refine ⟨g1, fun h => ?_, fun h => ?_⟩
   ·rw [Bool.or_eq_true] at h
    cases q1 : (cF B s k).2 <;> cases q2 : (jv (B.getD k ⟨[], []⟩) k (cF B s k).1).2
    ·rw [q1, q2] at h; simp at h
    ·have := g2 q2; rw [h3 q1] at this ⊢; exact this
    ·rw [g3 q2]; exact h2 q1
    ·have := g2 q2; have := h2 q1; omega
   ·rw [Bool.or_eq_false_iff] at h
    rw [g3 h.2, h3 h.1]
  ·exact ⟨h1, h2, h3⟩
theorem rB (n : Nat) : zg n (cg n) := by
 refine ⟨by simp [cg], by simp [cg], by simp [cg], fun r hr => by rw [(List.mem_replicate.1 hr).2]; exact R16.zero, fun x hx => ?_⟩
 rw [(List.mem_replicate.1 hx).2]
 have hb : ∀ k, kS (cg n) k ≤ 70 := fun k => by
  unfold kS
  split
  ·exact Nat.le_refl _
  ·have h : mJ ((cg n).bC.getD k []) ≤ 64 := by
    have := vI (r := (cg n).bC.getD k [])
    have hl : ((cg n).bC.getD k []).length ≤ 16 := by
     unfold cg
     simp only [List.getD]
     by_cases hk : k < n
     ·simp [hk, aA]
     ·simp [hk]
    omega
   omega
 have : ∀ m, ((List.range m).map (kS (cg n))).sum ≤ 70 * m := fun m => by
  induction m with
  | zero => simp
  | succ m ih =>
   simp only [List.range_succ, List.map_append, List.map_cons, List.map_nil, List.sum_append, List.sum_cons, List.sum_nil]
   have := hb m
   omega
 have := this n
 unfold jx
 omega
end
section
open Go.RowKit
def eY (l : List Ins) : List Value := l.flatMap fun i => [.int .u8 i.op, .int .i64 i.a, .int .i64 i.b, .int .i64 i.c, .int .i64 i.aP]
theorem fR : ∀ (l : List Ins) (k j : Nat) (i : Ins), l[k]? = some i → j < 5 → (eY l)[k * 5 + j]? = [Value.int .u8 i.op, .int .i64 i.a, .int .i64 i.b, .int .i64 i.c, .int .i64 i.aP][j]?
 | y :: L, 0, j, x, h, hj => by
  simp at h; subst h
  unfold eY
  rw [List.flatMap_cons, Nat.zero_mul, Nat.zero_add, List.getElem?_append_left (by simpa using hj)]
 | y :: L, k + 1, j, x, h, hj => by
  have h' : L[k]? = some x := by simpa using h
  have ih := fR L k j x h' hj
  unfold eY at ih ⊢
  rw [List.flatMap_cons, List.getElem?_append_right ah3, ← ih]
  simp only [List.length_cons, List.length_nil]
  congr 1
  omega
theorem tS (l : List Ins) (i : Ins) : eY (l ++ [i]) = eY l ++ [.int .u8 i.op, .int .i64 i.a, .int .i64 i.b, .int .i64 i.c, .int .i64 i.aP] := by simp [eY]
def mI (L : List RG) : List Value := L.flatMap aa
theorem jF : ∀ {L : List RG}, (∀ r ∈ L, r.length = 16) → (mI L).length = L.length * 32
 | [], _ => rfl
 | r :: L, h => by
  have ih := jF (L := L) (fun x hx => h x (List.mem_cons_of_mem _ hx))
  have h1 := h r (List.mem_cons_self ..)
  unfold mI at ih ⊢
  rw [List.flatMap_cons, List.length_append, ih, az, h1, List.length_cons]
  omega
theorem mz : ∀ {L : List RG} {k : Nat} {r : RG}, (∀ r ∈ L, r.length = 16) → L[k]? = some r → ∀ j, j < 32 → (mI L)[k * 32 + j]? = (aa r)[j]?
 | y :: L, 0, r, h, hk, j, hj => by
  simp at hk; subst hk
  unfold mI
  rw [List.flatMap_cons, Nat.zero_mul, Nat.zero_add, List.getElem?_append_left (by rw [az, h y (List.mem_cons_self ..)]; omega)]
 | y :: L, k + 1, r, h, hk, j, hj => by
  have hk' : L[k]? = some r := by simpa using hk
  have ih := mz (fun x hx => h x (List.mem_cons_of_mem _ hx)) hk' j hj
  unfold mI at ih ⊢
  rw [List.flatMap_cons, List.getElem?_append_right (by rw [az, h y (List.mem_cons_self ..)]; omega), ← ih, az, h y (List.mem_cons_self ..)]
  congr 1
  omega
theorem Gi {L : List RG} (h : ∀ r ∈ L, r.length = 16) {k : Nat} (hk : k < L.length) {r : RG} (hr : r.length = 16) :
  (mI L).take (k * 32) ++ aa r ++ (mI L).drop (k * 32 + 32) = mI (L.set k r) := by
 have hl := jF h
 have h' : ∀ x ∈ L.set k r, x.length = 16 := fun x hx => by rcases List.mem_or_eq_of_mem_set hx with h1 | rfl; exact h _ h1; exact hr
 have hl' := jF h'
 rw [List.length_set] at hl'
 have hc : (aa r).length = 32 := by rw [az, hr]
 apply List.ext_getElem?
 intro q
 by_cases hq : q < L.length * 32
 ·obtain ⟨a, b, hb, rfl⟩ : ∃ a b, b < 32 ∧ q = a * 32 + b := ⟨q / 32, q % 32, Nat.mod_lt _ ahU, by omega⟩
  have ha : a < L.length := by omega
  by_cases e : a = k
  ·subst e
   rw [mz h' (r := r) (by simp [ha]) b hb, List.append_assoc, List.getElem?_append_right aiG, List.length_take, Nat.min_eq_left ahU, show a * 32 + b - a * 32 = b by omega, List.getElem?_append_left ahU]
  ·rw [mz h' (r := L[a]) (by rw [List.getElem?_set]; simp [Ne.symm e, ha]) b hb, ← mz h (List.getElem?_eq_getElem ha) b hb]
   by_cases e2 : a < k
   ·rw [List.append_assoc, List.getElem?_append_left aiG, List.getElem?_take, if_pos ahU]
   ·rw [List.getElem?_append_right (by rw [List.length_append, List.length_take]; omega), List.length_append, List.length_take, hc, Nat.min_eq_left ahU, List.getElem?_drop]
    congr 1
    omega
 ·rw [List.getElem?_eq_none (by rw [List.length_append, List.length_append, List.length_take, List.length_drop, hc]; omega), List.getElem?_eq_none ahU]
structure An (V w : World) (ab cb rb ib pb : Nat) (bv pv : Value) (G : List aU) (B : List AB) (val : Nat → Value) (s : AS) : Prop where
 aD : Below V.heap.size V w
 PT : fL V bv G
 lG : G.length = B.length
 YF : ∀ (k : Nat) (x : aU) (b : AB), G[k]? = some x → B[k]? = some b → x.nx = b.nx
 lB : B.length ≤ 1000000
 aV : V.heap.size ≤ ab
 rV : V.heap.size ≤ rb
 iV : V.heap.size ≤ ib
 pV : V.heap.size ≤ pb
 head : w.heap[ab]? = some (.cells #[bv, pv, .slice (some ⟨cb, 0, none⟩) B.length B.length, .slice (some ⟨rb, 0, none⟩) B.length B.length, .slice (some ⟨ib, 0, none⟩) B.length B.length, .slice (some ⟨pb, 0, none⟩) B.length B.length] 169 (0, 0))
 l9 : w.ownsRow V.heap.size 144 1 (.slice (some ⟨cb, 0, none⟩) B.length B.length) B.length ((List.range B.length).map val)
 own : ∀ (k : Nat) (b : AB), B[k]? = some b → w.ownsRow V.heap.size 67 5 (val k) b.code.length (eY b.code)
 fo : w.heap[rb]? = some (.cells (s.reach.map Value.bool).toArray 4 (0, 0))
 jM : w.heap[ib]? = some (.cells (mI s.bC).toArray 174 (0, 0))
 cH : w.heap[pb]? = some (.cells (s.rep.map (Value.int .i64)).toArray 3 (0, 0))
 qu : zg B.length s
section
variable {V w : World} {ab cb rb ib pb : Nat} {bv pv : Value} {G : List aU} {B : List AB} {val : Nat → Value} {s : AS}
theorem An.lt (h : An V w ab cb rb ib pb bv pv G B val s) : ab < w.heap.size ∧ cb < w.heap.size ∧ rb < w.heap.size ∧ ib < w.heap.size ∧ pb < w.heap.size :=
 ⟨aB h.head, (h.l9.lt cb rfl).2, aB h.fo, aB h.jM, aB h.cH⟩
theorem dJ {w : World} {B : Nat} {e : TypeId} {z n q : Nat} {v : Value} {xs : List Value} (h : w.ownsRow B e z v n xs) (hq : v.ownBlock = some q) : ∃ cs, w.heap[q]? = some (.cells cs e (0, 0)) := by
 rcases h.2 with ⟨rfl, _⟩ | ⟨g, cap, cur, rfl, _, hg, _⟩
 ·cases hq
 ·cases hq; exact ⟨_, hg⟩
theorem aS {w : World} {q q' : Nat} {cs cs' : Array Value} {e e' : TypeId} (h : w.heap[q]? = some (.cells cs e (0, 0))) (h' : w.heap[q']? = some (.cells cs' e' (0, 0))) (hne : e ≠ e') : q ≠ q' := by
 rintro rfl
 rw [h] at h'
 cases h'
 exact hne rfl
theorem An.ne (h : An V w ab cb rb ib pb bv pv G B val s) : ab ≠ rb ∧ ab ≠ ib ∧ ab ≠ pb ∧ cb ≠ rb ∧ cb ≠ ib ∧ cb ≠ pb ∧ rb ≠ ib ∧ rb ≠ pb ∧ ib ≠ pb := by
 obtain ⟨cs, hc⟩ := dJ h.l9 (q := cb) rfl
 exact ⟨aS h.head h.fo ahW, aS h.head h.jM ahW, aS h.head h.cH ahW, aS hc h.fo ahW, aS hc h.jM ahW, aS hc h.cH ahW, aS h.fo h.jM ahW, aS h.fo h.cH ahW, aS h.jM h.cH ahW⟩
def Fg (rb ib pb : Nat) : Nat → Prop := fun k => k = rb ∨ k = ib ∨ k = pb
theorem An.to {w' : World} {s' : AS} (h : An V w ab cb rb ib pb bv pv G B val s) (hf : Fr (Fg rb ib pb) w w')
  (hr : w'.heap[rb]? = some (.cells (s'.reach.map Value.bool).toArray 4 (0, 0))) (hi : w'.heap[ib]? = some (.cells (mI s'.bC).toArray 174 (0, 0)))
  (hp : w'.heap[pb]? = some (.cells (s'.rep.map (Value.int .i64)).toArray 3 (0, 0))) (ha : zg B.length s') : An V w' ab cb rb ib pb bv pv G B val s' := by
 obtain ⟨n1, n2, n3, n4, n5, n6, _⟩ := h.ne
 have hS : ∀ k, Fg rb ib pb k → V.heap.size ≤ k := fun k hk => by
  have := h.rV; have := h.iV; have := h.pV
  rcases hk with rfl | rfl | rfl <;> assumption
 have hq : ∀ {e : TypeId} {z n : Nat} {v : Value} {xs : List Value}, w.ownsRow V.heap.size e z v n xs → e ≠ 4 → e ≠ 174 → e ≠ 3 → ∀ q, v.ownBlock = some q → ¬ Fg rb ib pb q := fun ho e1 e2 e3 q hq hk => by
  obtain ⟨cs, hc⟩ := dJ ho hq
  rcases hk with rfl | rfl | rfl
  ·exact aS hc h.fo e1 rfl
  ·exact aS hc h.jM e2 rfl
  ·exact aS hc h.cH e3 rfl
 refine ⟨h.aD.trans (hf.below h.aD.size hS), h.PT, h.lG, h.YF, h.lB, h.aV, h.rV, h.iV, h.pV, ?_, ?_, fun k b hk => ?_, hr, hi, hp, ha⟩
 ·rw [hf.block ab h.lt.1 (by unfold Fg; omega)]; exact h.head
 ·exact hf.own h.l9 (hq h.l9 ahW ahW ahW)
 ·exact hf.own (h.own k b hk) (hq (h.own k b hk) ahW ahW ahW)
theorem An.below {w' : World} (h : An V w ab cb rb ib pb bv pv G B val s) (hb : Below w.heap.size w w') : An V w' ab cb rb ib pb bv pv G B val s := by
 obtain ⟨l1, l2, l3, l4, l5⟩ := h.lt
 exact h.to (Fr.of hb) ((hb.block _ l3).trans h.fo) ((hb.block _ l4).trans h.jM) ((hb.block _ l5).trans h.cH) h.qu
theorem An.cells (h : An V w ab cb rb ib pb bv pv G B val s) : w.cell? ⟨ab, 0, none⟩ = some bv ∧ w.cell? ⟨ab, 2, none⟩ = some (.slice (some ⟨cb, 0, none⟩) B.length B.length) ∧ w.cell? ⟨ab, 3, none⟩ = some (.slice (some ⟨rb, 0, none⟩) B.length B.length) ∧ w.cell? ⟨ab, 4, none⟩ = some (.slice (some ⟨ib, 0, none⟩) B.length B.length) ∧ w.cell? ⟨ab, 5, none⟩ = some (.slice (some ⟨pb, 0, none⟩) B.length B.length) := by
 refine ⟨?_, ?_, ?_, ?_, ?_⟩ <;> simp [World.cell?, h.head]
theorem An.code (h : An V w ab cb rb ib pb bv pv G B val s) {k : Nat} {b : AB} (hk : B[k]? = some b) : w.cell? ⟨cb, k, none⟩ = some (val k) ∧ (val k = .slice none 0 0 ∧ b.code = [] ∨ ∃ q cap, val k = .slice (some ⟨q, 0, none⟩) b.code.length cap ∧ b.code.length ≤ cap ∧ cap ≤ maxLen ∧ q < w.heap.size ∧ ∀ j i, b.code[j]? = some i →
  w.cell? ⟨q, j * 5, none⟩ = some (.int .u8 i.op) ∧ w.cell? ⟨q, j * 5 + 1, none⟩ = some (.int .i64 i.a) ∧ w.cell? ⟨q, j * 5 + 2, none⟩ = some (.int .i64 i.b) ∧ w.cell? ⟨q, j * 5 + 3, none⟩ = some (.int .i64 i.c) ∧ w.cell? ⟨q, j * 5 + 4, none⟩ = some (.int .i64 i.aP)) := by
 have hlt := (List.getElem?_eq_some_iff.1 hk).1
 refine ⟨by rw [h.l9.cellAt _ ahU, List.getElem?_map, List.getElem?_range hlt]; rfl, ?_⟩
 have ho := h.own k b hk
 rcases ho.2 with ⟨h1, h2⟩ | ⟨g, cap, cur, h1, h2, h3, h4, h5, h6, h7⟩
 ·exact .inl ⟨h1, List.length_eq_zero_iff.1 h2⟩
 ·refine .inr ⟨g, cap, h1, h4, h5, aB h3, fun j i hi => ?_⟩
  have hj := (List.getElem?_eq_some_iff.1 hi).1
  rw [h1] at ho
  refine ⟨?_, ?_, ?_, ?_, ?_⟩
  ·rw [ho.cellAt _ ahU, show j * 5 = j * 5 + 0 by omega, fR _ _ _ _ hi ahU]; rfl
  ·rw [ho.cellAt _ ahU, fR _ _ _ _ hi ahU]; rfl
  ·rw [ho.cellAt _ ahU, fR _ _ _ _ hi ahU]; rfl
  ·rw [ho.cellAt _ ahU, fR _ _ _ _ hi ahU]; rfl
  ·rw [ho.cellAt _ ahU, fR _ _ _ _ hi ahU]; rfl
theorem An.qJ (h : An V w ab cb rb ib pb bv pv G B val s) {t : Nat} (ht : t < B.length) : w.cell? ⟨rb, t, none⟩ = some (.bool (s.reach.getD t false)) ∧ w.frozen? ⟨rb, t, none⟩ = false := by
 have hl : t < s.reach.length := by rw [h.qu.l1]; exact ht
 constructor
 ·simp [World.cell?, h.fo, List.getD, List.getElem?_eq_getElem hl]
 ·simp [World.frozen?, h.fo]
theorem An.uo (h : An V w ab cb rb ib pb bv pv G B val s) {t : Nat} (ht : t < B.length) : w.cell? ⟨pb, t, none⟩ = some (.int .i64 (s.rep.getD t 0)) ∧ w.frozen? ⟨pb, t, none⟩ = false := by
 have hl : t < s.rep.length := by rw [h.qu.l3]; exact ht
 constructor
 ·simp [World.cell?, h.cH, List.getD, List.getElem?_eq_getElem hl]
 ·simp [World.frozen?, h.cH]
theorem An.x7 (h : An V w ab cb rb ib pb bv pv G B val s) : ∀ r ∈ s.bC, r.length = 16 := fun r hr => (h.qu.r16 r hr).len
theorem Du {w : World} {q : Nat} {T : TypeId} {xs cs : List Value} {o : Nat} (h : w.heap[q]? = some (.cells xs.toArray T (0, 0))) (hc : ∀ j, j < cs.length → xs[o + j]? = cs[j]?) : w.rangeAt q o cs := fun j v hv => by
 have hj := (List.getElem?_eq_some_iff.1 hv).1
 have := hc j hj
 rw [hv] at this
 simp [World.cell?, h, this]
theorem An.mK (h : An V w ab cb rb ib pb bv pv G B val s) {t : Nat} (ht : t < B.length) : w.rangeAt ib (t * 32) (aa (s.bC.getD t [])) := by
 have hl : t < s.bC.length := by rw [h.qu.l2]; exact ht
 have e : s.bC.getD t [] = s.bC[t] := by simp [List.getD, List.getElem?_eq_getElem hl]
 have h16 := h.x7 _ (List.getElem_mem hl)
 refine Du h.jM (fun j hj => ?_)
 rw [e] at hj ⊢
 rw [az, h16] at hj
 exact mz h.x7 (List.getElem?_eq_getElem hl) j hj
end
end
section
open Go.RowKit
theorem refine_no (op a b c im : Int) (h0 : 0 ≤ op) (r : RG) (hr : R16 r) (tk : Bool) (w : World) (T : gZ w) (hno : aT ⟨op, a, b, c, im⟩ = false ∨ (aT ⟨op, a, b, c, im⟩ = true ∧ cu r = false)) :
  Calls Tryz.prog 108 #[.agg #[.int .u8 op, .int .i64 a, .int .i64 b, .int .i64 c, .int .i64 im], .agg (aa r).toArray, .bool tk] w fun e w' => e = .returned (dB none) ∧ Below w.heap.size w w' := by
 obtain ⟨V, hV, k0, k1, k2, bV, sV⟩ := dP w #[.int .u8 op, .int .i64 a, .int .i64 b, .int .i64 c, .int .i64 im] (aa r).toArray ai3.toArray 67 174 174
 obtain ⟨a0, a1, a2, a3, a4, lV⟩ := bP k0
 have K1 := aiU (show aN V (w.heap.size + 1) 174 r from k1)
 have mO := aiU (show (Tryz.prog.info? 174).map (·.size) = some (aa r).length by rw [az, hr.len]; kernel_rfl)
 have K2 := aiU k2
 have BV := aiU bV
 have lD := aiU (Calls.ext (dO ⟨op, a, b, c, im⟩ h0 V (T.below bV)))
 have oL := aiU (fun x : Ext V => Calls.ax (x := x) (eW r hr.len x.w))
 clear k0 k1 k2 bV
 go_enter Tryz.func108, Tryz.ntmps108
 go_upto_region 1 with fail
 clear hV
 rcases hno with hv | ⟨hv, hp⟩
 ·rw [hv] at lD
  go_wp2_with (first | (go_at_call 55; refine lD.out.mono ?_; rintro e w' ⟨rfl, y, rfl⟩) | (refine wpList_store_row rfl 174 (.tmp 6) (.tmp 16) rfl (w.heap.size + 1 + 1) ai3.toArray rfl rfl 174 _ (((Ext.h _).block _ sV).trans K2.out) ahV rfl ahX ?_))
  refine bodyPost_ret (results_cell_tmp (P := Tryz.prog) Tryz.results108 _ _ (w.heap.size + 1 + 1) ai3 _ rfl (aM (setRow_heap _ _ _ _ _ _ ((y.h.block _ sV).trans K2.out))) Tryz.underlying174 rfl ahV) rfl ⟨rfl, below_setRow (BV.out.trans (y.h.mono BV.out.size)) ahU _⟩
 ·rw [hv] at lD
  rw [hp] at oL
  go_wp2_with (first | (go_at_call 55; refine lD.out.mono ?_; rintro e w' ⟨rfl, y, rfl⟩) | (go_at_call 129; refine (oL.out _).mono ?_; rintro e w' ⟨rfl, z, rfl⟩) | (refine bM ah7 _ _ rfl _ _ rfl (aa r) _ (K1.out.keep (Ext.h _)).range Tryz.underlying174 rfl mO.out ?_) | (refine wpList_store_row rfl 174 (.tmp 6) (.tmp 16) rfl (w.heap.size + 1 + 1) ai3.toArray rfl rfl 174 _ (((Ext.h _).block _ sV).trans K2.out) ahV rfl ahX ?_))
  refine bodyPost_ret (results_cell_tmp (P := Tryz.prog) Tryz.results108 _ _ (w.heap.size + 1 + 1) ai3 _ rfl (aM (setRow_heap _ _ _ _ _ _ ((z.h.block _ sV).trans K2.out))) Tryz.underlying174 rfl ahV) rfl ⟨rfl, below_setRow (BV.out.trans (z.h.mono BV.out.size)) ahU _⟩
theorem refine_rest (op : Int) (an bn cn : Nat) (im : Int) (ha : an < 16) (hop : (0 ≤ op ∧ op ≤ 21) ∨ (25 ≤ op ∧ op ≤ 29)) (r : RG) (hr : R16 r) (w : World) (T : gZ w) (hv : aT ⟨op, an, bn, cn, im⟩ = true) (hp : cu r = true) :
  Calls Tryz.prog 108 #[.agg #[.int .u8 op, .int .i64 (an : Int), .int .i64 (bn : Int), .int .i64 (cn : Int), .int .i64 im], .agg (aa r).toArray, .bool false] w fun e w' => e = .returned (dB (some r)) ∧ Below w.heap.size w w' := by
 have h0 : 0 ≤ op := by omega
 have oM := aiU hop
 clear hop
 obtain ⟨V, hV, k0, k1, k2, bV, sV⟩ := dP w #[.int .u8 op, .int .i64 (an : Int), .int .i64 (bn : Int), .int .i64 (cn : Int), .int .i64 im] (aa r).toArray ai3.toArray 67 174 174
 obtain ⟨a0, a1, a2, a3, a4, lV⟩ := bP k0
 have K1 := aiU (show aN V (w.heap.size + 1) 174 r from k1)
 have mO := aiU (show (Tryz.prog.info? 174).map (·.size) = some (aa r).length by rw [az, hr.len]; kernel_rfl)
 have K2 := aiU k2
 have BV := aiU bV
 have lD := aiU (Calls.ext (dO ⟨op, an, bn, cn, im⟩ h0 V (T.below bV)))
 have oL := aiU (fun x : Ext V => Calls.ax (x := x) (eW r hr.len x.w))
 clear k0 k1 k2 bV
 go_enter Tryz.func108, Tryz.ntmps108
 go_upto_region 1 with fail
 clear hV
 rw [hv] at lD
 rw [hp] at oL
 have HP := aiU hp
 clear hp hv
 have hop := oM.out
 clear oM
 have e1 : (op == 22) = false := by rw [beq_eq_false_iff_ne]; omega
 have e2 : (op == 23) = false := by rw [beq_eq_false_iff_ne]; omega
 have e3 : (op == 24) = false := by rw [beq_eq_false_iff_ne]; omega
 clear hop
 go_upto_region 16 with (first | (go_at_call 55; refine lD.out.mono ?_; rintro e w' ⟨rfl, y, rfl⟩) | (go_at_call 129; refine (oL.out _).mono ?_; rintro e w' ⟨rfl, z, rfl⟩) | (refine bM ah7 _ _ rfl _ _ rfl (aa r) _ (K1.out.keep (Ext.h _)).range Tryz.underlying174 rfl mO.out ?_))
 obtain ⟨r3, hr3⟩ : ∃ r3, r = r3 := ⟨_, rfl⟩
 have l3 : r3.length = 16 := by rw [← hr3]; exact hr.len
 have oK := aiU hr3
 obtain ⟨Z, hZ⟩ : ∃ Z, z.w = Z := ⟨_, rfl⟩
 have kZ : aN Z (w.heap.size + 1) 174 r3 := by rw [← hZ]; exact oK.out ▸ K1.out.keep z.h
 have G5 : Z.heap[w.heap.size + 1 + 1]? = some (.cells ai3.toArray 174 (0, 0)) := by rw [← hZ]; exact (z.h.block _ sV).trans K2.out
 have bZ : Below w.heap.size w Z := by rw [← hZ]; exact BV.out.trans (z.h.mono BV.out.size)
 rw [hZ]
 have lF := aiU kZ.range
 have Jr := aiU G5
 have BZ := aiU bZ
 have zC := aiU (show (Tryz.prog.info? 174).map (·.size) = some (aa r3).length by rw [az, l3]; kernel_rfl)
 have Mz := aiU (show (Tryz.prog.info? 174).map (·.size) = some (aa r3).toArray.size by rw [List.size_toArray, az, l3]; kernel_rfl)
 have My := aiU (show (ai3.toArray : Array Value).size = (aa r3).toArray.size by rw [show (aa r3).toArray.size = 32 by rw [List.size_toArray, az, l3]]; rfl)
 have wT := aiU (ay r3)
 clear hZ kZ G5 bZ l3
 go_wp2_with (first | (refine wpList_load_mid rfl _ _ rfl _ _ rfl (aa r3) _ lF.out Tryz.underlying174 rfl zC.out ?_) | (refine wpList_store_row rfl 174 (.tmp 6) (.tmp 57) rfl (w.heap.size + 1 + 1) (aa r3).toArray rfl rfl 174 _ Jr.out Mz.out My.out wT.out ?_))
 refine bodyPost_ret (results_cell_tmp (P := Tryz.prog) Tryz.results108 _ _ (w.heap.size + 1 + 1) (aa r3) _ rfl (aM (setRow_heap _ _ _ _ _ _ Jr.out)) Tryz.underlying174 rfl zC.out) rfl ⟨?_, below_setRow BZ.out ahU _⟩
 rw [oK.out]
 rfl
theorem refine_restT (op : Int) (an bn cn : Nat) (im : Int) (ha : an < 16) (hop : (0 ≤ op ∧ op ≤ 21) ∨ (25 ≤ op ∧ op ≤ 29)) (r : RG) (hr : R16 r) (w : World) (T : gZ w) (hv : aT ⟨op, an, bn, cn, im⟩ = true) (hp : cu r = true) :
  Calls Tryz.prog 108 #[.agg #[.int .u8 op, .int .i64 (an : Int), .int .i64 (bn : Int), .int .i64 (cn : Int), .int .i64 im], .agg (aa r).toArray, .bool true] w fun e w' => e = .returned (dB (none)) ∧ Below w.heap.size w w' := by
 have h0 : 0 ≤ op := by omega
 have oM := aiU hop
 clear hop
 obtain ⟨V, hV, k0, k1, k2, bV, sV⟩ := dP w #[.int .u8 op, .int .i64 (an : Int), .int .i64 (bn : Int), .int .i64 (cn : Int), .int .i64 im] (aa r).toArray ai3.toArray 67 174 174
 obtain ⟨a0, a1, a2, a3, a4, lV⟩ := bP k0
 have K1 := aiU (show aN V (w.heap.size + 1) 174 r from k1)
 have mO := aiU (show (Tryz.prog.info? 174).map (·.size) = some (aa r).length by rw [az, hr.len]; kernel_rfl)
 have K2 := aiU k2
 have BV := aiU bV
 have lD := aiU (Calls.ext (dO ⟨op, an, bn, cn, im⟩ h0 V (T.below bV)))
 have oL := aiU (fun x : Ext V => Calls.ax (x := x) (eW r hr.len x.w))
 clear k0 k1 k2 bV
 go_enter Tryz.func108, Tryz.ntmps108
 go_upto_region 1 with fail
 clear hV
 rw [hv] at lD
 rw [hp] at oL
 have HP := aiU hp
 clear hp hv
 have hop := oM.out
 clear oM
 have e1 : (op == 22) = false := by rw [beq_eq_false_iff_ne]; omega
 have e2 : (op == 23) = false := by rw [beq_eq_false_iff_ne]; omega
 have e3 : (op == 24) = false := by rw [beq_eq_false_iff_ne]; omega
 clear hop
 go_wp2_with (first | (go_at_call 55; refine lD.out.mono ?_; rintro e w' ⟨rfl, y, rfl⟩) | (go_at_call 129; refine (oL.out _).mono ?_; rintro e w' ⟨rfl, z, rfl⟩) | (refine bM ah7 _ _ rfl _ _ rfl (aa r) _ (K1.out.keep (Ext.h _)).range Tryz.underlying174 rfl mO.out ?_) | (refine wpList_store_row rfl 174 (.tmp 6) (.tmp 20) rfl (w.heap.size + 1 + 1) ai3.toArray rfl rfl 174 _ (((Ext.h _).block _ sV).trans K2.out) ahV rfl ahX ?_))
 refine bodyPost_ret (results_cell_tmp (P := Tryz.prog) Tryz.results108 _ _ (w.heap.size + 1 + 1) ai3 _ rfl (aM (setRow_heap _ _ _ _ _ _ ((z.h.block _ sV).trans K2.out))) Tryz.underlying174 rfl ahV) rfl ⟨rfl, below_setRow (BV.out.trans (z.h.mono BV.out.size)) ahU _⟩
theorem refine_jmp (op : Int) (an bn cn : Nat) (im : Int) (ha : an < 16) (hop : op = 24) (r : RG) (hr : R16 r) (w : World) (T : gZ w) (hv : aT ⟨op, an, bn, cn, im⟩ = true) (hp : cu r = true) :
  Calls Tryz.prog 108 #[.agg #[.int .u8 op, .int .i64 (an : Int), .int .i64 (bn : Int), .int .i64 (cn : Int), .int .i64 im], .agg (aa r).toArray, .bool true] w fun e w' => e = .returned (dB (some r)) ∧ Below w.heap.size w w' := by
 have h0 : 0 ≤ op := by omega
 have oM := aiU hop
 clear hop
 obtain ⟨V, hV, k0, k1, k2, bV, sV⟩ := dP w #[.int .u8 op, .int .i64 (an : Int), .int .i64 (bn : Int), .int .i64 (cn : Int), .int .i64 im] (aa r).toArray ai3.toArray 67 174 174
 obtain ⟨a0, a1, a2, a3, a4, lV⟩ := bP k0
 have K1 := aiU (show aN V (w.heap.size + 1) 174 r from k1)
 have mO := aiU (show (Tryz.prog.info? 174).map (·.size) = some (aa r).length by rw [az, hr.len]; kernel_rfl)
 have K2 := aiU k2
 have BV := aiU bV
 have lD := aiU (Calls.ext (dO ⟨op, an, bn, cn, im⟩ h0 V (T.below bV)))
 have oL := aiU (fun x : Ext V => Calls.ax (x := x) (eW r hr.len x.w))
 clear k0 k1 k2 bV
 go_enter Tryz.func108, Tryz.ntmps108
 go_upto_region 1 with fail
 clear hV
 rw [hv] at lD
 rw [hp] at oL
 have HP := aiU hp
 clear hp hv
 have hop := oM.out
 clear oM
 subst hop
 go_upto_region 16 with (first | (go_at_call 55; refine lD.out.mono ?_; rintro e w' ⟨rfl, y, rfl⟩) | (go_at_call 129; refine (oL.out _).mono ?_; rintro e w' ⟨rfl, z, rfl⟩) | (refine bM ah7 _ _ rfl _ _ rfl (aa r) _ (K1.out.keep (Ext.h _)).range Tryz.underlying174 rfl mO.out ?_))
 obtain ⟨r3, hr3⟩ : ∃ r3, r = r3 := ⟨_, rfl⟩
 have l3 : r3.length = 16 := by rw [← hr3]; exact hr.len
 have oK := aiU hr3
 obtain ⟨Z, hZ⟩ : ∃ Z, z.w = Z := ⟨_, rfl⟩
 have kZ : aN Z (w.heap.size + 1) 174 r3 := by rw [← hZ]; exact oK.out ▸ K1.out.keep z.h
 have G5 : Z.heap[w.heap.size + 1 + 1]? = some (.cells ai3.toArray 174 (0, 0)) := by rw [← hZ]; exact (z.h.block _ sV).trans K2.out
 have bZ : Below w.heap.size w Z := by rw [← hZ]; exact BV.out.trans (z.h.mono BV.out.size)
 rw [hZ]
 have lF := aiU kZ.range
 have Jr := aiU G5
 have BZ := aiU bZ
 have zC := aiU (show (Tryz.prog.info? 174).map (·.size) = some (aa r3).length by rw [az, l3]; kernel_rfl)
 have Mz := aiU (show (Tryz.prog.info? 174).map (·.size) = some (aa r3).toArray.size by rw [List.size_toArray, az, l3]; kernel_rfl)
 have My := aiU (show (ai3.toArray : Array Value).size = (aa r3).toArray.size by rw [show (aa r3).toArray.size = 32 by rw [List.size_toArray, az, l3]]; rfl)
 have wT := aiU (ay r3)
 clear hZ kZ G5 bZ l3
 go_wp2_with (first | (refine wpList_load_mid rfl _ _ rfl _ _ rfl (aa r3) _ lF.out Tryz.underlying174 rfl zC.out ?_) | (refine wpList_store_row rfl 174 (.tmp 6) (.tmp 57) rfl (w.heap.size + 1 + 1) (aa r3).toArray rfl rfl 174 _ Jr.out Mz.out My.out wT.out ?_))
 refine bodyPost_ret (results_cell_tmp (P := Tryz.prog) Tryz.results108 _ _ (w.heap.size + 1 + 1) (aa r3) _ rfl (aM (setRow_heap _ _ _ _ _ _ Jr.out)) Tryz.underlying174 rfl zC.out) rfl ⟨?_, below_setRow BZ.out ahU _⟩
 rw [oK.out]
 rfl
theorem refine_jmpF (op : Int) (an bn cn : Nat) (im : Int) (ha : an < 16) (hop : op = 24) (r : RG) (hr : R16 r) (w : World) (T : gZ w) (hv : aT ⟨op, an, bn, cn, im⟩ = true) (hp : cu r = true) :
  Calls Tryz.prog 108 #[.agg #[.int .u8 op, .int .i64 (an : Int), .int .i64 (bn : Int), .int .i64 (cn : Int), .int .i64 im], .agg (aa r).toArray, .bool false] w fun e w' => e = .returned (dB (none)) ∧ Below w.heap.size w w' := by
 have h0 : 0 ≤ op := by omega
 have oM := aiU hop
 clear hop
 obtain ⟨V, hV, k0, k1, k2, bV, sV⟩ := dP w #[.int .u8 op, .int .i64 (an : Int), .int .i64 (bn : Int), .int .i64 (cn : Int), .int .i64 im] (aa r).toArray ai3.toArray 67 174 174
 obtain ⟨a0, a1, a2, a3, a4, lV⟩ := bP k0
 have K1 := aiU (show aN V (w.heap.size + 1) 174 r from k1)
 have mO := aiU (show (Tryz.prog.info? 174).map (·.size) = some (aa r).length by rw [az, hr.len]; kernel_rfl)
 have K2 := aiU k2
 have BV := aiU bV
 have lD := aiU (Calls.ext (dO ⟨op, an, bn, cn, im⟩ h0 V (T.below bV)))
 have oL := aiU (fun x : Ext V => Calls.ax (x := x) (eW r hr.len x.w))
 clear k0 k1 k2 bV
 go_enter Tryz.func108, Tryz.ntmps108
 go_upto_region 1 with fail
 clear hV
 rw [hv] at lD
 rw [hp] at oL
 have HP := aiU hp
 clear hp hv
 have hop := oM.out
 clear oM
 subst hop
 go_wp2_with (first | (go_at_call 55; refine lD.out.mono ?_; rintro e w' ⟨rfl, y, rfl⟩) | (go_at_call 129; refine (oL.out _).mono ?_; rintro e w' ⟨rfl, z, rfl⟩) | (refine bM ah7 _ _ rfl _ _ rfl (aa r) _ (K1.out.keep (Ext.h _)).range Tryz.underlying174 rfl mO.out ?_) | (refine wpList_store_row rfl 174 (.tmp 6) (.tmp 51) rfl (w.heap.size + 1 + 1) ai3.toArray rfl rfl 174 _ (((Ext.h _).block _ sV).trans K2.out) ahV rfl ahX ?_) | (refine wpList_store_row rfl 174 (.tmp 6) (.tmp 56) rfl (w.heap.size + 1 + 1) ai3.toArray rfl rfl 174 _ (((Ext.h _).block _ sV).trans K2.out) ahV rfl ahX ?_))
 refine bodyPost_ret (results_cell_tmp (P := Tryz.prog) Tryz.results108 _ _ (w.heap.size + 1 + 1) ai3 _ rfl (aM (setRow_heap _ _ _ _ _ _ ((z.h.block _ sV).trans K2.out))) Tryz.underlying174 rfl ahV) rfl ⟨rfl, below_setRow (BV.out.trans (z.h.mono BV.out.size)) ahU _⟩
theorem Kv : ∀ k, k < 30 → (eV k).Mn ≤ 15 ∧ (eV k).Mj ≤ 15 ∧ (eV k).J7 ≤ 15 ∧ -131072 ≤ mS k ∧ mU k ≤ 131071 := by decide
def V8 (op : Int) (tk : Bool) (r : RG) (a : Int) : Option RG := if emp (nT op tk (rg r a)) = true then none else some (cL r a (nT op tk (rg r a)))
theorem Oc {op : Int} {tk : Bool} {r : RG} (hl : r.length = 16) (h0 : rg r 0 = (0, 0)) {an : Nat} {x : Int × Int} (hx : nT op tk (rg r (an : Int)) = x) (he : ¬ emp x = true) : r.set an x = cL r (an : Int) x := by
 unfold cL
 by_cases ha : an = 0
 ·subst ha
  rw [if_pos (show ((0 : Nat) : Int) = 0 from rfl)]
  rw [show ((0 : Nat) : Int) = 0 from rfl, h0] at hx
  have : x = (0, 0) := by
   unfold nT at hx
   split at hx
   ·rw [← hx]; decide
   ·exfalso
    apply he
    rw [← hx]
    decide
  rw [this]
  exact um hl h0
 ·rw [if_neg ahU]
  simp
theorem Og {r : RG} {an : Nat} {x : Int × Int} (h : an < r.length) : rg (r.set an x) (an : Int) = x := by
 rw [rE]
 simp [List.getD, h]
theorem refine_br (op : Int) (an bn cn : Nat) (im : Int) (ha : an < 16) (hop : op = 22 ∨ op = 23) (r : RG) (hr : R16 r) (tk : Bool) (w : World) (T : gZ w) (hv : aT ⟨op, an, bn, cn, im⟩ = true) (hp : cu r = true) :
  Calls Tryz.prog 108 #[.agg #[.int .u8 op, .int .i64 (an : Int), .int .i64 (bn : Int), .int .i64 (cn : Int), .int .i64 im], .agg (aa r).toArray, .bool tk] w fun e w' => e = .returned (dB (V8 op tk r (an : Int))) ∧ Below w.heap.size w w' := by
 have h0 : 0 ≤ op := by omega
 have oM := aiU hop
 clear hop
 obtain ⟨V, hV, k0, k1, k2, bV, sV⟩ := dP w #[.int .u8 op, .int .i64 (an : Int), .int .i64 (bn : Int), .int .i64 (cn : Int), .int .i64 im] (aa r).toArray ai3.toArray 67 174 174
 obtain ⟨a0, a1, a2, a3, a4, lV⟩ := bP k0
 have K1 := aiU (show aN V (w.heap.size + 1) 174 r from k1)
 have mO := aiU (show (Tryz.prog.info? 174).map (·.size) = some (aa r).length by rw [az, hr.len]; kernel_rfl)
 have K2 := aiU k2
 have BV := aiU bV
 have lD := aiU (Calls.ext (dO ⟨op, an, bn, cn, im⟩ h0 V (T.below bV)))
 have oL := aiU (fun x : Ext V => Calls.ax (x := x) (eW r hr.len x.w))
 clear k0 k1 k2 bV
 go_enter Tryz.func108, Tryz.ntmps108
 go_upto_region 1 with fail
 clear hV
 rw [hv] at lD
 rw [hp] at oL
 have HP := aiU hp
 clear hp hv
 have hop := oM.out
 clear oM
 obtain ⟨O, hO⟩ : ∃ O, V8 op tk r (an : Int) = O := ⟨_, rfl⟩
 have HO := aiU hO
 have Fw := aiU (show ∀ x, nT op tk (rg r (an : Int)) = x → (emp x = true → O = none) ∧ (¬ emp x = true → O = some (r.set an x)) from fun x hx => ⟨fun h => by rw [← hO]; unfold V8; rw [hx, if_pos h], fun h => by rw [← hO]; unfold V8; rw [hx, if_neg h, Oc hr.len (lN HP.out) hx h]⟩)
 clear hO
 obtain ⟨al, hal⟩ : ∃ al, (rg r (an : Int)).1 = al := ⟨_, rfl⟩
 obtain ⟨ah, Pb⟩ : ∃ ah, (rg r (an : Int)).2 = ah := ⟨_, rfl⟩
 have r4 : V.cell? ⟨w.heap.size + 1, an * 2, none⟩ = some (.int .i32 al) := by rw [← hal]; exact K1.out.lo aiE
 have r5 : V.cell? ⟨w.heap.size + 1, an * 2 + 1, none⟩ = some (.int .i32 ah) := by rw [← Pb]; exact K1.out.hi aiE
 have rf0 : V.frozen? ⟨w.heap.size + 1, an * 2, none⟩ = false := K1.out.fz _
 have rf1 : V.frozen? ⟨w.heap.size + 1, an * 2 + 1, none⟩ = false := K1.out.fz _
 have zG := aiU (show rg r (an : Int) = (al, ah) from Prod.ext hal Pb)
 have ia : (an : Int) < 16 := by omega
 have lR : w.heap.size + 1 < V.heap.size := by omega
 clear hal Pb
 have hc : ((op = 22 ∧ tk = true) ∨ (op = 23 ∧ tk = false)) ∨ (op = 22 ∧ tk = false) ∨ (op = 23 ∧ tk = true) := by rcases hop with h | h <;> cases tk <;> simp [h]
 clear hop
 rcases hc with hc | hc
 focus
  obtain ⟨xa, xb, hx⟩ : ∃ xa xb, aJ (al, ah) (0, 0) = (xa, xb) := ⟨_, _, rfl⟩
  have hf := fun w => nY al ah 0 0 w
  rw [hx] at hf
  have HF := aiU hf
  have HX := aiU (show nT op tk (rg r (an : Int)) = (xa, xb) by rw [zG.out]; unfold nT; rw [if_pos (by rcases hc with ⟨rfl, rfl⟩ | ⟨rfl, rfl⟩ <;> decide)]; exact hx)
  clear hf hx
  rcases hc with ⟨rfl, rfl⟩ | ⟨rfl, rfl⟩
  all_goals
   go_upto_region 9 with (first | (go_at_call 55; refine lD.out.mono ?_; rintro e w' ⟨rfl, y, rfl⟩) | (go_at_call 129; refine (oL.out _).mono ?_; rintro e w' ⟨rfl, z, rfl⟩) | (refine bM ah7 _ _ rfl _ _ rfl (aa r) _ (K1.out.keep (Ext.h _)).range Tryz.underlying174 rfl mO.out ?_))
   refine cT 9 ahV ahV ?_
   simp only [ai1, List.take_zero, ai2, List.drop_zero]
   repeat (go_big_quiet_step (first | (go_at_call 130; exact Calls.ax (cj 0 _)) | (go_at_call 134; exact Calls.ax (HF.out _))))
   refine wpQuiet_nil ?_
   rintro _ ⟨x1, rfl⟩
   go_upto_region 11 with fail
 rotate_left 2
 focus
  obtain ⟨xa, xb, hx⟩ : ∃ xa xb, fY (al, ah) = (xa, xb) := ⟨_, _, rfl⟩
  have hf := fun w => xm al ah w
  rw [hx] at hf
  have HF := aiU hf
  have HX := aiU (show nT op tk (rg r (an : Int)) = (xa, xb) by rw [zG.out]; unfold nT; rw [if_neg (by rcases hc with ⟨rfl, rfl⟩ | ⟨rfl, rfl⟩ <;> decide)]; exact hx)
  clear hf hx
  rcases hc with ⟨rfl, rfl⟩ | ⟨rfl, rfl⟩
  all_goals
   go_upto_region 10 with (first | (go_at_call 55; refine lD.out.mono ?_; rintro e w' ⟨rfl, y, rfl⟩) | (go_at_call 129; refine (oL.out _).mono ?_; rintro e w' ⟨rfl, z, rfl⟩) | (refine bM ah7 _ _ rfl _ _ rfl (aa r) _ (K1.out.keep (Ext.h _)).range Tryz.underlying174 rfl mO.out ?_))
   refine cT 8 ahV ahV ?_
   simp only [ai1, List.take_zero, ai2, List.drop_zero]
   repeat (go_big_quiet_step (first | (go_at_call 135; exact Calls.ax (HF.out _))))
   refine wpQuiet_nil ?_
   rintro _ ⟨x1, rfl⟩
   go_upto_region 11 with fail
 all_goals
  obtain ⟨Y, hY⟩ : ∃ Y, (x1.w.setCell ⟨w.heap.size + 1, an * 2, none⟩ (.int .i32 xa)).setCell ⟨w.heap.size + 1, an * 2 + 1, none⟩ (.int .i32 xb) = Y := ⟨_, rfl⟩
  obtain ⟨r3, hr3⟩ : ∃ r3, r.set an (xa, xb) = r3 := ⟨_, rfl⟩
  have l3 : r3.length = 16 := by rw [← hr3, List.length_set]; exact hr.len
  have kY : aN Y (w.heap.size + 1) 174 r3 := by rw [← hY, ← hr3]; exact (K1.out.keep x1.h).set an (xa, xb)
  have kO : Y.heap[w.heap.size + 1 + 1]? = some (.cells ai3.toArray 174 (0, 0)) := by
   rw [← hY, Below.heap_setCell _ _ _ _ aic, Below.heap_setCell _ _ _ _ aic]
   exact (x1.h.block _ sV).trans K2.out
  have bY : Below w.heap.size w Y := by rw [← hY]; exact Below.setCell (Below.setCell (BV.out.trans (x1.h.mono BV.out.size)) aif _) aif _
  have kI : Y.cell? ⟨w.heap.size, 1, none⟩ = some (.int .i64 (an : Int)) := by
   rw [← hY, World.cell?_of_block (Below.heap_setCell _ _ _ _ (by show w.heap.size ≠ w.heap.size + 1; omega)), World.cell?_of_block (Below.heap_setCell _ _ _ _ (by show w.heap.size ≠ w.heap.size + 1; omega)), x1.h.cell (p := ⟨w.heap.size, 1, none⟩) lV]
   exact a1
  rw [hY]
  have lY : w.heap.size + 1 < Y.heap.size := kY.lt
  have lYI : w.heap.size < Y.heap.size := by omega
  have Sl : w.heap.size + 1 + 1 < Y.heap.size := (Array.getElem?_eq_some_iff.1 kO).1
  have wY : rg r3 (an : Int) = (xa, xb) := by rw [← hr3]; exact Og aiE
  have z0 : Y.cell? ⟨w.heap.size + 1, an * 2, none⟩ = some (.int .i32 xa) := by have h := kY.lo (k := an) (by rw [l3]; exact ha); rw [wY] at h; exact h
  have z1 : Y.cell? ⟨w.heap.size + 1, an * 2 + 1, none⟩ = some (.int .i32 xb) := by have h := kY.hi (k := an) (by rw [l3]; exact ha); rw [wY] at h; exact h
  have KY := aiU kY
  have KO := aiU kO
  have BY := aiU bY
  have oK := aiU hr3
  have N3 := aiU (Calls.ext (af xa xb Y))
  clear hY kY kO bY hr3 wY r4 r5 rf0 rf1 a0 a1 a2 a3 a4
  by_cases he : xb < xa
  ·have d := decide_eq_true he
   have BD := aiU (show emp (xa, xb) = true by unfold emp; simpa using he)
   clear he
   go_wp2_with (first | (go_at_call 127; refine N3.out.mono ?_; rintro e w' ⟨rfl, y5, rfl⟩) | (refine wpList_store_row rfl 174 (.tmp 6) (.tmp 51) rfl (w.heap.size + 1 + 1) ai3.toArray rfl rfl 174 _ (((Ext.h _).block _ Sl).trans KO.out) ahV rfl ahX ?_))
   refine bodyPost_ret (results_cell_tmp (P := Tryz.prog) Tryz.results108 _ _ (w.heap.size + 1 + 1) ai3 _ rfl (aM (setRow_heap _ _ _ _ _ _ ((y5.h.block _ Sl).trans KO.out))) Tryz.underlying174 rfl ahV) rfl ⟨?_, below_setRow (BY.out.trans (y5.h.mono BY.out.size)) ahU _⟩
   rw [HO.out, (Fw.out _ HX.out).1 BD.out]
   rfl
  ·have d := decide_eq_false he
   have BD := aiU (show ¬ emp (xa, xb) = true by unfold emp; simpa using he)
   clear he
   go_upto_region 16 with (go_at_call 127; refine N3.out.mono ?_; rintro e w' ⟨rfl, y5, rfl⟩)
   obtain ⟨Z, hZ⟩ : ∃ Z, y5.w = Z := ⟨_, rfl⟩
   have kZ : aN Z (w.heap.size + 1) 174 r3 := by rw [← hZ]; exact KY.out.keep y5.h
   have G5 : Z.heap[w.heap.size + 1 + 1]? = some (.cells ai3.toArray 174 (0, 0)) := by rw [← hZ]; exact (y5.h.block _ Sl).trans KO.out
   have bZ : Below w.heap.size w Z := by rw [← hZ]; exact BY.out.trans (y5.h.mono BY.out.size)
   rw [hZ]
   have lF := aiU kZ.range
   have Jr := aiU G5
   have BZ := aiU bZ
   have zC := aiU (show (Tryz.prog.info? 174).map (·.size) = some (aa r3).length by rw [az, l3]; kernel_rfl)
   have Mz := aiU (show (Tryz.prog.info? 174).map (·.size) = some (aa r3).toArray.size by rw [List.size_toArray, az, l3]; kernel_rfl)
   have My := aiU (show (ai3.toArray : Array Value).size = (aa r3).toArray.size by rw [show (aa r3).toArray.size = 32 by rw [List.size_toArray, az, l3]]; rfl)
   have wT := aiU (ay r3)
   clear hZ kZ G5 bZ l3 z0 z1
   go_wp2_with (first | (refine wpList_load_mid rfl _ _ rfl _ _ rfl (aa r3) _ lF.out Tryz.underlying174 rfl zC.out ?_) | (refine wpList_store_row rfl 174 (.tmp 6) (.tmp 57) rfl (w.heap.size + 1 + 1) (aa r3).toArray rfl rfl 174 _ Jr.out Mz.out My.out wT.out ?_))
   refine bodyPost_ret (results_cell_tmp (P := Tryz.prog) Tryz.results108 _ _ (w.heap.size + 1 + 1) (aa r3) _ rfl (aM (setRow_heap _ _ _ _ _ _ Jr.out)) Tryz.underlying174 rfl zC.out) rfl ⟨?_, below_setRow BZ.out ahU _⟩
   rw [HO.out, (Fw.out _ HX.out).2 BD.out, oK.out]
   rfl
theorem refine_any (op a b c im : Int) (h0 : 0 ≤ op) (r : RG) (hr : R16 r) (tk : Bool) (w : World) (T : gZ w) :
  Calls Tryz.prog 108 #[.agg #[.int .u8 op, .int .i64 a, .int .i64 b, .int .i64 c, .int .i64 im], .agg (aa r).toArray, .bool tk] w fun e w' => e = .returned (dB (fu ⟨op, a, b, c, im⟩ r tk)) ∧ Below w.heap.size w w' := by
 by_cases hvp : aT ⟨op, a, b, c, im⟩ = true ∧ cu r = true
 case neg =>
  refine (refine_no op a b c im h0 r hr tk w T (by
   cases h1 : aT ⟨op, a, b, c, im⟩ <;> cases h2 : cu r <;> simp_all)).mono fun e w' ⟨q, hb⟩ => ⟨q.trans ?_, hb⟩
  unfold fu
  rw [if_neg hvp]
 obtain ⟨hv, hp⟩ := hvp
 obtain ⟨k, g1, g2, ⟨a1, a2⟩, ⟨b1, b2⟩, ⟨c1, c2⟩, i1, i2⟩ := (eR (i := ⟨op, a, b, c, im⟩) h0).1 hv
 obtain ⟨s1, s2, s3, s4, s5⟩ := Kv k g2
 simp only at g1 a1 a2 b1 b2 c1 c2 i1 i2
 obtain ⟨an, rfl⟩ : ∃ n : Nat, a = (n : Int) := ⟨a.toNat, by omega⟩
 obtain ⟨bn, rfl⟩ : ∃ n : Nat, b = (n : Int) := ⟨b.toNat, by omega⟩
 obtain ⟨cn, rfl⟩ : ∃ n : Nat, c = (n : Int) := ⟨c.toNat, by omega⟩
 have ha : an < 16 := by omega
 have hT : ∀ o : Option RG, fu ⟨op, an, bn, cn, im⟩ r tk = o → (∀ e w', (e = Ending.returned (dB o) ∧ Below w.heap.size w w') → (e = .returned (dB (fu ⟨op, an, bn, cn, im⟩ r tk)) ∧ Below w.heap.size w w')) := fun o h e w' ⟨q, hb⟩ => ⟨by rw [h]; exact q, hb⟩
 have hO : op = 22 ∨ op = 23 ∨ op = 24 ∨ ((0 ≤ op ∧ op ≤ 21) ∨ (25 ≤ op ∧ op ≤ 29)) := by omega
 rcases hO with rfl | rfl | rfl | h
 ·cases tk
  ·exact (refine_br 22 an bn cn im ha (.inl rfl) r hr false w T hv hp).mono (hT _ (by unfold fu; rw [if_pos ⟨hv, hp⟩, if_pos (.inl rfl)]; rfl))
  ·exact (refine_br 22 an bn cn im ha (.inl rfl) r hr true w T hv hp).mono (hT _ (by unfold fu; rw [if_pos ⟨hv, hp⟩, if_pos (.inl rfl)]; rfl))
 ·cases tk
  ·exact (refine_br 23 an bn cn im ha (.inr rfl) r hr false w T hv hp).mono (hT _ (by unfold fu; rw [if_pos ⟨hv, hp⟩, if_pos (.inr rfl)]; rfl))
  ·exact (refine_br 23 an bn cn im ha (.inr rfl) r hr true w T hv hp).mono (hT _ (by unfold fu; rw [if_pos ⟨hv, hp⟩, if_pos (.inr rfl)]; rfl))
 ·cases tk
  ·exact (refine_jmpF 24 an bn cn im ha rfl r hr w T hv hp).mono (hT _ (by unfold fu; rw [if_pos ⟨hv, hp⟩, if_neg ahZ, if_pos rfl, if_neg ahW]))
  ·exact (refine_jmp 24 an bn cn im ha rfl r hr w T hv hp).mono (hT _ (by unfold fu; rw [if_pos ⟨hv, hp⟩, if_neg ahZ, if_pos rfl, if_pos rfl]))
 ·cases tk
  ·exact (refine_rest op an bn cn im ha h r hr w T hv hp).mono (hT _ (by unfold fu; rw [if_pos ⟨hv, hp⟩, if_neg aiz, if_neg aiz, if_neg ahW]))
  ·exact (refine_restT op an bn cn im ha h r hr w T hv hp).mono (hT _ (by unfold fu; rw [if_pos ⟨hv, hp⟩, if_neg aiz, if_neg aiz, if_pos rfl]))
end
end Go.Proofs.YtlmgkipmfgijiaaGreatDoor
