/-
 What is defined here: the value analysis in plain mathematics (no program): registers, the effect of an instruction and of an outcome, edges, visits, passes.
-/
import Derived.Test.YtebklpnkcicpjaaDoorFbIc
import Derived.Test.YtebklpnkcicpjaaDoorFbCb
namespace Go.Proofs.YtebklpnkcicpjaaDoor
open Go.RowKit
set_option linter.unusedVariables false
set_option linter.unusedSimpArgs false

abbrev RG := List (Int × Int)
def cellsR (r : RG) : List Value := r.flatMap fun x => [.int .i32 x.1, .int .i32 x.2]
def zeroR : RG := List.replicate 16 (0, 0)
def rg (r : RG) (k : Int) : Int × Int := r.getD k.toNat (0, 0)
def setRg (r : RG) (k : Int) (x : Int × Int) : RG := if k = 0 then r else r.set k.toNat x
structure R16 (r : RG) : Prop where
 len : r.length = 16
 wi : ∀ x ∈ r, W32 x.1 ∧ W32 x.2
def properR (r : RG) : Bool := r.all (fun x => decide (x.1 ≤ x.2)) && decide (rg r 0 = (0, 0))
def opN (op : Int) : Int := if op = 13 then 18 else op + 4
def fullI : Int × Int := (-2147483648, 2147483647)
def transR (i : Ins) (r : RG) : Option RG :=
 if validI i = true ∧ properR r = true then
  if 2 ≤ i.op ∧ i.op ≤ 13 then
   if (i.op = 5 ∨ i.op = 6) ∧ rg r i.c = (0, 0) then none else some (setRg r i.a (applyI (opN i.op) (rg r i.b) (rg r i.c)))
  else if i.op = 14 then some (setRg r i.a (i.imm, i.imm))
  else if i.op = 15 then some (setRg r i.a (applyI 6 (rg r i.b) (i.imm, i.imm)))
  else if i.op = 16 then some (setRg r i.a (applyI 14 (rg r i.b) (i.imm, i.imm)))
  else if i.op = 17 then some (setRg r i.a (applyI 12 (rg r i.b) (i.imm, i.imm)))
  else if i.op = 18 ∨ i.op = 20 ∨ i.op = 26 then some (setRg r i.a fullI)
  else if i.op = 25 then (if emp (meetI (rg r i.a) (0, i.imm - 1)) = true then none else some (setRg r i.a (meetI (rg r i.a) (0, i.imm - 1))))
  else some r
 else none
def withoutI (x : Int × Int) : Int × Int := if x = (0, 0) then (1, 0) else if x.1 = 0 then (1, x.2) else if x.2 = 0 then (x.1, -1) else x
def outI (op : Int) (taken : Bool) (x : Int × Int) : Int × Int := if (taken == decide (op = 22)) = true then meetI x (0, 0) else withoutI x
def refR (i : Ins) (r : RG) (taken : Bool) : Option RG :=
 if validI i = true ∧ properR r = true then
  if i.op = 22 ∨ i.op = 23 then (if emp (outI i.op taken (rg r i.a)) = true then none else some (setRg r i.a (outI i.op taken (rg r i.a))))
  else if i.op = 24 then (if taken = true then some r else none)
  else if taken = true then none else some r
 else none
def joinR (x y : RG) : RG := List.zipWith joinI x y
def widenR (x y : RG) : RG := List.zipWith widenI x y
def runR : List Ins → RG → Option RG
 | [], r => some r
 | i :: l, r => match transR i r with
  | none => none
  | some r' => runR l r'
def edgeR (last : Ins) (m k : Nat) (r : RG) : Option RG :=
 if ¬ (last.op = 22 ∨ last.op = 23) then some r
 else if m = 2 then refR last r (decide (k = 1))
 else match refR last r false, refR last r true with
  | none, y => y
  | some x, none => some x
  | some x, some y => some (joinR x y)

structure AS where
 reach : List Bool
 inn : List RG
 rep : List Int
def stepE (s : AS) (t : Nat) : Option RG → AS × Bool
 | none => (s, false)
 | some r =>
  if s.reach.getD t false = false then (⟨s.reach.set t true, s.inn.set t r, s.rep⟩, true)
  else if joinR (s.inn.getD t []) r = s.inn.getD t [] then (s, false)
  else (⟨s.reach, s.inn.set t (if 2 ≤ s.rep.getD t 0 then widenR (s.inn.getD t []) (joinR (s.inn.getD t []) r) else joinR (s.inn.getD t []) r), s.rep.set t (s.rep.getD t 0 + 1)⟩, true)
def visK (last : Ins) (nx : List Int) (aft : RG) (s : AS) : Nat → AS × Bool
 | 0 => (s, false)
 | k + 1 => let p := visK last nx aft s k; let q := stepE p.1 (nx.getD k 0).toNat (edgeR last nx.length k aft); (q.1, p.2 || q.2)
structure AB where
 code : List Ins
 nx : List Int
def AB.last (b : AB) : Ins := b.code.getD (b.code.length - 1) ⟨0, 0, 0, 0, 0⟩
def visR (b : AB) (n : Nat) (s : AS) : AS × Bool := match runR b.code (s.inn.getD n []) with
 | none => (s, false)
 | some aft => visK b.last b.nx aft s b.nx.length
def passK (B : List AB) (s : AS) : Nat → AS × Bool
 | 0 => (s, false)
 | n + 1 => let p := passK B s n; if p.1.reach.getD n false = true then (let q := visR (B.getD n ⟨[], []⟩) n p.1; (q.1, p.2 || q.2)) else p
inductive Ends (B : List AB) : AS → AS → Prop
 | done {s : AS} (h : (passK B s B.length).2 = false) : Ends B s (passK B s B.length).1
 | more {s s' : AS} (h : (passK B s B.length).2 = true) (k : Ends B (passK B s B.length).1 s') : Ends B s s'
theorem Ends.det {B : List AB} {s a b : AS} (h : Ends B s a) (k : Ends B s b) : a = b := by
 induction h with
 | done h => cases k with
  | done _ => rfl
  | more h' _ => rw [h] at h'; cases h'
 | more h _ ih => cases k with
  | done h' => rw [h] at h'; cases h'
  | more _ k' => exact ih k'
def startS (n : Nat) : AS := ⟨(List.replicate n false).set 0 true, List.replicate n zeroR, List.replicate n 0⟩
def deadB (b : AB) (n k : Nat) (r : RG) : List (Int × Int) := match runR b.code r with
 | none => ((b.nx.take k).map fun t => ((n : Int), t))
 | some aft => ((List.range k).filter fun j => (edgeR b.last b.nx.length j aft).isNone).map fun j => ((n : Int), b.nx.getD j 0)
def deadK (B : List AB) (s : AS) (n : Nat) : List (Int × Int) := (List.range n).flatMap fun j => if s.reach.getD j false = true then deadB (B.getD j ⟨[], []⟩) j (B.getD j ⟨[], []⟩).nx.length (s.inn.getD j []) else []

theorem R16.at_ {r : RG} (h : R16 r) (k : Int) : W32 (rg r k).1 ∧ W32 (rg r k).2 := by
 unfold rg
 by_cases hk : k.toNat < r.length
 ·have e : r.getD k.toNat (0, 0) = r[k.toNat] := by simp [List.getD, List.getElem?_eq_getElem hk]
  rw [e]
  exact h.wi _ (List.getElem_mem hk)
 ·have e : r.getD k.toNat (0, 0) = (0, 0) := by simp [List.getD, List.getElem?_eq_none (Nat.le_of_not_lt hk)]
  rw [e]
  unfold W32
  simp only
  omega
theorem R16.set {r : RG} (h : R16 r) (k : Nat) {x : Int × Int} (hx : W32 x.1 ∧ W32 x.2) : R16 (r.set k x) :=
 ⟨by rw [List.length_set]; exact h.len, fun y hy => by rcases List.mem_or_eq_of_mem_set hy with h1 | rfl; exact h.wi _ h1; exact hx⟩
theorem R16.setRg {r : RG} (h : R16 r) (k : Int) {x : Int × Int} (hx : W32 x.1 ∧ W32 x.2) : R16 (setRg r k x) := by
 unfold Go.Proofs.YtebklpnkcicpjaaDoor.setRg
 split
 ·exact h
 ·exact h.set _ hx
theorem R16.zero : R16 zeroR := ⟨by simp [zeroR], fun x hx => by rw [(List.mem_replicate.1 hx).2]; unfold W32; simp only; omega⟩

end Go.Proofs.YtebklpnkcicpjaaDoor


