/-
 What is proved here: small things that the statements' walks share.
-/
import Derived.Test.YtebklpnkcicpjaaDoorFlGr
import Derived.Test.YtebklpnkcicpjaaDoorFaAk
namespace Go.Proofs.YtebklpnkcicpjaaDoor
open Go.RowKit
set_option linter.unusedVariables false
set_option linter.unusedSimpArgs false

theorem absOf_mem {cd : Nat → Int} {G : List Blk} {b : AB} (h : b ∈ absOf cd G) : ∃ x ∈ G, b = ⟨codeFrom cd x.lo (x.hi - x.lo).toNat, x.nx⟩ := by
 unfold absOf at h
 obtain ⟨x, hx, e⟩ := List.mem_map.1 h
 exact ⟨x, hx, e.symm⟩
theorem an_fx {n : Nat} {cd : Nat → Int} {G : List Blk} {s : AS} (h0 : 0 < G.length) (hok : ∀ x ∈ G, GOk n cd G x) (hE : Ends (absOf cd G) (startS G.length) s) : Fx G.length s := by
 have hl := absOf_len cd G
 have h := Ends.fx (B := absOf cd G) (fun b hb => by
  obtain ⟨x, hx, rfl⟩ := absOf_mem hb
  rw [hl]
  exact ⟨(hok x hx).abw.f, (hok x hx).abw.nx⟩) hE
 rw [hl] at h
 exact h (fx_start h0)
theorem outR_eq (o : Option RG) : outR o = .tuple #[.agg (cellsR (o.getD zeroR)).toArray, .bool o.isSome] := by cases o <;> rfl
theorem codeFrom_op {n : Nat} {cd : Nat → Int} {G : List Blk} {x : Blk} (h : GOk n cd G x) {m : Nat} (hm : x.lo + m ≤ x.hi) : ∀ i ∈ codeFrom cd x.lo m, 0 ≤ i.op := by
 intro i hi
 unfold codeFrom at hi
 obtain ⟨j, hj, rfl⟩ := List.mem_map.1 hi
 have hj := List.mem_range.1 hj
 have h0 := h.lo
 have := (h.cod (x.lo.toNat + j) (by omega) (by omega)).2.2
 rwa [show ((x.lo.toNat + j : Nat) : Int) = x.lo + (j : Int) by omega] at this
theorem befR_16 {n : Nat} {cd : Nat → Int} {G : List Blk} {rl : List Bool} {il : List RG} {pc : Int} (hok : ∀ x ∈ G, GOk n cd G x) (hl : ∀ r ∈ il, R16 r) : R16 ((befR cd G rl il pc).getD zeroR) := by
 cases h : befR cd G rl il pc with
 | none => exact R16.zero
 | some a =>
  show R16 a
  unfold befR at h
  split at h
  ·rename_i hlen
   cases hf : findB G pc with
   | none => rw [hf] at h; cases h
   | some k =>
    rw [hf] at h
    simp only at h
    obtain ⟨x, hx, hx1, hx2⟩ := findB_in hf
    rw [show G.getD k ⟨0, 0, []⟩ = x by simp [List.getD, hx]] at h
    split at h
    ·have hk : k < il.length := by rw [hlen.2]; exact (List.getElem?_eq_some_iff.1 hx).1
     refine runR_16 (codeFrom_op (hok x (List.mem_of_getElem? hx)) (by omega)) (hl _ ?_) h
     rw [show il.getD k [] = il[k] by simp [List.getD, List.getElem?_eq_getElem hk]]
     exact List.getElem_mem hk
    ·cases h
  ·cases h
theorem befR_some {cd : Nat → Int} {G : List Blk} {rl : List Bool} {il : List RG} {pc : Int} (h1 : rl.length = G.length) (h2 : il.length = G.length) {k : Nat} {x : Blk} (h : findB G pc = some k) (hx : G[k]? = some x) :
  befR cd G rl il pc = if rl.getD k false = true then runR (codeFrom cd x.lo (pc - x.lo).toNat) (il.getD k []) else none := by
 unfold befR
 rw [if_pos ⟨h1, h2⟩, h]
 simp only
 rw [show G.getD k ⟨0, 0, []⟩ = x by simp [List.getD, hx]]
theorem Grf.below {w w' : World} {cv bv pv : Value} {n : Nat} {cd : Nat → Int} {ents : List Ent} {sh lk : Int} {k : Nat} {G : List Blk} {P : List (List Int)} (h : Grf w cv bv pv n cd ents sh lk k G P) (hb : Below w.heap.size w w') : Grf w' cv bv pv n cd ents sh lk k G P :=
 ⟨h.wd.below hb, h.n3, h.gd, h.bks.below hb, h.lls.below hb, h.val, h.pos, h.len, h.ok, h.run⟩
theorem one_new (w : World) (cs : Array Value) (T : TypeId) : ∃ V, w.alloc (.cells cs T) = V ∧ V.heap[w.heap.size]? = some (.cells cs T (0, 0)) ∧ Below w.heap.size w V ∧ V.heap.size = w.heap.size + 1 :=
 ⟨_, rfl, heap_alloc_new _ _, (Below.refl _ _).alloc (Nat.le_refl _) _, by simp⟩
end Go.Proofs.YtebklpnkcicpjaaDoor


