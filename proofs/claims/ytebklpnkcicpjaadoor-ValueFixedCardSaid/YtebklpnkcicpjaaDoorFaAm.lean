/-
 What is proved here: the memory of an analysis while its code is decoded.
-/
import Derived.Test.YtebklpnkcicpjaaDoorFaAn2
import Derived.Test.YtebklpnkcicpjaaDoorFaBf
import Derived.Laws.MakeOwn
namespace Go.Proofs.YtebklpnkcicpjaaDoor
open Go.RowKit
set_option linter.unusedVariables false
set_option linter.unusedSimpArgs false

theorem made_gen {z : Array Value} {m k : Nat} (hk : z.size = k) (h0 : 0 < k) {xs : List Value} (hl : xs.length = m * k) (hx : ∀ i j, i < m → j < k → xs[i * k + j]? = z[j]?) : madeCells z (m * k) = xs.toArray := by
 apply Array.ext
 ·simp [madeCells, hl]
 ·intro q h1 h2
  have hq : q < m * k := by simpa [hl] using h2
  have h3 : q / k < m := (Nat.div_lt_iff_lt_mul h0).2 hq
  have h4 : q % k < k := Nat.mod_lt _ h0
  have e : q / k * k + q % k = q := by rw [Nat.mul_comm]; exact Nat.div_add_mod q k
  have h5 := hx (q / k) (q % k) h3 h4
  rw [e] at h5
  have h6 : xs[q]? = some xs[q] := List.getElem?_eq_getElem (by simpa using h2)
  rw [h6] at h5
  simp only [madeCells, Array.getElem_map, Array.getElem_range, List.getElem_toArray, hk]
  simp only [getElem!_def, ← h5]
theorem madeB (n : Nat) : madeCells #[.bool false] (n * 1) = ((List.replicate n false).map Value.bool).toArray :=
 made_gen (k := 1) rfl (by decide) (by simp) (fun i j hi hj => by
  have e : j = 0 := by omega
  subst e
  simp [hi])
theorem madeI (n : Nat) : madeCells #[.int .i64 0] (n * 1) = ((List.replicate n (0 : Int)).map (Value.int .i64)).toArray :=
 made_gen (k := 1) rfl (by decide) (by simp) (fun i j hi hj => by
  have e : j = 0 := by omega
  subst e
  simp [hi])
theorem madeS (n : Nat) : madeCells #[.slice none 0 0] (n * 1) = ((List.range n).map fun _ => Value.slice none 0 0).toArray :=
 made_gen (k := 1) rfl (by decide) (by simp) (fun i j hi hj => by
  have e : j = 0 := by omega
  subst e
  simp [hi])
theorem madeR (n : Nat) : madeCells (cellsR zeroR).toArray (n * 32) = (rowR (List.replicate n zeroR)).toArray := by
 have h16 : ∀ r ∈ List.replicate n zeroR, r.length = 16 := fun r hr => by rw [(List.mem_replicate.1 hr).2]; rfl
 refine made_gen (by rw [List.size_toArray, cellsR_len]; rfl) (by omega) (by rw [rowR_len h16]; simp) (fun i j hi hj => ?_)
 rw [rowR_at h16 (r := zeroR) (by simp [hi]) j hj]
 simp

structure CM (V wr : World) (ab cb rb ib pb n : Nat) (bv pv : Value) (val : Nat → Value) (lst : Nat → List Ins) : Prop where
 bel : Below V.heap.size V wr
 aV : V.heap.size ≤ ab
 rV : V.heap.size ≤ rb
 iV : V.heap.size ≤ ib
 pV : V.heap.size ≤ pb
 head : wr.heap[ab]? = some (.cells #[bv, pv, .slice (some ⟨cb, 0, none⟩) n n, .slice (some ⟨rb, 0, none⟩) n n, .slice (some ⟨ib, 0, none⟩) n n, .slice (some ⟨pb, 0, none⟩) n n] 110 (0, 0))
 crow : wr.ownsRow V.heap.size 113 1 (.slice (some ⟨cb, 0, none⟩) n n) n ((List.range n).map fun i => val i)
 own : ∀ (i : Nat), i < n → wr.ownsRow V.heap.size 23 5 (val i) (lst i).length (insCells (lst i))
 dis : ∀ (i j : Nat), i < n → j < n → i ≠ j → ∀ q, (val i).ownBlock = some q → (val j).ownBlock ≠ some q
 rrow : wr.heap[rb]? = some (.cells ((List.replicate n false).map Value.bool).toArray 4 (0, 0))
 irow : wr.heap[ib]? = some (.cells (rowR (List.replicate n zeroR)).toArray 27 (0, 0))
 prow : wr.heap[pb]? = some (.cells ((List.replicate n (0 : Int)).map (Value.int .i64)).toArray 3 (0, 0))
section
variable {V wr : World} {ab cb rb ib pb n : Nat} {bv pv : Value} {val : Nat → Value} {lst : Nat → List Ins}
theorem CM.lt (h : CM V wr ab cb rb ib pb n bv pv val lst) : ab < wr.heap.size ∧ cb < wr.heap.size ∧ rb < wr.heap.size ∧ ib < wr.heap.size ∧ pb < wr.heap.size :=
 ⟨lt_of_blk' h.head, (h.crow.lt cb rfl).2, lt_of_blk' h.rrow, lt_of_blk' h.irow, lt_of_blk' h.prow⟩
theorem CM.below {wr' : World} (h : CM V wr ab cb rb ib pb n bv pv val lst) (hb : Below wr.heap.size wr wr') : CM V wr' ab cb rb ib pb n bv pv val lst := by
 obtain ⟨l1, l2, l3, l4, l5⟩ := h.lt
 exact ⟨h.bel.trans (hb.mono h.bel.size), h.aV, h.rV, h.iV, h.pV, (hb.block _ l1).trans h.head, ownsRow_below h.crow hb, fun i hi => ownsRow_below (h.own i hi) hb, h.dis, (hb.block _ l3).trans h.rrow, (hb.block _ l4).trans h.irow, (hb.block _ l5).trans h.prow⟩
theorem CM.cells (h : CM V wr ab cb rb ib pb n bv pv val lst) : wr.cell? ⟨ab, 2, none⟩ = some (.slice (some ⟨cb, 0, none⟩) n n) ∧ wr.cell? ⟨ab, 3, none⟩ = some (.slice (some ⟨rb, 0, none⟩) n n) ∧ wr.cell? ⟨ab, 4, none⟩ = some (.slice (some ⟨ib, 0, none⟩) n n) := by
 refine ⟨?_, ?_, ?_⟩ <;> simp [World.cell?, h.head]
theorem CM.at_ (h : CM V wr ab cb rb ib pb n bv pv val lst) {i : Nat} (hi : i < n) : wr.cell? ⟨cb, i, none⟩ = some (val i) ∧ wr.frozen? ⟨cb, i, none⟩ = false :=
 ⟨by rw [h.crow.cellAt _ (by omega), List.getElem?_map, List.getElem?_range hi]; rfl, h.crow.frozenAt _⟩
theorem CM.qne (h : CM V wr ab cb rb ib pb n bv pv val lst) {i : Nat} (hi : i < n) : ∀ q, (val i).ownBlock = some q → V.heap.size ≤ q ∧ q ≠ ab ∧ q ≠ cb ∧ q ≠ rb ∧ q ≠ ib ∧ q ≠ pb := fun q hq => by
 have oi := h.own i hi
 obtain ⟨cs, hc⟩ := own_type oi hq
 exact ⟨(oi.lt q hq).1, ne_type hc h.head (by decide), fun e => own_ne oi h.crow (by decide) q hq (by rw [e]; rfl), ne_type hc h.rrow (by decide), ne_type hc h.irow (by decide), ne_type hc h.prow (by decide)⟩
theorem CM.cne (h : CM V wr ab cb rb ib pb n bv pv val lst) : ab ≠ cb ∧ rb ≠ cb ∧ ib ≠ cb ∧ pb ≠ cb := by
 obtain ⟨cs, hc⟩ := own_type h.crow (q := cb) rfl
 exact ⟨ne_type h.head hc (by decide), ne_type h.rrow hc (by decide), ne_type h.irow hc (by decide), ne_type h.prow hc (by decide)⟩
theorem CM.app {w2 W' : World} {i : Nat} {y : Ins} {v' : Value} (h : CM V wr ab cb rb ib pb n bv pv val lst) (hi : i < n) (hb : Below wr.heap.size wr w2) (hg : w2.grownBy W' (val i).ownBlock)
  (hown : W'.ownsRow V.heap.size 23 5 v' ((lst i).length + 1) (insCells (lst i ++ [y]))) (hob : v'.ownBlock = (val i).ownBlock ∨ v'.ownBlock = some w2.heap.size) :
  CM V (W'.setCell ⟨cb, i, none⟩ v') ab cb rb ib pb n bv pv (upd val i v') (upd lst i (lst i ++ [y])) := by
 have G := grown_of hb hg
 have S := grown_setCell W' cb i v'
 obtain ⟨l1, l2, l3, l4, l5⟩ := h.lt
 obtain ⟨c1, c2, c3, c4⟩ := h.cne
 have hgs := G.size
 have hbs := h.bel.size
 have p1 := (h.crow.lt cb rfl).1
 have oi := h.own i hi
 have ob := h.qne hi
 have same : ∀ k, k < wr.heap.size → k ≠ cb → (∀ q, (val i).ownBlock = some q → k ≠ q) → (W'.setCell ⟨cb, i, none⟩ v').heap[k]? = wr.heap[k]? := fun k hk hkc hkq => by
  rw [Below.heap_setCell _ _ _ _ (by show k ≠ cb; exact hkc)]
  exact G.block k hk (fun e => hkq k e.symm rfl)
 have p' : W'.ownsRow V.heap.size 113 1 (.slice (some ⟨cb, 0, none⟩) n n) n ((List.range n).map fun i => val i) := h.crow.kept G (.inr (fun e' => (ob cb e'.symm).2.2.1 rfl))
 have own' : ∀ q, v'.ownBlock = some q → q ≠ cb := fun q hq e => own_ne hown p' (by decide) q hq (by rw [e]; rfl)
 refine ⟨?_, h.aV, h.rV, h.iV, h.pV, (same ab l1 c1 (fun q hq => (ob q hq).2.1.symm)).trans h.head, ?_, fun j hj => ?_, fun a c ha hc hac q hq => ?_, (same rb l3 c2 (fun q hq => (ob q hq).2.2.2.1.symm)).trans h.rrow, (same ib l4 c3 (fun q hq => (ob q hq).2.2.2.2.1.symm)).trans h.irow, (same pb l5 c4 (fun q hq => (ob q hq).2.2.2.2.2.symm)).trans h.prow⟩
 ·exact ((h.bel.grown G hbs (fun k hk => (ob k hk).1)).grown S (by omega) (fun k hk => by cases hk; exact p1))
 ·rw [← rangeU_set n val hi v']
  exact (p'.stored i v').1
 ·unfold upd
  by_cases e : j = i
  ·subst e
   rw [if_pos rfl, if_pos rfl]
   rw [show (lst j ++ [y]).length = (lst j).length + 1 by simp]
   exact hown.kept S (by
    cases hv : v'.ownBlock with
    | none => exact .inl rfl
    | some q => exact .inr (fun e' => own' q hv (by simpa using e')))
  ·rw [if_neg e, if_neg e]
   refine ((h.own j hj).kept G ?_).kept S ?_
   ·cases hv : (val j).ownBlock with
    | none => exact .inl rfl
    | some q => exact .inr (fun e' => h.dis i j hi hj (fun e2 => e e2.symm) q e'.symm hv)
   ·cases hv : (val j).ownBlock with
    | none => exact .inl rfl
    | some q =>
     refine .inr (fun e' => ?_)
     have hqr : q = cb := by simpa using e'
     exact own_ne (h.own j hj) h.crow (by decide) q hv (by rw [hqr]; rfl)
 ·have new : ∀ a, a < n → a ≠ i → ∀ q, v'.ownBlock = some q → (val a).ownBlock ≠ some q := fun a ha hai q hq hq2 => by
   rcases hob with h1 | h1
   ·rw [h1] at hq
    exact h.dis i a hi ha (fun e => hai e.symm) q hq hq2
   ·rw [h1] at hq
    cases hq
    have := ((h.own a ha).lt _ hq2).2
    have := hb.size
    omega
  unfold upd at hq ⊢
  by_cases e1 : a = i
  ·rw [if_pos e1] at hq
   rw [if_neg (fun e => hac (e1.trans e.symm))]
   exact new c hc (fun e => hac (e1.trans e.symm)) q hq
  ·rw [if_neg e1] at hq
   by_cases e2 : c = i
   ·rw [if_pos e2]
    exact fun hq2 => new a ha e1 q hq2 hq
   ·rw [if_neg e2]
    exact h.dis a c ha hc hac q hq
theorem CM.start {B : List AB} {G : List Blk} (h : CM V wr ab cb rb ib pb n bv pv val lst) (hB : Blks V bv G) (hl : B.length = n) (hG : G.length = n) (h0 : 0 < n) (hn : n ≤ 1000000) (hnx : ∀ (k : Nat) (x : Blk) (b : AB), G[k]? = some x → B[k]? = some b → x.nx = b.nx) (hc : ∀ (k : Nat) (b : AB), B[k]? = some b → lst k = b.code) :
  An V (wr.setCell ⟨rb, 0, none⟩ (.bool true)) ab cb rb ib pb bv pv G B val (startS n) := by
 subst hl
 obtain ⟨c1, c2, c3, c4⟩ := h.cne
 have n1 := ne_type h.head h.rrow (by decide)
 have n2 := ne_type h.rrow h.irow (by decide)
 have n3 := ne_type h.rrow h.prow (by decide)
 have S := grown_setCell wr rb 0 (.bool true)
 refine ⟨h.bel.grown S h.bel.size (fun k hk => by cases hk; exact h.rV), hB, hG, hnx, hn, h.aV, h.rV, h.iV, h.pV, ?_, ?_, fun k b hk => ?_, ?_, ?_, ?_, startS_asi _⟩
 ·rw [Below.heap_setCell _ _ _ _ (by show ab ≠ rb; exact n1)]; exact h.head
 ·exact h.crow.kept S (.inr (by simp [Value.ownBlock]; exact fun e => c2 e.symm))
 ·have hkl := (List.getElem?_eq_some_iff.1 hk).1
  have ho := h.own k hkl
  rw [hc k b hk] at ho
  refine ho.kept S ?_
  cases hv : (val k).ownBlock with
  | none => exact .inl rfl
  | some q => exact .inr (fun e' => (h.qne hkl q hv).2.2.2.1 (by simpa using e'))
 ·rw [heap_setCell_same _ _ _ _ _ _ h.rrow, reach_set]
  rfl
 ·rw [Below.heap_setCell _ _ _ _ (by show ib ≠ rb; exact n2.symm)]; exact h.irow
 ·rw [Below.heap_setCell _ _ _ _ (by show pb ≠ rb; exact n3.symm)]; exact h.prow
end

end Go.Proofs.YtebklpnkcicpjaaDoor


