/-
  What is proved here: the memory of a row of lists that grow: 'prev[n] = append(prev[n], k)'.
-/
import Derived.Test.YtfceodpdipniaaaDoorCgEq
namespace Go.Proofs.YtfceodpdipniaaaDoor
open Go.RowKit
set_option linter.unusedVariables false
set_option linter.unusedSimpArgs false

theorem infoS : (Tryd.prog.info? 49).map (fun i => (i.zero, i.size, i.bytes)) = some (some (.slice none 0 0), 1, 24) := by kernel_rfl
/-- A row of n lists, made by the call. -/
structure PM (V wr : World) (pg n : Nat) (val : Nat → Value) (lst : Nat → List Int) : Prop where
  bel : Below V.heap.size V wr
  prow : wr.ownsRow V.heap.size 49 1 (.slice (some ⟨pg, 0, none⟩) n n) n ((List.range n).map fun i => val i)
  own : ∀ i, i < n → wr.ownsRow V.heap.size 3 1 (val i) (lst i).length (ivs (lst i))
  dis : ∀ i j, i < n → j < n → i ≠ j → ∀ q, (val i).ownBlock = some q → (val j).ownBlock ≠ some q
theorem rangeU_set (n : Nat) (val : Nat → Value) {p : Nat} (hp : p < n) (v : Value) : ((List.range n).map fun i => val i).set p v = (List.range n).map fun i => upd val p v i := by
  apply List.ext_getElem?
  intro q
  rw [List.getElem?_set]
  simp only [List.length_map, List.length_range, List.getElem?_map]
  by_cases e : p = q
  · subst e
    rw [if_pos rfl, if_pos hp, List.getElem?_range hp]
    simp [upd]
  · rw [if_neg e]
    by_cases hq : q < n
    · rw [List.getElem?_range hq]
      simp [upd]
      intro h; omega
    · rw [List.getElem?_eq_none (by simpa using hq)]
      rfl
section
variable {V wr : World} {pg n : Nat} {val : Nat → Value} {lst : Nat → List Int}
theorem PM.below {wr' : World} (h : PM V wr pg n val lst) (hb : Below wr.heap.size wr wr') : PM V wr' pg n val lst :=
  ⟨h.bel.trans (hb.mono h.bel.size), ownsRow_below h.prow hb, fun i hi => ownsRow_below (h.own i hi) hb, h.dis⟩
theorem PM.rg (h : PM V wr pg n val lst) : V.heap.size ≤ pg ∧ pg < wr.heap.size := h.prow.lt pg rfl
theorem PM.cells (h : PM V wr pg n val lst) {i : Nat} (hi : i < n) : wr.cell? ⟨pg, i, none⟩ = some (val i) ∧ wr.frozen? ⟨pg, i, none⟩ = false :=
  ⟨by rw [h.prow.cellAt _ (by omega), List.getElem?_map, List.getElem?_range hi]; rfl, h.prow.frozenAt _⟩
theorem PM.made {W' : World} (hg : wr.grownBy W' none) (hb : Below V.heap.size V wr) (hr : W'.ownsRow V.heap.size 49 1 (.slice (some ⟨pg, 0, none⟩) n n) n (List.replicate n (.slice none 0 0))) : PM V W' pg n (fun _ => .slice none 0 0) (fun _ => []) := by
  refine ⟨hb.grown hg hb.size (fun k hk => by cases hk), ?_, fun i hi => World.ownsRow_nil _ _ _ _, fun i j hi hj _ q hq => by cases hq⟩
  have e : ((List.range n).map fun _ => Value.slice none 0 0) = List.replicate n (Value.slice none 0 0) := by
    apply List.ext_getElem?
    intro q
    by_cases hq : q < n
    · simp [hq]
    · simp [hq]
  rw [e]
  exact hr
theorem PM.app {w2 W' : World} {i : Nat} {y : Int} {v' : Value} (h : PM V wr pg n val lst) (hi : i < n) (hb : Below wr.heap.size wr w2) (hg : w2.grownBy W' (val i).ownBlock)
    (hown : W'.ownsRow V.heap.size 3 1 v' ((lst i).length + 1) (ivs (lst i ++ [y]))) (hob : v'.ownBlock = (val i).ownBlock ∨ v'.ownBlock = some w2.heap.size) :
    PM V (W'.setCell ⟨pg, i, none⟩ v') pg n (upd val i v') (upd lst i (lst i ++ [y])) := by
  have G := grown_of hb hg
  have S := grown_setCell W' pg i v'
  obtain ⟨p1, p2⟩ := h.rg
  have hgs := G.size
  have hbs := h.bel.size
  have oi := h.own i hi
  have ob : ∀ q, (val i).ownBlock = some q → V.heap.size ≤ q ∧ q ≠ pg := fun q hq => ⟨(oi.lt q hq).1, fun e => own_ne oi h.prow (by decide) q hq (by rw [e]; rfl)⟩
  have p' : W'.ownsRow V.heap.size 49 1 (.slice (some ⟨pg, 0, none⟩) n n) n ((List.range n).map fun i => val i) := h.prow.kept G (.inr (fun e' => (ob pg e'.symm).2 rfl))
  have own' : ∀ q, v'.ownBlock = some q → q ≠ pg := fun q hq e => own_ne hown p' (by decide) q hq (by rw [e]; rfl)
  refine ⟨?_, ?_, fun j hj => ?_, fun a c ha hc hac q hq => ?_⟩
  · exact ((h.bel.grown G hbs (fun k hk => (ob k hk).1)).grown S (by omega) (fun k hk => by cases hk; exact p1))
  · rw [← rangeU_set n val hi v']
    exact (p'.stored i v').1
  · unfold upd
    by_cases e : j = i
    · subst e
      rw [if_pos rfl, if_pos rfl]
      rw [show (lst j ++ [y]).length = (lst j).length + 1 by simp]
      exact hown.kept S (by
        cases hv : v'.ownBlock with
        | none => exact .inl rfl
        | some q => exact .inr (fun e' => own' q hv (by simpa using e')))
    · rw [if_neg e, if_neg e]
      refine ((h.own j hj).kept G ?_).kept S ?_
      · cases hv : (val j).ownBlock with
        | none => exact .inl rfl
        | some q => exact .inr (fun e' => h.dis i j hi hj (fun e2 => e e2.symm) q e'.symm hv)
      · cases hv : (val j).ownBlock with
        | none => exact .inl rfl
        | some q =>
          refine .inr (fun e' => ?_)
          have hqr : q = pg := by simpa using e'
          exact own_ne (h.own j hj) h.prow (by decide) q hv (by rw [hqr]; rfl)
  · have new : ∀ a, a < n → a ≠ i → ∀ q, v'.ownBlock = some q → (val a).ownBlock ≠ some q := fun a ha hai q hq hq2 => by
      rcases hob with h1 | h1
      · rw [h1] at hq
        exact h.dis i a hi ha (fun e => hai e.symm) q hq hq2
      · rw [h1] at hq
        cases hq
        have := ((h.own a ha).lt _ hq2).2
        have := hb.size
        omega
    unfold upd at hq ⊢
    by_cases e1 : a = i
    · rw [if_pos e1] at hq
      rw [if_neg (fun e => hac (e1.trans e.symm))]
      exact new c hc (fun e => hac (e1.trans e.symm)) q hq
    · rw [if_neg e1] at hq
      by_cases e2 : c = i
      · rw [if_pos e2]
        exact fun hq2 => new a ha e1 q hq2 hq
      · rw [if_neg e2]
        exact h.dis a c ha hc hac q hq
theorem PM.lls (h : PM V wr pg n val lst) : Lls wr (.slice (some ⟨pg, 0, none⟩) n n) ((List.range n).map lst) := by
  have pc : n ≤ maxLen := by
    rcases h.prow.2 with ⟨e, _⟩ | ⟨_, _, _, e, _, _, h1, h2, _⟩
    · cases e
    · cases e; exact h2
  refine ⟨_, n, by simp, by simp, pc, fun _ => ⟨pg, 0, rfl, h.rg.2, fun i x hx => ?_⟩⟩
  rw [List.getElem?_map] at hx
  have hi : i < n := by
    by_cases hi : i < n
    · exact hi
    · rw [List.getElem?_eq_none (by simpa using hi)] at hx; cases hx
  rw [List.getElem?_range hi] at hx
  simp only [Option.map_some, Option.some.injEq] at hx
  subst hx
  exact ⟨val i, by rw [Nat.zero_add]; exact (h.cells hi).1, own_ints (h.own i hi)⟩
end

/-- The predecessors: what has been appended to list p, blocks 0 .. k - 1 and the first elements l of block k taken. -/
def cntP (nx : List Int) (p k : Nat) : List Int := (nx.filter (fun x => decide (x = (p : Int)))).map (fun _ => (k : Int))
def prvs (G : List Blk) (k : Nat) (p : Nat) : List Int := (List.range k).flatMap fun b => cntP (G.getD b ⟨0, 0, []⟩).nx p b
def prvAt (G : List Blk) (k : Nat) (l : List Int) : Nat → List Int := fun p => prvs G k p ++ cntP l p k
theorem prvAt_zero (G : List Blk) : prvAt G 0 [] = fun _ => [] := by funext p; simp [prvAt, prvs, cntP]
theorem prvAt_add (G : List Blk) (k p : Nat) (l : List Int) : prvAt G k (l ++ [(p : Int)]) = upd (prvAt G k l) p (prvAt G k l p ++ [(k : Int)]) := by
  funext i
  unfold upd prvAt
  by_cases h : i = p
  · subst h
    rw [if_pos rfl]
    simp [cntP]
  · rw [if_neg h]
    have : (p : Int) ≠ (i : Int) := by omega
    simp [cntP, this]
theorem prvAt_step (G : List Blk) (k : Nat) (x : Blk) (h : G[k]? = some x) : prvAt G k x.nx = prvAt G (k + 1) [] := by
  funext i
  unfold prvAt prvs
  rw [List.range_succ, List.flatMap_append]
  simp [List.getD, h, cntP]
theorem prvAt_len (G : List Blk) (hn : ∀ x ∈ G, x.nx.length ≤ 5000) (k : Nat) (hk : k ≤ G.length) (l : List Int) (p : Nat) : (prvAt G k l p).length ≤ 5000 * k + l.length := by
  have c1 : ∀ (nx : List Int) (b : Nat), (cntP nx p b).length ≤ nx.length := fun nx b => by
    unfold cntP
    rw [List.length_map]
    exact List.length_filter_le _ _
  have c2 : (prvs G k p).length ≤ 5000 * k := by
    unfold prvs
    induction k with
    | zero => simp
    | succ k ih =>
      have := ih (by omega)
      rw [List.range_succ, List.flatMap_append, List.length_append]
      have h1 := c1 (G.getD k ⟨0, 0, []⟩).nx k
      have h2 : (G.getD k ⟨0, 0, []⟩).nx.length ≤ 5000 := by
        have hk' : k < G.length := by omega
        rw [show G.getD k ⟨0, 0, []⟩ = G[k] by simp [List.getD, List.getElem?_eq_getElem hk']]
        exact hn _ (List.getElem_mem hk')
      simp only [List.flatMap_cons, List.flatMap_nil, List.append_nil]
      omega
  unfold prvAt
  rw [List.length_append]
  have := c1 l k
  omega

end Go.Proofs.YtfceodpdipniaaaDoor
