/-
  What is proved here: the memory in the second loop of cfg.Build: the lists of successors and predecessors.
-/
import Derived.Test.YtfceodpdipniaaaDoorCgBlk
import Derived.Laws.MakeOwn
import Derived.RangeFuncBox
import Derived.OneCell
import Derived.Test.YtfceodpdipniaaaDoorStepApp
namespace Go.Proofs.YtfceodpdipniaaaDoor
open Go.RowKit
set_option linter.unusedVariables false
set_option linter.unusedSimpArgs false

theorem own_ne {w : World} {B B' : Nat} {e e' : TypeId} {s s' n n' : Nat} {v v' : Value} {xs xs' : List Value} (h : w.ownsRow B e s v n xs) (h' : w.ownsRow B' e' s' v' n' xs') (hne : e ≠ e') (q : Nat) (hq : v.ownBlock = some q) : v'.ownBlock ≠ some q := by
  intro hq'
  rcases h.2 with ⟨rfl, _⟩ | ⟨g, cap, cur, rfl, _, hg, _⟩
  · cases hq
  · rcases h'.2 with ⟨rfl, _⟩ | ⟨g', cap', cur', rfl, _, hg', _⟩
    · cases hq'
    · simp [Value.ownBlock] at hq hq'
      subst hq hq'
      rw [hg] at hg'
      cases hg'
      exact hne rfl
theorem grown_of {w w2 W' : World} {row : Option Nat} (hb : Below w.heap.size w w2) (hg : w2.grownBy W' row) : w.grownBy W' row :=
  ⟨hg.os.trans hb.os, hg.tape.trans hb.tape, hg.output.trans hb.output, Nat.le_trans hb.size hg.size, fun k hk hne => (hg.block k (by have := hb.size; omega) hne).trans (hb.block k hk)⟩
theorem grown_setCell (w : World) (g o : Nat) (u : Value) : w.grownBy (w.setCell ⟨g, o, none⟩ u) (some g) :=
  ⟨rfl, rfl, rfl, by simp, fun k _ hne => Below.heap_setCell _ _ _ _ (fun e => hne (by rw [e]))⟩

def upd {α : Type} (f : Nat → α) (i : Nat) (x : α) : Nat → α := fun j => if j = i then x else f j
def flatV (L : List (Int × Int)) (val : Nat → Value) : List Value := (List.range L.length).flatMap fun i => [.int .i64 (L.getD i (0, 0)).1, .int .i64 (L.getD i (0, 0)).2, val i]
theorem flat3_at {f : Nat → List Value} (hf : ∀ i, (f i).length = 3) : ∀ (n i j : Nat), i < n → j < 3 → ((List.range n).flatMap f)[i * 3 + j]? = (f i)[j]?
  | n + 1, i, j, hi, hj => by
    rw [List.range_succ, List.flatMap_append]
    have hl : ((List.range n).flatMap f).length = n * 3 := by
      clear hi
      induction n with
      | zero => rfl
      | succ n ih => rw [List.range_succ, List.flatMap_append, List.length_append, ih]; simp [hf]; omega
    by_cases e : i < n
    · rw [List.getElem?_append_left (by omega)]
      exact flat3_at hf n i j e hj
    · obtain rfl : i = n := by omega
      rw [List.getElem?_append_right (by omega), hl]
      simp
theorem flat3_len {f : Nat → List Value} (hf : ∀ i, (f i).length = 3) (n : Nat) : ((List.range n).flatMap f).length = n * 3 := by
  induction n with
  | zero => rfl
  | succ n ih => rw [List.range_succ, List.flatMap_append, List.length_append, ih]; simp [hf]; omega
theorem flatV_len (L : List (Int × Int)) (val : Nat → Value) : (flatV L val).length = L.length * 3 := flat3_len (fun _ => rfl) _
theorem flatV_at (L : List (Int × Int)) (val : Nat → Value) {i j : Nat} (hi : i < L.length) (hj : j < 3) : (flatV L val)[i * 3 + j]? = [.int .i64 (L.getD i (0, 0)).1, .int .i64 (L.getD i (0, 0)).2, val i][j]? := flat3_at (f := fun i => [.int .i64 (L.getD i (0, 0)).1, .int .i64 (L.getD i (0, 0)).2, val i]) (fun _ => rfl) _ _ _ hi hj
theorem flatV_set (L : List (Int × Int)) (val : Nat → Value) {i : Nat} (hi : i < L.length) (v : Value) : (flatV L val).set (i * 3 + 2) v = flatV L (upd val i v) := by
  apply List.ext_getElem?
  intro q
  by_cases hq : q < L.length * 3
  · obtain ⟨a, b, hb, rfl⟩ : ∃ a b, b < 3 ∧ q = a * 3 + b := ⟨q / 3, q % 3, Nat.mod_lt _ (by omega), by omega⟩
    have ha : a < L.length := by omega
    rw [List.getElem?_set, flatV_len, flatV_at L _ ha hb, flatV_at L _ ha hb]
    by_cases e : i * 3 + 2 = a * 3 + b
    · obtain rfl : a = i := by omega
      obtain rfl : b = 2 := by omega
      rw [if_pos rfl, if_pos (by omega)]
      simp [upd]
    · rw [if_neg e]
      obtain rfl | rfl | rfl : b = 0 ∨ b = 1 ∨ b = 2 := by omega
      · rfl
      · rfl
      · have : a ≠ i := by omega
        simp [upd, this]
  · rw [List.getElem?_eq_none (by rw [List.length_set, flatV_len]; omega), List.getElem?_eq_none (by rw [flatV_len]; omega)]
theorem rangeV_set (n : Nat) (val : Nat → Value) {p : Nat} (hp : p < n) (v : Value) : ((List.range n).map fun i => val (n + i)).set p v = (List.range n).map fun i => upd val (n + p) v (n + i) := by
  apply List.ext_getElem?
  intro q
  rw [List.getElem?_set]
  simp only [List.length_map, List.length_range, List.getElem?_map]
  by_cases e : p = q
  · subst e
    rw [if_pos rfl, if_pos hp, List.getElem?_range hp]
    simp [upd]
  · rw [if_neg e]
    by_cases hq : q < n
    · rw [List.getElem?_range hq]
      simp [upd]
      intro h; omega
    · rw [List.getElem?_eq_none (by simpa using hq)]
      rfl

/-- The memory in the second loop of Build. -/
structure BN (V wr : World) (gb nb g gcap pg : Nat) (L : List (Int × Int)) (val : Nat → Value) (lst : Nat → List Int) : Prop where
  gV : gb < V.heap.size
  nV : nb < V.heap.size
  gn : gb ≠ nb
  os : wr.os = V.os
  tape : wr.tape = V.tape
  output : wr.output = V.output
  sz : V.heap.size ≤ wr.heap.size
  blk : ∀ k, k < V.heap.size → k ≠ gb → k ≠ nb → wr.heap[k]? = V.heap[k]?
  gg : wr.heap[gb]? = some (.cells #[.slice (some ⟨g, 0, none⟩) L.length gcap, .slice (some ⟨pg, 0, none⟩) L.length L.length] 31 (0, 0))
  num : Im wr nb (nmb L)
  brow : wr.ownsRow V.heap.size 51 3 (.slice (some ⟨g, 0, none⟩) L.length gcap) L.length (flatV L val)
  prow : wr.ownsRow V.heap.size 49 1 (.slice (some ⟨pg, 0, none⟩) L.length L.length) L.length ((List.range L.length).map fun i => val (L.length + i))
  own : ∀ i, i < 2 * L.length → wr.ownsRow V.heap.size 3 1 (val i) (lst i).length (ivs (lst i))
  dis : ∀ i j, i < 2 * L.length → j < 2 * L.length → i ≠ j → ∀ q, (val i).ownBlock = some q → (val j).ownBlock ≠ some q
section
variable {V wr : World} {gb nb g gcap pg : Nat} {L : List (Int × Int)} {val : Nat → Value} {lst : Nat → List Int}
theorem BN.below {wr' : World} (h : BN V wr gb nb g gcap pg L val lst) (hb : Below wr.heap.size wr wr') : BN V wr' gb nb g gcap pg L val lst :=
  ⟨h.gV, h.nV, h.gn, hb.os.trans h.os, hb.tape.trans h.tape, hb.output.trans h.output, Nat.le_trans h.sz hb.size, fun k h1 h2 h3 => (hb.block k (by have := h.sz; omega)).trans (h.blk k h1 h2 h3), (hb.block _ (by have := h.sz; have := h.gV; omega)).trans h.gg, h.num.below hb h.num.lt, ownsRow_below h.brow hb, ownsRow_below h.prow hb, fun i hi => ownsRow_below (h.own i hi) hb, h.dis⟩
theorem BN.im (h : BN V wr gb nb g gcap pg L val lst) {x : Nat} {f : Int → Option Value} (hx : Im V x f) (h1 : x ≠ gb) (h2 : x ≠ nb) : Im wr x f := hx.keep (h.blk x hx.lt h1 h2)
theorem BN.rg (h : BN V wr gb nb g gcap pg L val lst) : (V.heap.size ≤ g ∧ g < wr.heap.size) ∧ (V.heap.size ≤ pg ∧ pg < wr.heap.size) ∧ g ≠ pg :=
  ⟨h.brow.lt g rfl, h.prow.lt pg rfl, fun e => own_ne h.brow h.prow (by decide) g rfl (by rw [e]; rfl)⟩
/-- An element is appended to the list at an index, and the slice is stored in its row. -/
theorem BN.app {w2 W' : World} {i x : Nat} {y : Int} {v' : Value} (h : BN V wr gb nb g gcap pg L val lst) (hi : i < 2 * L.length) (hb : Below wr.heap.size wr w2) (hg : w2.grownBy W' (val i).ownBlock)
    (hown : W'.ownsRow V.heap.size 3 1 v' ((lst i).length + 1) (ivs (lst i ++ [y]))) (hob : v'.ownBlock = (val i).ownBlock ∨ v'.ownBlock = some w2.heap.size) (r o : Nat) (hr : (i < L.length ∧ r = g ∧ o = i * 3 + 2) ∨ (L.length ≤ i ∧ r = pg ∧ o = i - L.length)) :
    BN V (W'.setCell ⟨r, o, none⟩ v') gb nb g gcap pg L (upd val i v') (upd lst i (lst i ++ [y])) := by
  have G := grown_of hb hg
  have S := grown_setCell W' r o v'
  obtain ⟨⟨g1, g2⟩, ⟨p1, p2⟩, gp⟩ := h.rg
  have hgV := h.gV
  have hnV := h.nV
  have hsz := h.sz
  have hgs := G.size
  have oi := h.own i hi
  have ob : ∀ q, (val i).ownBlock = some q → V.heap.size ≤ q ∧ q ≠ g ∧ q ≠ pg := fun q hq => ⟨(oi.lt q hq).1, fun e => own_ne oi h.brow (by decide) q hq (by rw [e]; rfl), fun e => own_ne oi h.prow (by decide) q hq (by rw [e]; rfl)⟩
  have rV : V.heap.size ≤ r ∧ (r = g ∨ r = pg) := by rcases hr with ⟨_, rfl, _⟩ | ⟨_, rfl, _⟩; exact ⟨g1, .inl rfl⟩; exact ⟨p1, .inr rfl⟩
  have small : ∀ k, k < V.heap.size → (W'.setCell ⟨r, o, none⟩ v').heap[k]? = wr.heap[k]? := fun k hk => by
    rw [Below.heap_setCell _ _ _ _ (by show k ≠ r; omega)]
    exact G.block k (by omega) (fun e => by have := (ob k e.symm).1; omega)
  have own' : ∀ q, v'.ownBlock = some q → q ≠ r ∧ V.heap.size ≤ q := fun q hq => by
    have h1 := (hown.lt q hq).1
    refine ⟨fun e => ?_, h1⟩
    have : W'.ownsRow V.heap.size 51 3 (.slice (some ⟨g, 0, none⟩) L.length gcap) L.length (flatV L val) := h.brow.kept G (.inr (fun e' => (ob g e'.symm).2.1 rfl))
    have h2 : W'.ownsRow V.heap.size 49 1 (.slice (some ⟨pg, 0, none⟩) L.length L.length) L.length ((List.range L.length).map fun i => val (L.length + i)) := h.prow.kept G (.inr (fun e' => (ob pg e'.symm).2.2 rfl))
    rcases rV.2 with e2 | e2
    · exact own_ne hown this (by decide) q hq (by rw [e, e2]; rfl)
    · exact own_ne hown h2 (by decide) q hq (by rw [e, e2]; rfl)
  have b' : W'.ownsRow V.heap.size 51 3 (.slice (some ⟨g, 0, none⟩) L.length gcap) L.length (flatV L val) := h.brow.kept G (.inr (fun e' => (ob g e'.symm).2.1 rfl))
  have p' : W'.ownsRow V.heap.size 49 1 (.slice (some ⟨pg, 0, none⟩) L.length L.length) L.length ((List.range L.length).map fun i => val (L.length + i)) := h.prow.kept G (.inr (fun e' => (ob pg e'.symm).2.2 rfl))
  have h2V : V.heap.size ≤ W'.heap.size := by omega
  refine ⟨h.gV, h.nV, h.gn, G.os.trans h.os, G.tape.trans h.tape, G.output.trans h.output, by simpa using h2V, fun k h1 h2 h3 => (small k h1).trans (h.blk k h1 h2 h3), (small gb hgV).trans h.gg, h.num.keep (small nb hnV), ?_, ?_, fun j hj => ?_, fun a c ha hc hac q hq => ?_⟩
  · rcases hr with ⟨hl, rfl, rfl⟩ | ⟨hl, rfl, rfl⟩
    · rw [← flatV_set L val hl v']
      exact (b'.stored (i * 3 + 2) v').1
    · have e : flatV L (upd val i v') = flatV L val := by
        unfold flatV
        rw [List.flatMap_def, List.flatMap_def]
        congr 1
        apply List.map_congr_left
        intro a ha
        have : a ≠ i := by have := List.mem_range.1 ha; omega
        simp [upd, this]
      rw [e]
      exact b'.kept S (.inr (by simp [Value.ownBlock]; exact gp))
  · rcases hr with ⟨hl, rfl, rfl⟩ | ⟨hl, rfl, rfl⟩
    · have e : ((List.range L.length).map fun a => upd val i v' (L.length + a)) = (List.range L.length).map fun a => val (L.length + a) := by
        apply List.map_congr_left
        intro a ha
        have : L.length + a ≠ i := by omega
        simp [upd, this]
      rw [e]
      exact p'.kept S (.inr (by simp [Value.ownBlock]; exact Ne.symm gp))
    · have e : upd val i v' = upd val (L.length + (i - L.length)) v' := by rw [show L.length + (i - L.length) = i by omega]
      rw [e, ← rangeV_set L.length val (by omega) v']
      exact (p'.stored (i - L.length) v').1
  · unfold upd
    by_cases e : j = i
    · subst e
      rw [if_pos rfl, if_pos rfl]
      rw [show (lst j ++ [y]).length = (lst j).length + 1 by simp]
      exact hown.kept S (by
        cases hv : v'.ownBlock with
        | none => exact .inl rfl
        | some q => exact .inr (fun e' => (own' q hv).1 (by simpa using e')))
    · rw [if_neg e, if_neg e]
      refine ((h.own j hj).kept G ?_).kept S ?_
      · cases hv : (val j).ownBlock with
        | none => exact .inl rfl
        | some q => exact .inr (fun e' => h.dis i j hi hj (fun e2 => e e2.symm) q e'.symm hv)
      · cases hv : (val j).ownBlock with
        | none => exact .inl rfl
        | some q =>
          refine .inr (fun e' => ?_)
          have hqr : q = r := by simpa using e'
          rcases rV.2 with e2 | e2
          · exact own_ne (h.own j hj) h.brow (by decide) q hv (by rw [hqr, e2]; rfl)
          · exact own_ne (h.own j hj) h.prow (by decide) q hv (by rw [hqr, e2]; rfl)
  · have new : ∀ a, a < 2 * L.length → a ≠ i → ∀ q, v'.ownBlock = some q → (val a).ownBlock ≠ some q := fun a ha hai q hq hq2 => by
      rcases hob with h1 | h1
      · rw [h1] at hq
        exact h.dis i a hi ha (fun e => hai e.symm) q hq hq2
      · rw [h1] at hq
        cases hq
        have := ((h.own a ha).lt _ hq2).2
        have := hb.size
        omega
    unfold upd at hq ⊢
    by_cases e1 : a = i
    · rw [if_pos e1] at hq
      rw [if_neg (fun e => hac (e1.trans e.symm))]
      exact new c hc (fun e => hac (e1.trans e.symm)) q hq
    · rw [if_neg e1] at hq
      by_cases e2 : c = i
      · rw [if_pos e2]
        exact fun hq2 => new a ha e1 q hq2 hq
      · rw [if_neg e2]
        exact h.dis a c ha hc hac q hq
end

def addN (l : List Int) (x : Int) : List Int := if x ∈ l then l else l ++ [x]
def nxl (L : List (Int × Int)) (S : List Int) : List Int := S.foldl (fun l s => addN l (idx L s : Int)) []
def lastI (L : List (Int × Int)) (k : Nat) : Int := (L.getD k (0, 0)).2 - 1
def nextOf (c : Int → Ins) (L : List (Int × Int)) (k : Nat) : List Int := nxl L (succI (c (lastI L k)) (lastI L k))
def prevOf (c : Int → Ins) (L : List (Int × Int)) (k p : Nat) : List Int := ((List.range k).filter (fun b => decide ((p : Int) ∈ nextOf c L b))).map (fun (b : Nat) => (b : Int))
def lstAt (c : Int → Ins) (L : List (Int × Int)) (k : Nat) (l : List Int) : Nat → List Int := fun i =>
  if i < L.length then (if i < k then nextOf c L i else if i = k then l else []) else prevOf c L k (i - L.length) ++ if ((i - L.length : Nat) : Int) ∈ l then [(k : Int)] else []
theorem lstAt_zero (c : Int → Ins) (L : List (Int × Int)) : lstAt c L 0 [] = fun _ => [] := by
  funext i
  unfold lstAt prevOf
  split
  · simp
  · simp
theorem lstAt_step (c : Int → Ins) (L : List (Int × Int)) (k : Nat) : lstAt c L k (nextOf c L k) = lstAt c L (k + 1) [] := by
  funext i
  unfold lstAt
  by_cases h : i < L.length
  · rw [if_pos h, if_pos h]
    by_cases h1 : i < k
    · rw [if_pos h1, if_pos (by omega)]
    · rw [if_neg h1]
      by_cases h2 : i = k
      · rw [if_pos h2, if_pos (by omega), h2]
      · rw [if_neg h2, if_neg (by omega)]
        split <;> rfl
  · rw [if_neg h, if_neg h]
    unfold prevOf
    rw [List.range_succ, List.filter_append, List.map_append]
    by_cases h3 : ((i - L.length : Nat) : Int) ∈ nextOf c L k
    · simp [h3]
    · simp [h3]
theorem lstAt_add (c : Int → Ins) (L : List (Int × Int)) (k p : Nat) (l : List Int) (hk : k < L.length) (hp : p < L.length) (hx : (p : Int) ∉ l) : lstAt c L k (l ++ [(p : Int)]) = upd (upd (lstAt c L k l) k (l ++ [(p : Int)])) (L.length + p) (lstAt c L k l (L.length + p) ++ [(k : Int)]) := by
  funext i
  unfold upd
  by_cases h1 : i = L.length + p
  · subst h1
    rw [if_pos rfl]
    unfold lstAt
    have e : ¬ (L.length + p < L.length) := by omega
    have e2 : L.length + p - L.length = p := by omega
    simp [e, e2, hx]
  · rw [if_neg h1]
    by_cases h2 : i = k
    · subst h2
      rw [if_pos rfl]
      unfold lstAt
      rw [if_pos hk, if_neg (by omega), if_pos rfl]
    · rw [if_neg h2]
      unfold lstAt
      by_cases h : i < L.length
      · rw [if_pos h, if_pos h, if_neg h2, if_neg h2]
      · rw [if_neg h, if_neg h]
        congr 1
        have : ((i - L.length : Nat) : Int) ≠ (p : Int) := by omega
        simp [this]
theorem lstAt_self (c : Int → Ins) (L : List (Int × Int)) (k : Nat) (l : List Int) (hk : k < L.length) : lstAt c L k l k = l := by
  unfold lstAt
  rw [if_pos hk, if_neg (by omega), if_pos rfl]
theorem nxl_take (L : List (Int × Int)) (S : List Int) (j : Nat) (s : Int) (h : S[j]? = some s) : nxl L (S.take (j + 1)) = addN (nxl L (S.take j)) (idx L s : Int) := by
  unfold nxl
  rw [take_snoc h, List.foldl_append]
  rfl
theorem nxl_len (L : List (Int × Int)) (S : List Int) : (nxl L S).length ≤ S.length := by
  have : ∀ (S l : List Int), (S.foldl (fun l s => addN l (idx L s : Int)) l).length ≤ l.length + S.length := by
    intro S
    induction S with
    | nil => intro l; simp
    | cons s S ih =>
      intro l
      rw [List.foldl_cons]
      have := ih (addN l (idx L s : Int))
      have h2 : (addN l (idx L s : Int)).length ≤ l.length + 1 := by unfold addN; split <;> simp
      simp; omega
  have h := this S []
  simp only [List.length_nil, Nat.zero_add] at h
  exact h
theorem prevOf_len (c : Int → Ins) (L : List (Int × Int)) (k p : Nat) : (prevOf c L k p).length ≤ k := by
  unfold prevOf
  rw [List.length_map]
  exact Nat.le_trans (List.length_filter_le _ _) (by simp)

/-- A list of blocks in memory. -/
structure Blk where
  lo : Int
  hi : Int
  nx : List Int
deriving DecidableEq
def Blks (w : World) (v : Value) (G : List Blk) : Prop :=
  ∃ A cap, v = .slice A G.length cap ∧ G.length ≤ cap ∧ cap ≤ maxLen ∧ (0 < G.length → ∃ b off, A = some ⟨b, off, none⟩ ∧ b < w.heap.size ∧ ∀ i x, G[i]? = some x →
    w.cell? ⟨b, off + i * 3, none⟩ = some (.int .i64 x.lo) ∧ w.cell? ⟨b, off + i * 3 + 1, none⟩ = some (.int .i64 x.hi) ∧ ∃ nv, w.cell? ⟨b, off + i * 3 + 2, none⟩ = some nv ∧ Ints w nv x.nx)
def Lls (w : World) (v : Value) (P : List (List Int)) : Prop :=
  ∃ A cap, v = .slice A P.length cap ∧ P.length ≤ cap ∧ cap ≤ maxLen ∧ (0 < P.length → ∃ b off, A = some ⟨b, off, none⟩ ∧ b < w.heap.size ∧ ∀ i x, P[i]? = some x →
    ∃ nv, w.cell? ⟨b, off + i, none⟩ = some nv ∧ Ints w nv x)
theorem Blks.below {w w' : World} {v : Value} {G : List Blk} (h : Blks w v G) (hb : Below w.heap.size w w') : Blks w' v G := by
  obtain ⟨A, cap, h1, h2, h3, h4⟩ := h
  refine ⟨A, cap, h1, h2, h3, fun h0 => ?_⟩
  obtain ⟨b, off, ha, hlt, hc⟩ := h4 h0
  refine ⟨b, off, ha, by have := hb.size; omega, fun i x hx => ?_⟩
  obtain ⟨c0, c1, nv, c2, hn⟩ := hc i x hx
  exact ⟨(hb.cell (p := ⟨b, _, none⟩) hlt).trans c0, (hb.cell (p := ⟨b, _, none⟩) hlt).trans c1, nv, (hb.cell (p := ⟨b, _, none⟩) hlt).trans c2, hn.below hb⟩
theorem Lls.below {w w' : World} {v : Value} {P : List (List Int)} (h : Lls w v P) (hb : Below w.heap.size w w') : Lls w' v P := by
  obtain ⟨A, cap, h1, h2, h3, h4⟩ := h
  refine ⟨A, cap, h1, h2, h3, fun h0 => ?_⟩
  obtain ⟨b, off, ha, hlt, hc⟩ := h4 h0
  refine ⟨b, off, ha, by have := hb.size; omega, fun i x hx => ?_⟩
  obtain ⟨nv, c2, hn⟩ := hc i x hx
  exact ⟨nv, (hb.cell (p := ⟨b, _, none⟩) hlt).trans c2, hn.below hb⟩
theorem own_ints {w : World} {B : Nat} {v : Value} {l : List Int} (h : w.ownsRow B 3 1 v l.length (ivs l)) : Ints w v l := by
  rcases h.2 with ⟨rfl, h0⟩ | ⟨g, cap, cur, rfl, _, hg, h1, h2, _, _⟩
  · have : l = [] := List.length_eq_zero_iff.1 h0
    subst this
    exact ints_nil _
  · refine ⟨_, cap, rfl, h1, h2, fun _ => ⟨g, 0, rfl, (Array.getElem?_eq_some_iff.1 hg).1, fun i hi => ?_⟩⟩
    rw [Nat.zero_add, h.cellAt i (by omega)]
    simp [ivs, List.getD, List.getElem?_eq_getElem hi]
/-- The graph that Build returns. -/
def gBlks (c : Int → Ins) (L : List (Int × Int)) : List Blk := (List.range L.length).map fun k => ⟨(L.getD k (0, 0)).1, (L.getD k (0, 0)).2, nextOf c L k⟩
def gPrev (c : Int → Ins) (L : List (Int × Int)) : List (List Int) := (List.range L.length).map fun p => prevOf c L L.length p
theorem BN.graph {V wr wf : World} {gb nb g gcap pg rb : Nat} {c : Int → Ins} {L : List (Int × Int)} {val : Nat → Value} (h : BN V wr gb nb g gcap pg L val (lstAt c L L.length [])) (G : wr.grownBy wf (some rb)) (hrb : rb < V.heap.size) :
    Blks wf (.slice (some ⟨g, 0, none⟩) L.length gcap) (gBlks c L) ∧ Lls wf (.slice (some ⟨pg, 0, none⟩) L.length L.length) (gPrev c L) := by
  obtain ⟨⟨g1, g2⟩, ⟨p1, p2⟩, gp⟩ := h.rg
  have gs := G.size
  have b' := h.brow.kept G (.inr (by simp [Value.ownBlock]; omega))
  have p' := h.prow.kept G (.inr (by simp [Value.ownBlock]; omega))
  have own' : ∀ i, i < 2 * L.length → wf.ownsRow V.heap.size 3 1 (val i) (lstAt c L L.length [] i).length (ivs (lstAt c L L.length [] i)) := fun i hi => (h.own i hi).kept G (by
    cases hv : (val i).ownBlock with
    | none => exact .inl rfl
    | some q => exact .inr (fun e => by have := ((h.own i hi).lt q hv).1; simp at e; omega))
  have bc : L.length ≤ gcap ∧ gcap ≤ maxLen := by
    rcases b'.2 with ⟨e, _⟩ | ⟨_, _, _, e, _, _, h1, h2, _⟩
    · cases e
    · cases e; exact ⟨h1, h2⟩
  have pc : L.length ≤ maxLen := by
    rcases p'.2 with ⟨e, _⟩ | ⟨_, _, _, e, _, _, h1, h2, _⟩
    · cases e
    · cases e; exact h2
  refine ⟨⟨_, gcap, by simp [gBlks], by simp [gBlks]; exact bc.1, bc.2, fun _ => ⟨g, 0, rfl, by omega, fun i x hx => ?_⟩⟩, ⟨_, L.length, by simp [gPrev], by simp [gPrev], pc, fun _ => ⟨pg, 0, rfl, by omega, fun i x hx => ?_⟩⟩⟩
  · unfold gBlks at hx
    rw [List.getElem?_map] at hx
    have hi : i < L.length := by
      by_cases hi : i < L.length
      · exact hi
      · rw [List.getElem?_eq_none (by simpa using hi)] at hx; cases hx
    rw [List.getElem?_range hi] at hx
    simp only [Option.map_some, Option.some.injEq] at hx
    subst hx
    refine ⟨?_, ?_, val i, ?_, ?_⟩
    · rw [Nat.zero_add, b'.cellAt _ (by omega), show i * 3 = i * 3 + 0 from rfl, flatV_at L val hi (by omega)]; rfl
    · rw [Nat.zero_add, b'.cellAt _ (by omega), flatV_at L val hi (by omega)]; rfl
    · rw [Nat.zero_add, b'.cellAt _ (by omega), flatV_at L val hi (by omega)]; rfl
    · have := own_ints (own' i (by omega))
      unfold lstAt at this
      rwa [if_pos hi, if_pos hi] at this
  · unfold gPrev at hx
    rw [List.getElem?_map] at hx
    have hi : i < L.length := by
      by_cases hi : i < L.length
      · exact hi
      · rw [List.getElem?_eq_none (by simpa using hi)] at hx; cases hx
    rw [List.getElem?_range hi] at hx
    simp only [Option.map_some, Option.some.injEq] at hx
    subst hx
    refine ⟨val (L.length + i), ?_, ?_⟩
    · rw [Nat.zero_add, p'.cellAt _ (by omega), List.getElem?_map, List.getElem?_range hi]; rfl
    · have := own_ints (own' (L.length + i) (by omega))
      unfold lstAt at this
      rw [if_neg (by omega), show L.length + i - L.length = i by omega] at this
      simpa using this

end Go.Proofs.YtfceodpdipniaaaDoor
