/-
  What is proved here: the graph that Build returns is valid (plain).
-/
import Derived.Test.YtfceodpdipniaaaDoorCgRVal
import Derived.Test.YtfceodpdipniaaaDoorCgBuild
namespace Go.Proofs.YtfceodpdipniaaaDoor
open Go.RowKit
set_option linter.unusedVariables false
set_option linter.unusedSimpArgs false

theorem addN_nodup {l : List Int} (h : l.Nodup) (x : Int) : (addN l x).Nodup := by
  unfold addN
  split
  · exact h
  · rename_i hx
    rw [List.nodup_append]
    exact ⟨h, by simp, fun a ha b hb => by simp at hb; subst hb; exact fun e => hx (e ▸ ha)⟩
theorem nxl_nodup (L : List (Int × Int)) (S : List Int) : (nxl L S).Nodup := by
  have : ∀ (S l : List Int), l.Nodup → (S.foldl (fun l s => addN l (idx L s : Int)) l).Nodup := by
    intro S
    induction S with
    | nil => intro l h; exact h
    | cons s S ih => intro l h; rw [List.foldl_cons]; exact ih _ (addN_nodup h _)
  exact this S [] (by simp)
theorem mem_addN {l : List Int} {x y : Int} : y ∈ addN l x ↔ y ∈ l ∨ y = x := by
  unfold addN
  split
  · rename_i h
    constructor
    · exact .inl
    · rintro (h1 | rfl)
      · exact h1
      · exact h
  · simp
theorem mem_nxl (L : List (Int × Int)) (S : List Int) (y : Int) : y ∈ nxl L S ↔ ∃ s ∈ S, y = (idx L s : Int) := by
  have : ∀ (S l : List Int), y ∈ (S.foldl (fun l s => addN l (idx L s : Int)) l) ↔ y ∈ l ∨ ∃ s ∈ S, y = (idx L s : Int) := by
    intro S
    induction S with
    | nil => intro l; simp
    | cons s S ih =>
      intro l
      rw [List.foldl_cons, ih, mem_addN]
      simp [or_assoc]
  have h := this S []
  simpa [nxl] using h

/-- What holds of the graph of a range that is not left. -/
structure GInv (c : Int → Ins) (st en : Int) (D : List Int) (L : List (Int × Int)) : Prop where
  b : BInv c st D (en - st).toNat L
  mem : ∀ a, a ∈ D ↔ Rch c st en a
  all : ∀ a ∈ D, ∀ t ∈ succI (c a) a, t ∈ D
  st0 : 0 ≤ st
  lt : st < en
theorem GInv.of {c : Int → Ins} {st en : Int} {D : List Int} (h0 : 0 ≤ st) (h1 : st < en) (hR : RInv c st en D [] (-1)) : GInv c st en D (blk c st D (en - st).toNat) := by
  refine ⟨blk_inv c st D _, hR.mem h1, fun a ha t ht => ?_, h0, h1⟩
  have hb : ¬ Bads c st en a := by
    rcases hR.b with h | h
    · exact h.2 a ha
    · have := (hR.dr _ h.1).range _ _ _ h1
      omega
  have hin : st ≤ t ∧ t < en := Classical.byContradiction fun h => hb ⟨t, ht, h⟩
  rcases hR.cl a ha t ht hin.1 hin.2 with h | h
  · exact h
  · cases h
section
variable {c : Int → Ins} {st en : Int} {D : List Int} {L : List (Int × Int)}
theorem GInv.range (h : GInv c st en D L) {a : Int} (ha : a ∈ D) : st ≤ a ∧ a < en := ((h.mem a).1 ha).range _ _ _ h.lt
/-- The successors of a block's last instruction are first instructions. -/
theorem GInv.succ (h : GInv c st en D L) {p : Int × Int} (hp : p ∈ L) {s : Int} (hs : s ∈ succI (c (p.2 - 1)) (p.2 - 1)) : s ∈ D ∧ ∃ q ∈ L, q.1 = s := by
  have hla := h.b.last p hp
  have hsD := h.all _ hla s hs
  have hin := h.range hsD
  refine ⟨hsD, h.b.num s hin.1 (by have := h.lt; omega) hsD ?_⟩
  by_cases hbr : isBr (c (p.2 - 1)).op = true
  · rw [ldB_iff]
    refine .inr ⟨_, hla, ?_⟩
    unfold marksI
    rw [if_pos hbr]
    exact hs
  · have : s = p.2 := by
      unfold succI at hs
      unfold isBr at hbr
      split at hs
      · cases hs
      · split at hs
        · simp_all
        · split at hs
          · rename_i h; rcases h with h | h <;> simp [h] at hbr
          · simp at hs; omega
    rw [this] at hsD hin ⊢
    exact h.b.cl _ hp (by have := h.lt; omega) hsD
theorem GInv.next (h : GInv c st en D L) {k : Nat} (hk : k < L.length) : ∀ t ∈ nextOf c L k, 0 ≤ t ∧ t < (L.length : Int) := by
  intro t ht
  unfold nextOf at ht
  obtain ⟨s, hs, rfl⟩ := (mem_nxl _ _ _).1 ht
  have e1 : L.getD k (0, 0) = L[k] := by simp [List.getD, List.getElem?_eq_getElem hk]
  unfold lastI at hs
  rw [e1] at hs
  obtain ⟨_, hq⟩ := h.succ (List.getElem_mem hk) hs
  have := (nmb_some hq).2.1
  omega
theorem gBlks_at (c : Int → Ins) (L : List (Int × Int)) {k : Nat} (hk : k < L.length) : (gBlks c L)[k]? = some ⟨(L[k]).1, (L[k]).2, nextOf c L k⟩ := by
  unfold gBlks
  rw [List.getElem?_map, List.getElem?_range hk]
  simp [List.getD, List.getElem?_eq_getElem hk]
theorem gBlks_len (c : Int → Ins) (L : List (Int × Int)) : (gBlks c L).length = L.length := by simp [gBlks]
theorem okL_of {n : Nat} {G : List Blk} (h1 : ∀ (k : Nat) (x : Blk), G[k]? = some x → x.lo < x.hi ∧ x.nx.length ≤ 2 ∧ (∀ t ∈ x.nx, 0 ≤ t ∧ t < (n : Int)) ∧ x.nx.Nodup) (h2 : ∀ x, G[0]? = some x → 0 ≤ x.lo) (h3 : ∀ (k : Nat) (x y : Blk), G[k]? = some x → G[k + 1]? = some y → x.hi ≤ y.lo) : ∃ z, okL n 0 G z := by
  have key : ∀ m, m ≤ G.length → ∃ z, okL n 0 (G.take m) z ∧ (∀ x, G[m]? = some x → z ≤ x.lo) := by
    intro m
    induction m with
    | zero => intro _; exact ⟨0, rfl, h2⟩
    | succ m ih =>
      intro hm
      obtain ⟨z, hz, hl⟩ := ih (by omega)
      have hx : G[m]? = some G[m] := List.getElem?_eq_getElem (by omega)
      obtain ⟨a1, a2, a3, a4⟩ := h1 m _ hx
      refine ⟨G[m].hi, ?_, fun y hy => h3 m _ y hx hy⟩
      rw [take_snoc hx]
      refine hz.snoc ⟨hl _ hx, a1, a2, a3, fun ⟨e1, e2⟩ => ?_⟩
      match hnx : G[m].nx, e1, e2, a4 with
      | [u, v], _, e2, a4 => simp at e2 a4; exact a4 e2
  obtain ⟨z, hz, _⟩ := key G.length (Nat.le_refl _)
  rw [List.take_length] at hz
  exact ⟨z, hz⟩
theorem cntP_nodup {nx : List Int} (h : nx.Nodup) (p k : Nat) : cntP nx p k = if (p : Int) ∈ nx then [(k : Int)] else [] := by
  induction nx with
  | nil => rfl
  | cons x nx ih =>
    obtain ⟨h1, h2⟩ := List.nodup_cons.1 h
    have ih := ih h2
    unfold cntP at ih ⊢
    by_cases e : x = (p : Int)
    · subst e
      rw [if_pos (by simp)]
      simp only [List.filter_cons, decide_true, if_true, List.map_cons]
      rw [ih, if_neg h1]
    · have e' : (p : Int) ≠ x := fun h => e h.symm
      simp only [List.filter_cons, e, decide_false, Bool.false_eq_true, if_false]
      rw [ih]
      simp [e']
theorem gPrev_eq (c : Int → Ins) (L : List (Int × Int)) : (List.range (gBlks c L).length).map (prvAt (gBlks c L) (gBlks c L).length []) = gPrev c L := by
  unfold gPrev
  rw [gBlks_len]
  apply List.map_congr_left
  intro p _
  unfold prvAt prvs prevOf
  have : cntP [] p L.length = [] := rfl
  rw [this, List.append_nil]
  have key : ∀ m, m ≤ L.length → (List.range m).flatMap (fun b => cntP ((gBlks c L).getD b ⟨0, 0, []⟩).nx p b) = ((List.range m).filter (fun b => decide ((p : Int) ∈ nextOf c L b))).map (fun (b : Nat) => (b : Int)) := by
    intro m
    induction m with
    | zero => intro _; rfl
    | succ m ih =>
      intro hm
      rw [List.range_succ, List.flatMap_append, List.filter_append, List.map_append, ih (by omega)]
      congr 1
      have e : (gBlks c L).getD m ⟨0, 0, []⟩ = ⟨(L[m]).1, (L[m]).2, nextOf c L m⟩ := by simp [List.getD, gBlks_at c L (show m < L.length by omega)]
      simp only [List.flatMap_cons, List.flatMap_nil, List.append_nil, e]
      rw [cntP_nodup (show (nextOf c L m).Nodup from nxl_nodup _ _)]
      by_cases hp : (p : Int) ∈ nextOf c L m
      · rw [if_pos hp]; simp [hp]
      · rw [if_neg hp]; simp [hp]
  exact key L.length (Nat.le_refl _)
theorem GInv.valid (h : GInv c st en D L) (hst : st ∈ D) : ValidG (gBlks c L) (gPrev c L) := by
  have hn0 : L ≠ [] := h.b.ne hst (by have := h.lt; omega)
  refine ⟨fun e => hn0 ?_, by simp [gPrev, gBlks], ?_, gPrev_eq c L⟩
  · have := congrArg List.length e
    rw [gBlks_len] at this
    exact List.length_eq_zero_iff.1 this
  · rw [gBlks_len]
    refine okL_of (fun k x hx => ?_) (fun x hx => ?_) (fun k x y hx hy => ?_)
    · have hk : k < L.length := by have := (List.getElem?_eq_some_iff.1 hx).1; rwa [gBlks_len] at this
      rw [gBlks_at c L hk] at hx
      cases hx
      refine ⟨(h.b.lo _ (List.getElem_mem hk)).2.1, Nat.le_trans (nxl_len _ _) (succI_len _ _), h.next hk, nxl_nodup _ _⟩
    · have hk : 0 < L.length := by have := (List.getElem?_eq_some_iff.1 hx).1; rwa [gBlks_len] at this
      rw [gBlks_at c L hk] at hx
      cases hx
      have := (h.b.lo _ (List.getElem_mem hk)).1
      have := h.st0
      simp only
      omega
    · have hk : k + 1 < L.length := by have := (List.getElem?_eq_some_iff.1 hy).1; rwa [gBlks_len] at this
      rw [gBlks_at c L (by omega)] at hx
      rw [gBlks_at c L hk] at hy
      cases hx
      cases hy
      exact List.pairwise_iff_getElem.1 h.b.ordd k (k + 1) (by omega) hk (by omega)
end

end Go.Proofs.YtfceodpdipniaaaDoor
