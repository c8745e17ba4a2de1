/-
  What is proved here: what serves the walk of the reference's Build: leaders, blocks, and the row of blocks in memory.
-/
import Derived.Test.YtfceodpdipniaaaDoorCgR24c
import Derived.Test.YtfceodpdipniaaaDoorCgSoundP
namespace Go.Proofs.YtfceodpdipniaaaDoor
open Go.RowKit
set_option linter.unusedVariables false
set_option linter.unusedSimpArgs false

theorem succ_not_halt {i : Ins} {a x : Int} (h : x ∈ succI i a) : i.op ≠ 1 := by
  intro e
  unfold succI at h
  rw [if_pos e] at h
  cases h
theorem succ_29 {i : Ins} {a : Int} (h : i.op = 29) : succI i a = [a + 1] := by
  unfold succI
  rw [if_neg (by omega), if_neg (by omega), if_neg (by omega)]
theorem leadR_iff {C : Int → Ins} {st en : Nat} {D : List Int} {sn : Nat → Bool} (hD : ∀ a, a ∈ D ↔ Rch C st en a) (hlt : st < en) (hsn : ∀ i : Nat, st ≤ i → i < en → (sn i = true ↔ Rch C st en (i : Int))) {x : Nat} (hx : (x : Int) ∈ D) : LeadR C sn st en x ↔ ldB C st D (x : Int) = true := by
  rw [ldB_iff]
  unfold LeadR Lead
  constructor
  · rintro (h | h | ⟨k, h1, h2, h3, h4, h5⟩)
    · exact .inl (by omega)
    · refine .inr ⟨(x : Int), hx, ?_⟩
      have hb2 : isBr (C (x : Int)).op = false := by simp [isBr, h]
      unfold marksI
      rw [if_neg (by simp [hb2]), if_pos h]
      simp
    · refine .inr ⟨(k : Int), (hD _).2 ((hsn k h1 h2).1 h3), ?_⟩
      rcases h5 with h5 | h5
      · have h1 := succ_not_halt h4
        have hb : isBr (C (k : Int)).op = true := by
          unfold endB at h5
          unfold isBr
          simp only [Bool.or_eq_true, decide_eq_true_eq] at h5 ⊢
          rcases h5 with ((h5 | h5) | h5) | h5
          · exact absurd h5 h1
          · exact .inr h5
          · exact .inl (.inl h5)
          · exact .inl (.inr h5)
        unfold marksI
        rw [if_pos hb]
        exact h4
      · have hb2 : isBr (C (k : Int)).op = false := by simp [isBr, h5]
        rw [succ_29 h5] at h4
        unfold marksI
        rw [if_neg (by simp [hb2]), if_neg (by omega), if_pos h5]
        exact h4
  · rintro (h | ⟨a, ha, hm⟩)
    · exact .inl (by omega)
    · have hr := ((hD a).1 ha).range _ _ _ (by omega)
      obtain ⟨k, rfl⟩ : ∃ k : Nat, a = (k : Int) := ⟨a.toNat, by omega⟩
      have hk : sn k = true := (hsn k (by omega) (by omega)).2 ((hD _).1 ha)
      unfold marksI at hm
      split at hm
      · rename_i hb
        refine .inr (.inr ⟨k, by omega, by omega, hk, hm, .inl ?_⟩)
        unfold isBr at hb
        unfold endB
        simp only [Bool.or_eq_true, decide_eq_true_eq] at hb ⊢
        rcases hb with (hb | hb) | hb
        · exact .inl (.inr hb)
        · exact .inr hb
        · exact .inl (.inl (.inr hb))
      · split at hm
        · rename_i h28
          have : (x : Int) = (k : Int) := by simpa using hm
          exact .inr (.inl (by rw [this]; exact h28))
        · split at hm
          · rename_i h29
            exact .inr (.inr ⟨k, by omega, by omega, hk, by rw [succ_29 h29]; exact hm, .inr h29⟩)
          · cases hm

/-- The blocks, with lists of their own. -/
def pBlks (L : List (Int × Int)) (lst : Nat → List Int) : List Blk := (List.range L.length).map fun k => ⟨(L.getD k (0, 0)).1, (L.getD k (0, 0)).2, lst k⟩
theorem pBlks_len (L : List (Int × Int)) (lst : Nat → List Int) : (pBlks L lst).length = L.length := by simp [pBlks]
theorem pBlks_at (L : List (Int × Int)) (lst : Nat → List Int) {k : Nat} (hk : k < L.length) : (pBlks L lst)[k]? = some ⟨(L[k]).1, (L[k]).2, lst k⟩ := by
  unfold pBlks
  rw [List.getElem?_map, List.getElem?_range hk]
  simp [List.getD, List.getElem?_eq_getElem hk]
theorem pBlks_find {L : List (Int × Int)} (lst : Nat → List Int) {s : Int} (ho : L.Pairwise (fun p q => p.2 ≤ q.1)) (hl : ∀ p ∈ L, p.1 < p.2) (h : ∃ p ∈ L, p.1 = s) : findI (pBlks L lst) s = (idx L s : Int) := by
  obtain ⟨_, h2, h3⟩ := nmb_some h
  have e1 : L.getD (idx L s) (0, 0) = L[idx L s] := by simp [List.getD, List.getElem?_eq_getElem h2]
  rw [e1] at h3
  have hf : findB (pBlks L lst) s = some (idx L s) := by
    refine findB_some (pBlks_at L lst h2) ?_ (fun y hy => ?_)
    · have := hl _ (List.getElem_mem h2)
      exact ⟨by show (L[idx L s]).1 ≤ s; omega, by show s < (L[idx L s]).2; omega⟩
    · rw [List.mem_iff_getElem?] at hy
      obtain ⟨j, hj⟩ := hy
      rw [List.getElem?_take] at hj
      split at hj
      · rename_i hlt
        rw [pBlks_at L lst (by omega)] at hj
        cases hj
        have := List.pairwise_iff_getElem.1 ho j (idx L s) (by omega) h2 hlt
        rintro ⟨_, h5⟩
        have h5' : s < (L[j]).2 := h5
        omega
      · cases hj
  unfold findI
  rw [hf]

theorem infoB4 : (Tryd.prog.info? 105).map (fun i => (i.zero, i.size, i.bytes)) = some (some (.agg #[.int .i64 0, .int .i64 0, .slice none 0 0]), 3, 40) := by kernel_rfl
/-- The row of blocks with lists that grow. -/
structure QM (V wr : World) (g gcap : Nat) (L : List (Int × Int)) (val : Nat → Value) (lst : Nat → List Int) : Prop where
  bel : Below V.heap.size V wr
  brow : wr.ownsRow V.heap.size 105 3 (.slice (some ⟨g, 0, none⟩) L.length gcap) L.length (flatV L val)
  own : ∀ i, i < L.length → wr.ownsRow V.heap.size 3 1 (val i) (lst i).length (ivs (lst i))
  dis : ∀ i j, i < L.length → j < L.length → i ≠ j → ∀ q, (val i).ownBlock = some q → (val j).ownBlock ≠ some q
section
variable {V wr : World} {g gcap : Nat} {L : List (Int × Int)} {val : Nat → Value} {lst : Nat → List Int}
theorem QM.below {wr' : World} (h : QM V wr g gcap L val lst) (hb : Below wr.heap.size wr wr') : QM V wr' g gcap L val lst :=
  ⟨h.bel.trans (hb.mono h.bel.size), ownsRow_below h.brow hb, fun i hi => ownsRow_below (h.own i hi) hb, h.dis⟩
theorem QM.rg (h : QM V wr g gcap L val lst) : V.heap.size ≤ g ∧ g < wr.heap.size := h.brow.lt g rfl
theorem QM.cells (h : QM V wr g gcap L val lst) {i : Nat} (hi : i < L.length) : wr.cell? ⟨g, i * 3, none⟩ = some (.int .i64 (L[i]).1) ∧ wr.cell? ⟨g, i * 3 + 1, none⟩ = some (.int .i64 (L[i]).2) ∧ wr.cell? ⟨g, i * 3 + 2, none⟩ = some (val i) ∧ wr.frozen? ⟨g, i * 3 + 2, none⟩ = false := by
  have e : L.getD i (0, 0) = L[i] := by simp [List.getD, List.getElem?_eq_getElem hi]
  refine ⟨?_, ?_, ?_, h.brow.frozenAt _⟩
  · rw [h.brow.cellAt _ (by omega), show i * 3 = i * 3 + 0 by omega, flatV_at L val hi (by omega), e]; rfl
  · rw [h.brow.cellAt _ (by omega), flatV_at L val hi (by omega), e]; rfl
  · rw [h.brow.cellAt _ (by omega), flatV_at L val hi (by omega)]; rfl
theorem QM.app {w2 W' : World} {i : Nat} {y : Int} {v' : Value} (h : QM V wr g gcap L val lst) (hi : i < L.length) (hb : Below wr.heap.size wr w2) (hg : w2.grownBy W' (val i).ownBlock)
    (hown : W'.ownsRow V.heap.size 3 1 v' ((lst i).length + 1) (ivs (lst i ++ [y]))) (hob : v'.ownBlock = (val i).ownBlock ∨ v'.ownBlock = some w2.heap.size) :
    QM V (W'.setCell ⟨g, i * 3 + 2, none⟩ v') g gcap L (upd val i v') (upd lst i (lst i ++ [y])) := by
  have G := grown_of hb hg
  have S := grown_setCell W' g (i * 3 + 2) v'
  obtain ⟨p1, p2⟩ := h.rg
  have hgs := G.size
  have hbs := h.bel.size
  have oi := h.own i hi
  have ob : ∀ q, (val i).ownBlock = some q → V.heap.size ≤ q ∧ q ≠ g := fun q hq => ⟨(oi.lt q hq).1, fun e => own_ne oi h.brow (by decide) q hq (by rw [e]; rfl)⟩
  have p' : W'.ownsRow V.heap.size 105 3 (.slice (some ⟨g, 0, none⟩) L.length gcap) L.length (flatV L val) := h.brow.kept G (.inr (fun e' => (ob g e'.symm).2 rfl))
  have own' : ∀ q, v'.ownBlock = some q → q ≠ g := fun q hq e => own_ne hown p' (by decide) q hq (by rw [e]; rfl)
  refine ⟨?_, ?_, fun j hj => ?_, fun a c ha hc hac q hq => ?_⟩
  · exact ((h.bel.grown G hbs (fun k hk => (ob k hk).1)).grown S (by omega) (fun k hk => by cases hk; exact p1))
  · rw [← flatV_set L val hi v']
    exact (p'.stored (i * 3 + 2) v').1
  · unfold upd
    by_cases e : j = i
    · subst e
      rw [if_pos rfl, if_pos rfl]
      rw [show (lst j ++ [y]).length = (lst j).length + 1 by simp]
      exact hown.kept S (by
        cases hv : v'.ownBlock with
        | none => exact .inl rfl
        | some q => exact .inr (fun e' => own' q hv (by simpa using e')))
    · rw [if_neg e, if_neg e]
      refine ((h.own j hj).kept G ?_).kept S ?_
      · cases hv : (val j).ownBlock with
        | none => exact .inl rfl
        | some q => exact .inr (fun e' => h.dis i j hi hj (fun e2 => e e2.symm) q e'.symm hv)
      · cases hv : (val j).ownBlock with
        | none => exact .inl rfl
        | some q =>
          refine .inr (fun e' => ?_)
          have hqr : q = g := by simpa using e'
          exact own_ne (h.own j hj) h.brow (by decide) q hv (by rw [hqr]; rfl)
  · have new : ∀ a, a < L.length → a ≠ i → ∀ q, v'.ownBlock = some q → (val a).ownBlock ≠ some q := fun a ha hai q hq hq2 => by
      rcases hob with h1 | h1
      · rw [h1] at hq
        exact h.dis i a hi ha (fun e => hai e.symm) q hq hq2
      · rw [h1] at hq
        cases hq
        have := ((h.own a ha).lt _ hq2).2
        have := hb.size
        omega
    unfold upd at hq ⊢
    by_cases e1 : a = i
    · rw [if_pos e1] at hq
      rw [if_neg (fun e => hac (e1.trans e.symm))]
      exact new c hc (fun e => hac (e1.trans e.symm)) q hq
    · rw [if_neg e1] at hq
      by_cases e2 : c = i
      · rw [if_pos e2]
        exact fun hq2 => new a ha e1 q hq2 hq
      · rw [if_neg e2]
        exact h.dis a c ha hc hac q hq
theorem QM.blks (h : QM V wr g gcap L val lst) : Blks wr (.slice (some ⟨g, 0, none⟩) L.length gcap) (pBlks L lst) := by
  have bc : L.length ≤ gcap ∧ gcap ≤ maxLen := by
    rcases h.brow.2 with ⟨e, _⟩ | ⟨_, _, _, e, _, _, h1, h2, _⟩
    · cases e
    · cases e; exact ⟨h1, h2⟩
  refine ⟨_, gcap, by rw [pBlks_len], by rw [pBlks_len]; exact bc.1, bc.2, fun _ => ⟨g, 0, rfl, h.rg.2, fun i x hx => ?_⟩⟩
  have hi : i < L.length := by have := (List.getElem?_eq_some_iff.1 hx).1; rwa [pBlks_len] at this
  rw [pBlks_at L lst hi] at hx
  cases hx
  obtain ⟨c0, c1, c2, _⟩ := h.cells hi
  exact ⟨by rw [Nat.zero_add]; exact c0, by rw [Nat.zero_add]; exact c1, val i, by rw [Nat.zero_add]; exact c2, own_ints (h.own i hi)⟩
theorem QM.first (hb : Below V.heap.size V wr) (h : wr.ownsRow V.heap.size 105 3 (.slice (some ⟨g, 0, none⟩) L.length gcap) L.length (flatB L)) : QM V wr g gcap L (fun _ => .slice none 0 0) (fun _ => []) :=
  ⟨hb, by rw [flatV_nil]; exact h, fun i hi => World.ownsRow_nil _ _ _ _, fun i j hi hj _ q hq => by cases hq⟩
end
/-- The lists of successors, up to a block. -/
def nxAt (c : Int → Ins) (L : List (Int × Int)) (k : Nat) (l : List Int) : Nat → List Int := fun i => if i < k then nextOf c L i else if i = k then l else []
theorem nxAt_zero (c : Int → Ins) (L : List (Int × Int)) : nxAt c L 0 [] = fun _ => [] := by
  funext i
  unfold nxAt
  simp
theorem nxAt_self (c : Int → Ins) (L : List (Int × Int)) (k : Nat) (l : List Int) : nxAt c L k l k = l := by unfold nxAt; rw [if_neg (by omega), if_pos rfl]
theorem nxAt_step (c : Int → Ins) (L : List (Int × Int)) (k : Nat) : nxAt c L k (nextOf c L k) = nxAt c L (k + 1) [] := by
  funext i
  unfold nxAt
  by_cases h1 : i < k
  · rw [if_pos h1, if_pos (by omega)]
  · rw [if_neg h1]
    by_cases h2 : i = k
    · rw [if_pos h2, if_pos (by omega), h2]
    · rw [if_neg h2, if_neg (by omega)]
      split <;> rfl
theorem nxAt_upd (c : Int → Ins) (L : List (Int × Int)) (k : Nat) (l l' : List Int) : upd (nxAt c L k l) k l' = nxAt c L k l' := by
  funext i
  unfold upd nxAt
  by_cases h : i = k
  · rw [if_pos h, if_neg (by omega), if_pos h]
  · rw [if_neg h, if_neg h, if_neg h]
theorem pBlks_gBlks (c : Int → Ins) (L : List (Int × Int)) : pBlks L (nxAt c L L.length []) = gBlks c L := by
  unfold pBlks gBlks
  apply List.map_congr_left
  intro k hk
  have := List.mem_range.1 hk
  unfold nxAt
  rw [if_pos this]

end Go.Proofs.YtfceodpdipniaaaDoor
