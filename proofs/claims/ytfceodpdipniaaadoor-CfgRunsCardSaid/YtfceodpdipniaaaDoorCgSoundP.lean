/-
  What is proved here: plain facts on the blocks of a graph: they are contiguous, they follow each other, all are reached.
-/
import Derived.Test.YtfceodpdipniaaaDoorCgGraphP
import Derived.Test.YtfceodpdipniaaaDoorCgReached
namespace Go.Proofs.YtfceodpdipniaaaDoor
open Go.RowKit
set_option linter.unusedVariables false
set_option linter.unusedSimpArgs false

section
variable {c : Int → Ins} {st en : Int} {D : List Int} {L : List (Int × Int)}
/-- An instruction that is no leader: what stands before it. -/
structure Inner (c : Int → Ins) (st : Int) (D : List Int) (x : Int) : Prop where
  ne : x ≠ st
  before : x - 1 ∈ D
  br : isBr (c (x - 1)).op = false
  halt : (c (x - 1)).op ≠ 1
  unlock : (c (x - 1)).op ≠ 29
  lock : (c x).op ≠ 28
theorem GInv.inner (h : GInv c st en D L) {x : Int} (hx : x ∈ D) (hl : ldB c st D x = false) : Inner c st D x := by
  have hnl : ¬ Lead c st D x := fun hh => by rw [(ldB_iff c st D x).2 hh] at hl; cases hl
  have hns : x ≠ st := fun e => hnl (.inl e)
  have key : ∃ a, a ∈ D ∧ x ∈ succI (c a) a := by
    have := (h.mem x).1 hx
    cases this with
    | start => exact absurd rfl hns
    | step h1 h2 h3 h4 => exact ⟨_, (h.mem _).2 h1, h2⟩
  obtain ⟨a, ha, hs⟩ := key
  have hbr : isBr (c a).op = false := by
    rcases hb : isBr (c a).op
    · rfl
    · exact absurd (.inr ⟨a, ha, by unfold marksI; rw [if_pos hb]; exact hs⟩) hnl
  have hsa : (c a).op ≠ 1 ∧ x = a + 1 := by
    unfold succI at hs
    unfold isBr at hbr
    split at hs
    · cases hs
    · rename_i h1
      refine ⟨h1, ?_⟩
      split at hs
      · rename_i h2; simp [h2] at hbr
      · split at hs
        · rename_i h2; rcases h2 with h2 | h2 <;> simp [h2] at hbr
        · simpa using hs
  obtain ⟨h1, rfl⟩ := hsa
  have e : a + 1 - 1 = a := by omega
  refine ⟨hns, by rw [e]; exact ha, by rw [e]; exact hbr, by rw [e]; exact h1, ?_, fun h28 => ?_⟩
  · rw [e]
    intro h29
    exact hnl (.inr ⟨a, ha, by unfold marksI; rw [if_neg (by simp [hbr]), if_neg (by omega), if_pos h29]; simp⟩)
  · refine hnl (.inr ⟨a + 1, hx, ?_⟩)
    have hb2 : isBr (c (a + 1)).op = false := by simp [isBr, h28]
    unfold marksI
    rw [if_neg (by simp [hb2]), if_pos h28]
    simp
theorem blk_inner (hg : ∀ x ∈ D, ldB c st D x = false → x ≠ st ∧ x - 1 ∈ D) : ∀ m : Nat, (∀ p ∈ blk c st D m, ∀ x, p.1 < x → x < p.2 → x ∈ D ∧ ldB c st D x = false) ∧ (0 < m → st + (m : Int) - 1 ∈ D → ∃ M a, blk c st D m = M ++ [(a, st + (m : Int))])
  | 0 => ⟨by simp [blk], fun h => by omega⟩
  | m + 1 => by
    obtain ⟨i1, i2⟩ := blk_inner hg m
    have e0 : st + ((m + 1 : Nat) : Int) - 1 = st + m := by omega
    have e1 : st + ((m + 1 : Nat) : Int) = st + m + 1 := by omega
    rw [e0, e1]
    unfold blk
    by_cases hD : st + (m : Int) ∈ D
    · rw [if_pos hD]
      by_cases hl : ldB c st D (st + m) = true
      · rw [if_pos hl]
        refine ⟨fun p hp x h1 h2 => ?_, fun _ _ => ⟨_, _, rfl⟩⟩
        rcases List.mem_append.1 hp with hp | hp
        · exact i1 p hp x h1 h2
        · simp at hp; subst hp; simp only at h1 h2; omega
      · have hl' : ldB c st D (st + m) = false := by simpa using hl
        rw [if_neg hl]
        obtain ⟨hn, hb⟩ := hg _ hD hl'
        have hm : 0 < m := by
          rcases Nat.eq_zero_or_pos m with e | e
          · subst e; simp at hn
          · exact e
        obtain ⟨M, a, hM⟩ := i2 hm hb
        rw [hM, setTo_snoc]
        refine ⟨fun p hp x h1 h2 => ?_, fun _ _ => ⟨_, _, rfl⟩⟩
        rcases List.mem_append.1 hp with hp | hp
        · exact i1 p (by rw [hM]; simp [hp]) x h1 h2
        · simp at hp; subst hp
          simp only at h1 h2
          by_cases ex : x = st + m
          · rw [ex]; exact ⟨hD, hl'⟩
          · exact i1 (a, st + m) (by rw [hM]; simp) x h1 (by simp only; omega)
    · rw [if_neg hD]
      exact ⟨i1, fun _ h => absurd h hD⟩
theorem succ_plain {a t : Int} (hbr : isBr (c a).op = false) (hs : t ∈ succI (c a) a) : t = a + 1 ∧ (c a).op ≠ 1 := by
  unfold succI at hs
  unfold isBr at hbr
  split at hs
  · cases hs
  · rename_i h1
    refine ⟨?_, h1⟩
    split at hs
    · rename_i h2; simp [h2] at hbr
    · split at hs
      · rename_i h2; rcases h2 with h2 | h2 <;> simp [h2] at hbr
      · simpa using hs
theorem blk_cover (hg : ∀ x ∈ D, ldB c st D x = false → x ≠ st ∧ x - 1 ∈ D) : ∀ m : Nat, ∀ a ∈ D, st ≤ a → a < st + (m : Int) → ∃ p ∈ blk c st D m, p.1 ≤ a ∧ a < p.2
  | 0, a, _, h1, h2 => by omega
  | m + 1, a, ha, h1, h2 => by
    have ih := blk_cover hg m
    unfold blk
    by_cases hD : st + (m : Int) ∈ D
    · rw [if_pos hD]
      by_cases hl : ldB c st D (st + m) = true
      · rw [if_pos hl]
        by_cases e : a = st + m
        · exact ⟨(st + m, st + m + 1), by simp, by simp only; omega, by simp only; omega⟩
        · obtain ⟨p, hp, q⟩ := ih a ha h1 (by omega)
          exact ⟨p, by simp [hp], q⟩
      · have hl' : ldB c st D (st + m) = false := by simpa using hl
        rw [if_neg hl]
        obtain ⟨hn, hb⟩ := hg _ hD hl'
        have hm : 0 < m := by
          rcases Nat.eq_zero_or_pos m with e | e
          · subst e; simp at hn
          · exact e
        obtain ⟨M, a', hM⟩ := (blk_inner hg m).2 hm hb
        have hlo := (blk_inv c st D m).lo (a', st + m) (by rw [hM]; simp)
        rw [hM, setTo_snoc]
        by_cases e : a = st + m
        · exact ⟨(a', st + m + 1), by simp, by simp only at hlo ⊢; omega, by simp only; omega⟩
        · obtain ⟨p, hp, q1, q2⟩ := ih a ha h1 (by omega)
          rw [hM] at hp
          rcases List.mem_append.1 hp with hp | hp
          · exact ⟨p, by simp [hp], q1, q2⟩
          · simp at hp; subst hp
            exact ⟨(a', st + m + 1), by simp, q1, by simp only at q2 ⊢; omega⟩
    · rw [if_neg hD]
      by_cases e : a = st + m
      · rw [e] at ha; exact absurd ha hD
      · exact ih a ha h1 (by omega)
theorem GInv.inn0 (h : GInv c st en D (blk c st D (en - st).toNat)) {p : Int × Int} (hp : p ∈ blk c st D (en - st).toNat) {x : Int} (h1 : p.1 < x) (h2 : x < p.2) : x ∈ D ∧ ldB c st D x = false :=
  (blk_inner (c := c) (st := st) (D := D) (fun x hx hl => ⟨(h.inner hx hl).ne, (h.inner hx hl).before⟩) (en - st).toNat).1 p hp x h1 h2
theorem GInv.cover (h : GInv c st en D (blk c st D (en - st).toNat)) {a : Int} (ha : a ∈ D) : ∃ p ∈ blk c st D (en - st).toNat, p.1 ≤ a ∧ a < p.2 := by
  have hr := h.range ha
  exact blk_cover (c := c) (st := st) (D := D) (fun x hx hl => ⟨(h.inner hx hl).ne, (h.inner hx hl).before⟩) _ a ha hr.1 (by omega)
theorem GInv.inn (h : GInv c st en D (blk c st D (en - st).toNat)) {p : Int × Int} (hp : p ∈ blk c st D (en - st).toNat) {x : Int} (h1 : p.1 < x) (h2 : x < p.2) : x ∈ D ∧ Inner c st D x := by
  obtain ⟨a, b⟩ := (blk_inner (c := c) (st := st) (D := D) (fun x hx hl => ⟨(h.inner hx hl).ne, (h.inner hx hl).before⟩) (en - st).toNat).1 p hp x h1 h2
  exact ⟨a, h.inner a b⟩
/-- The block with a first instruction is unique. -/
theorem GInv.uniq (h : GInv c st en D L) {i j : Nat} (hi : i < L.length) (hj : j < L.length) (e : (L[i]).1 = (L[j]).1) : i = j := by
  rcases Nat.lt_trichotomy i j with hlt | rfl | hlt
  · have := List.pairwise_iff_getElem.1 h.b.ordd i j hi hj hlt
    have := (h.b.lo _ (List.getElem_mem hi)).2.1
    omega
  · rfl
  · have := List.pairwise_iff_getElem.1 h.b.ordd j i hj hi hlt
    have := (h.b.lo _ (List.getElem_mem hj)).2.1
    omega
theorem idx_of (h : GInv c st en D L) {i : Nat} (hi : i < L.length) : idx L (L[i]).1 = i := by
  obtain ⟨_, h2, h3⟩ := nmb_some (L := L) (x := (L[i]).1) ⟨L[i], List.getElem_mem hi, rfl⟩
  have e : L.getD (idx L (L[i]).1) (0, 0) = L[idx L (L[i]).1] := by simp [List.getD, List.getElem?_eq_getElem h2]
  rw [e] at h3
  exact h.uniq h2 hi h3
/-- The first block. -/
theorem GInv.first (h : GInv c st en D L) (hst : st ∈ D) (h0 : 0 < L.length) : (L[0]).1 = st := by
  obtain ⟨q, hq, e⟩ := h.b.num st (Int.le_refl _) (by have := h.lt; omega) hst (ldB_st c st D)
  obtain ⟨j, hj, ej⟩ := List.getElem_of_mem hq
  rcases Nat.eq_zero_or_pos j with e0 | e0
  · subst e0; rw [ej]; exact e
  · have := List.pairwise_iff_getElem.1 h.b.ordd 0 j h0 hj e0
    have := (h.b.lo _ (List.getElem_mem h0))
    rw [ej] at *
    omega
/-- A block that does not end with a branch or a halt is followed by the block that begins behind it. -/
theorem GInv.falls (h : GInv c st en D L) {i : Nat} (hi : i < L.length) (hbr : isBr (c ((L[i]).2 - 1)).op = false) (hh : (c ((L[i]).2 - 1)).op ≠ 1) : nextOf c L i = [((i + 1 : Nat) : Int)] ∧ ∃ h' : i + 1 < L.length, (L[i + 1]).1 = (L[i]).2 := by
  have hs : succI (c ((L[i]).2 - 1)) ((L[i]).2 - 1) = [(L[i]).2] := by
    unfold succI
    rw [if_neg hh, if_neg (fun e => by simp [isBr, e] at hbr), if_neg (fun e => by rcases e with e | e <;> simp [isBr, e] at hbr)]
    simp
  obtain ⟨_, q, hq, e⟩ := h.succ (List.getElem_mem hi) (s := (L[i]).2) (by rw [hs]; simp)
  obtain ⟨j, hj, ej⟩ := List.getElem_of_mem hq
  have hej : (L[j]).1 = (L[i]).2 := by rw [ej]; exact e
  have hij : j = i + 1 := by
    have li := h.b.lo _ (List.getElem_mem hi)
    rcases Nat.lt_trichotomy j i with hlt | rfl | hlt
    · have := List.pairwise_iff_getElem.1 h.b.ordd j i hj hi hlt
      have := h.b.lo _ (List.getElem_mem hj)
      omega
    · omega
    · rcases Nat.eq_or_lt_of_le hlt with e1 | e1
      · exact e1.symm
      · have h1 := List.pairwise_iff_getElem.1 h.b.ordd i (i + 1) hi (by omega) (by omega)
        have h2 := List.pairwise_iff_getElem.1 h.b.ordd (i + 1) j (by omega) hj (by omega)
        have h3 := h.b.lo _ (List.getElem_mem (show i + 1 < L.length by omega))
        omega
  subst hij
  refine ⟨?_, hj, hej⟩
  unfold nextOf lastI
  have e1 : L.getD i (0, 0) = L[i] := by simp [List.getD, List.getElem?_eq_getElem hi]
  rw [e1, hs]
  unfold nxl
  simp only [List.foldl_cons, List.foldl_nil]
  rw [← hej, idx_of h hj]
  simp [addN]
theorem GInv.halts {i : Nat} (hi : i < L.length) (hh : (c ((L[i]).2 - 1)).op = 1) : nextOf c L i = [] := by
  unfold nextOf lastI
  have e1 : L.getD i (0, 0) = L[i] := by simp [List.getD, List.getElem?_eq_getElem hi]
  rw [e1]
  unfold succI
  rw [if_pos hh]
  rfl
end

/-- All blocks are reached. -/
theorem GInv.reached {c : Int → Ins} {st en : Int} {D : List Int} {L : List (Int × Int)} (hL : blk c st D (en - st).toNat = L) (h : GInv c st en D L) (hst : st ∈ D) : ∀ i, i < (gBlks c L).length → GR (gBlks c L) i := by
  have h' : GInv c st en D (blk c st D (en - st).toNat) := by rw [hL]; exact h
  have hn0 : 0 < L.length := List.length_pos_iff.2 (h.b.ne hst (by have := h.lt; omega))
  have key : ∀ a, Rch c st en a → ∀ i (hi : i < L.length), (L[i]).1 ≤ a → a < (L[i]).2 → GR (gBlks c L) i := by
    intro a ha
    induction ha with
    | start =>
      intro i hi h1 h2
      have l0 := h.first hst hn0
      have li := h.b.lo _ (List.getElem_mem hi)
      have : i = 0 := h.uniq hi hn0 (by omega)
      subst this
      exact GR.start
    | @step a t h1 h2 h3 h4 ih =>
      intro i hi hl hu
      have haD := (h.mem a).2 h1
      by_cases hfirst : t = (L[i]).1
      · -- the block of a
        obtain ⟨k, hk, hka, hkb⟩ : ∃ (k : Nat) (hk : k < L.length), (L[k]).1 ≤ a ∧ a < (L[k]).2 := by
          obtain ⟨p, hp, q1, q2⟩ := h'.cover haD
          rw [hL] at hp
          obtain ⟨k, hk, ek⟩ := List.getElem_of_mem hp
          exact ⟨k, hk, by rw [ek]; exact q1, by rw [ek]; exact q2⟩
        have hg := ih k hk hka hkb
        by_cases hlast : a = (L[k]).2 - 1
        · refine GR.step hg (gBlks_at c L hk) ?_
          simp only
          unfold nextOf
          rw [mem_nxl]
          refine ⟨t, ?_, by rw [hfirst, idx_of h hi]⟩
          unfold lastI
          have e1 : L.getD k (0, 0) = L[k] := by simp [List.getD, List.getElem?_eq_getElem hk]
          rw [e1, ← hlast]
          exact h2
        · exfalso
          have hin := h'.inn (p := L[k]) (by rw [hL]; exact List.getElem_mem hk) (x := a + 1) (by omega) (by omega)
          have hb := hin.2.br
          rw [show a + 1 - 1 = a by omega] at hb
          have ht := (succ_plain hb h2).1
          rcases Nat.lt_trichotomy i k with hlt | rfl | hlt
          · have := List.pairwise_iff_getElem.1 h.b.ordd i k hi hk hlt
            have := (h.b.lo _ (List.getElem_mem hi)).2.1
            omega
          · omega
          · have := List.pairwise_iff_getElem.1 h.b.ordd k i hk hi hlt
            omega
      · obtain ⟨hin1, hin2⟩ := h'.inn0 (p := L[i]) (by rw [hL]; exact List.getElem_mem hi) (x := t) (by omega) hu
        have hbr : isBr (c a).op = false := by
          rcases hb : isBr (c a).op
          · rfl
          · have : ldB c st D t = true := (ldB_iff c st D t).2 (.inr ⟨a, haD, by unfold marksI; rw [if_pos hb]; exact h2⟩)
            rw [this] at hin2; cases hin2
        have ht := (succ_plain hbr h2).1
        exact ih i hi (by omega) (by omega)
  intro i hi
  rw [gBlks_len] at hi
  have hld := h.b.lead _ (List.getElem_mem hi)
  have hlo := h.b.lo _ (List.getElem_mem hi)
  exact key _ ((h.mem _).1 hld.1) i hi (Int.le_refl _) hlo.2.1

end Go.Proofs.YtfceodpdipniaaaDoor
