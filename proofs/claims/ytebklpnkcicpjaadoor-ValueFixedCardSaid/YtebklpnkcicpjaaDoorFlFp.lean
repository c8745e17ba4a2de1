/-
 What is proved here: what ValueFixed asks of the result of an analysis, in plain mathematics.
-/
import Derived.Test.YtebklpnkcicpjaaDoorFlCm
namespace Go.Proofs.YtebklpnkcicpjaaDoor
open Go.RowKit
set_option linter.unusedVariables false
set_option linter.unusedSimpArgs false

theorem sub_trans {x y z : Int × Int} (h : Sub x y) (k : Sub y z) : Sub x z := by unfold Sub at *; omega
theorem absOf_get {cd : Nat → Int} {G : List Blk} {b : Nat} {x : Blk} (h : G[b]? = some x) : (absOf cd G).getD b ⟨[], []⟩ = ⟨codeFrom cd x.lo (x.hi - x.lo).toNat, x.nx⟩ := by
 unfold absOf
 simp [List.getD, h]
theorem abs_last {n : Nat} {cd : Nat → Int} {G : List Blk} {x : Blk} (h : GOk n cd G x) : AB.last ⟨codeFrom cd x.lo (x.hi - x.lo).toNat, x.nx⟩ = insAt cd (x.hi - 1) := by
 have h1 := h.lt
 unfold AB.last
 simp only [codeFrom_len]
 unfold codeFrom
 have e : (x.hi - x.lo).toNat - 1 < (x.hi - x.lo).toNat := by omega
 simp only [List.getD, List.getElem?_map, List.getElem?_range e, Option.map_some, Option.getD_some]
 congr 1
 omega
theorem mem_deadK {B : List AB} {s : AS} {n b : Nat} {p : Int × Int} (hb : b < n) (hr : s.reach.getD b false = true) (h : p ∈ deadB (B.getD b ⟨[], []⟩) b (B.getD b ⟨[], []⟩).nx.length (s.inn.getD b [])) : p ∈ deadK B s n := by
 unfold deadK
 rw [List.mem_flatMap]
 exact ⟨b, List.mem_range.2 hb, by rw [if_pos hr]; exact h⟩
theorem okL_hi {n : Nat} : ∀ {l : List Blk} {a z : Int}, okL n a l z → (∀ y ∈ l, y.hi ≤ z) ∧ a ≤ z
 | [], a, z, h => ⟨fun y hy => by (cases hy), by cases h; exact Int.le_refl _⟩
 | x :: xs, a, z, h => by
  obtain ⟨h1, h2⟩ := okL_hi h.2
  have h3 := h.1.lo
  have h4 := h.1.hi
  refine ⟨fun y hy => ?_, by omega⟩
  rcases List.mem_cons.1 hy with rfl | hy
  ·exact h2
  ·exact h1 y hy
theorem findB_val {n : Nat} {G : List Blk} {z : Int} (hv : okL n 0 G z) {b : Nat} {x : Blk} (hx : G[b]? = some x) {pc : Int} (h1 : x.lo ≤ pc) (h2 : pc < x.hi) : findB G pc = some b := by
 obtain ⟨hb, e⟩ := List.getElem?_eq_some_iff.1 hx
 refine findB_some hx ⟨h1, h2⟩ fun y hy hin => ?_
 have hs : G.take b ++ (x :: G.drop (b + 1)) = G := by rw [← e, ← List.drop_eq_getElem_cons hb]; exact List.take_append_drop b G
 rw [← hs] at hv
 obtain ⟨m, h3, h4⟩ := okL.append.1 hv
 have h5 := (okL_hi h3).1 y hy
 have h6 := h4.1.lo
 have h7 : y.lo ≤ pc ∧ pc < y.hi := hin
 omega
theorem fixed_edge {n : Nat} {cd : Nat → Int} {G : List Blk} {s : AS} (hE : Ends (absOf cd G) (startS G.length) s) (FX : Fx G.length s) (hok : ∀ x ∈ G, GOk n cd G x) {b : Nat} {x : Blk} (hx : G[b]? = some x) (hr : s.reach.getD b false = true) {k : Nat} (hk : k < x.nx.length)
  (hd : ((b : Int), x.nx.getD k 0) ∉ deadK (absOf cd G) s G.length) :
  ∃ aft, runR (codeFrom cd x.lo (x.hi - x.lo).toNat) (s.inn.getD b []) = some aft ∧ R16 aft ∧ s.reach.getD (x.nx.getD k 0).toNat false = true ∧ (x.nx.getD k 0).toNat < G.length ∧
   (¬ ((insAt cd (x.hi - 1)).op = 22 ∨ (insAt cd (x.hi - 1)).op = 23) → SubR aft (s.inn.getD (x.nx.getD k 0).toNat [])) ∧
   (((insAt cd (x.hi - 1)).op = 22 ∨ (insAt cd (x.hi - 1)).op = 23) → ∀ tk a, (x.nx.length = 2 → tk = decide (k = 1)) → refR (insAt cd (x.hi - 1)) aft tk = some a → SubR a (s.inn.getD (x.nx.getD k 0).toNat [])) := by
 have hbl := (List.getElem?_eq_some_iff.1 hx).1
 have ho := hok x (List.mem_of_getElem? hx)
 have hb2 : b < (absOf cd G).length := by rw [absOf_len]; exact hbl
 have hq := hE.fixed b hb2 hr
 have hab := absOf_get (cd := cd) hx
 rw [hab] at hq
 have hnk : x.nx.getD k 0 ∈ x.nx := by
  rw [show x.nx.getD k 0 = x.nx[k] by simp [List.getD, List.getElem?_eq_getElem hk]]
  exact List.getElem_mem hk
 have htn := ho.nx _ hnk
 have htl : (x.nx.getD k 0).toNat < G.length := by omega
 have hnd : ∀ p, p ∈ deadB ⟨codeFrom cd x.lo (x.hi - x.lo).toNat, x.nx⟩ b x.nx.length (s.inn.getD b []) → p ≠ ((b : Int), x.nx.getD k 0) := fun p hp e => hd (by
  subst e
  refine mem_deadK hbl hr ?_
  rw [hab]
  exact hp)
 have h16 := FX.asi.get hbl
 rcases hq with hn | ⟨aft, h1, h2⟩
 ·refine absurd rfl (hnd ((b : Int), x.nx.getD k 0) ?_)
  unfold deadB
  unfold inAt at hn
  simp only at hn ⊢
  rw [hn]
  simp only [List.take_length]
  exact List.mem_map.2 ⟨_, hnk, rfl⟩
 ·unfold inAt at h1
  simp only at h1 h2
  have ha := runR_16 (codeFrom_op ho (m := (x.hi - x.lo).toNat) (by have := ho.lt; omega)) h16 h1
  rcases h2 k hk with h3 | ⟨r, h3, h4, h5⟩
  ·refine absurd rfl (hnd ((b : Int), x.nx.getD k 0) ?_)
   unfold deadB
   simp only
   rw [h1]
   simp only
   refine List.mem_map.2 ⟨k, ?_, rfl⟩
   rw [List.mem_filter]
   exact ⟨List.mem_range.2 hk, by rw [h3]; rfl⟩
  ·have hr16 := edgeR_16 ha h3
   unfold inAt at h5
   have ht16 := FX.asi.get htl
   have hs := sub_of_join ht16 hr16 h5
   rw [abs_last ho] at h3
   refine ⟨aft, h1, ha, h4, htl, fun hno => ?_, fun hbr tk a h2k hra => ?_⟩
   ·unfold edgeR at h3
    rw [if_pos hno] at h3
    cases h3
    exact hs
   ·unfold edgeR at h3
    rw [if_neg (fun h => h hbr)] at h3
    by_cases hm : x.nx.length = 2
    ·rw [if_pos hm] at h3
     rw [← h2k hm, hra] at h3
     cases h3
     exact hs
    ·rw [if_neg hm] at h3
     have ha16 := refR_16 ha hra
     have key : SubR a r := by
      cases hf : refR (insAt cd (x.hi - 1)) aft false with
      | none =>
       rw [hf] at h3
       cases ht : refR (insAt cd (x.hi - 1)) aft true with
       | none => rw [ht] at h3; cases h3
       | some y =>
        rw [ht] at h3
        cases h3
        cases tk with
        | false => rw [hf] at hra; cases hra
        | true => rw [ht] at hra; cases hra; exact fun k => refl_sub _
      | some y =>
       rw [hf] at h3
       cases ht : refR (insAt cd (x.hi - 1)) aft true with
       | none =>
        rw [ht] at h3
        cases h3
        cases tk with
        | false => rw [hf] at hra; cases hra; exact fun k => refl_sub _
        | true => rw [ht] at hra; cases hra
       | some z =>
        rw [ht] at h3
        simp only [Option.some.injEq] at h3
        subst h3
        have y16 := refR_16 ha hf
        have z16 := refR_16 ha ht
        cases tk with
        | false => rw [hf] at hra; cases hra; exact join_sub y16 z16
        | true =>
         rw [ht] at hra; cases hra
         refine SubR.of (fun k hk => ?_) z16 (y16.join z16)
         rw [rg_join y16 z16 hk]
         exact (within_iff _ _).1 (join_right _ _)
     exact fun k => sub_trans (key k) (hs k)

theorem run_last {n : Nat} {cd : Nat → Int} {G : List Blk} {x : Blk} (h : GOk n cd G x) (r : RG) : runR (codeFrom cd x.lo (x.hi - x.lo).toNat) r = match runR (codeFrom cd x.lo (x.hi - 1 - x.lo).toNat) r with
  | none => none
  | some r' => transR (insAt cd (x.hi - 1)) r' := by
 have h1 := h.lt
 rw [show (x.hi - x.lo).toNat = (x.hi - 1 - x.lo).toNat + 1 by omega, codeFrom_succ, runR_append, show x.lo + ((x.hi - 1 - x.lo).toNat : Int) = x.hi - 1 by omega]
 cases runR (codeFrom cd x.lo (x.hi - 1 - x.lo).toNat) r with
 | none => rfl
 | some a =>
  simp only [runR]
  cases transR (insAt cd (x.hi - 1)) a <;> rfl

end Go.Proofs.YtebklpnkcicpjaaDoor


