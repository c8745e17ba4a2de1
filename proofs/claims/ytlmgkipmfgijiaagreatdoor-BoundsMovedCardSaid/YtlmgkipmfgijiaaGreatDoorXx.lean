/-
  What is proved here: parts gShift.
-/
import Derived.Test.YtlmgkipmfgijiaaGreatDoorXa
import Derived.Test.YtlmgkipmfgijiaaGreatDoorXd
namespace Go.Proofs.YtlmgkipmfgijiaaGreatDoor
set_option linter.unusedVariables false
set_option linter.unusedSimpArgs false
set_option maxRecDepth 100000
set_option maxHeartbeats 8000000
section
open Go.RowKit
def BL (k : Int) (p : Int × Int) : Int × Int := (p.1 + k, p.2 + k)
def qy (k : Int) (x : aU) : aU := ⟨x.lo + k, x.hi + k, x.nx⟩
theorem lM (i : Ins) (a k : Int) : bL i (a + k) = (bL i a).map (· + k) := by
 unfold bL
 split
 ·rfl
 ·split
  ·simp; omega
  ·split
   ·simp; omega
   ·simp; omega
theorem uH (i : Ins) (a k : Int) : dw i (a + k) = (dw i a).map (· + k) := by
 unfold dw
 split
 ·exact lM i a k
 ·split
  ·rfl
  ·split
   ·simp; omega
   ·rfl
theorem jz {L : List Int} {x k : Int} : x + k ∈ L.map (· + k) ↔ x ∈ L := by
 constructor
 ·intro h
  obtain ⟨y, hy, e⟩ := List.mem_map.1 h
  have e' : y + k = x + k := e
  obtain rfl : y = x := by omega
  exact hy
 ·exact fun h => List.mem_map.2 ⟨x, h, rfl⟩
section
variable {c c' : Int → Ins} {st en k : Int}
theorem Oh (hlt : st < en) (hc : ∀ a, st ≤ a → a < en → c' (a + k) = c a) {a : Int} (h : nL c st en a) : nL c' (st + k) (en + k) (a + k) := by
 induction h with
 | start => exact .start
 | @step a t h1 h2 h3 h4 ih =>
  have hr := h1.range _ _ _ hlt
  exact .step ih (by rw [hc a hr.1 hr.2, lM]; exact jz.2 h2) ahU ahU
theorem wL (hc : ∀ a, st ≤ a → a < en → c' (a + k) = c a) {a : Int} (h1 : st ≤ a) (h2 : a < en) : nN c' (st + k) (en + k) (a + k) ↔ nN c st en a := by
 unfold nN
 rw [hc a h1 h2, lM]
 constructor
 ·rintro ⟨t, ht, hn⟩
  obtain ⟨y, hy, e⟩ := List.mem_map.1 ht
  have e' : y + k = t := e
  exact ⟨y, hy, fun h => hn ⟨by omega, by omega⟩⟩
 ·rintro ⟨t, ht, hn⟩
  exact ⟨t + k, jz.2 ht, fun h => hn ⟨by omega, by omega⟩⟩
theorem fQ.sh (h0 : 0 ≤ st) (hlt : st < en) (hc : ∀ a, st ≤ a → a < en → c' (a + k) = c a) {D : List Int} {bad : Int} (h : fQ c st en D [] bad) : fQ c' (st + k) (en + k) (D.map (· + k)) [] (if bad = -1 then -1 else bad + k) := by
 have hr : ∀ y ∈ D, st ≤ y ∧ y < en := fun y hy => (h.dr y hy).range _ _ _ hlt
 have hmem : ∀ a ∈ D.map (· + k), ∃ y ∈ D, a = y + k := fun a ha => by
  obtain ⟨y, hy, e⟩ := List.mem_map.1 ha
  exact ⟨y, hy, e.symm⟩
 refine ⟨List.pairwise_map.2 (h.nd.imp fun hab e => hab ahU), fun a ha => ?_, by simp, fun a ha t ht h1 h2 => ?_, ?_, ?_⟩
 ·obtain ⟨y, hy, rfl⟩ := hmem a ha
  exact Oh hlt hc (h.dr y hy)
 ·obtain ⟨y, hy, rfl⟩ := hmem a ha
  rw [hc y (hr y hy).1 (hr y hy).2, lM] at ht
  obtain ⟨z, hz, e⟩ := List.mem_map.1 ht
  have e' : z + k = t := e
  subst e'
  rcases h.cl y hy z hz ahU ahU with h3 | h3
  ·exact .inl (jz.2 h3)
  ·cases h3
 ·rcases h.s with h3 | h3
  ·exact .inl (jz.2 h3)
  ·cases h3
 ·rcases h.b with ⟨e, h1⟩ | ⟨e, h1, h2⟩
  ·refine .inl ⟨if_pos e, fun a ha => ?_⟩
   obtain ⟨y, hy, rfl⟩ := hmem a ha
   rw [wL hc (hr y hy).1 (hr y hy).2]
   exact h1 y hy
  ·have hb := hr _ e
   rw [if_neg ahU]
   refine .inr ⟨jz.2 e, (wL hc hb.1 hb.2).2 h1, fun a ha hb' => ?_⟩
   obtain ⟨y, hy, rfl⟩ := hmem a ha
   have := h2 y hy ((wL hc (hr y hy).1 (hr y hy).2).1 hb')
   omega
theorem OC (hc : ∀ a, st ≤ a → a < en → c' (a + k) = c a) {D : List Int} (hD : ∀ a ∈ D, st ≤ a ∧ a < en) (x : Int) : nB c' (st + k) (D.map (· + k)) (x + k) = nB c st D x := by
 rw [Bool.eq_iff_iff, gF, gF]
 unfold tE
 constructor
 ·rintro (h | ⟨a, ha, hx⟩)
  ·exact .inl ahU
  ·obtain ⟨y, hy, e⟩ := List.mem_map.1 ha
   have e' : y + k = a := e
   subst e'
   rw [hc y (hD y hy).1 (hD y hy).2, uH] at hx
   exact .inr ⟨y, hy, jz.1 hx⟩
 ·rintro (rfl | ⟨a, ha, hx⟩)
  ·exact .inl rfl
  ·exact .inr ⟨a + k, jz.2 ha, by rw [hc a (hD a ha).1 (hD a ha).2, uH]; exact jz.2 hx⟩
theorem Gf (L : List (Int × Int)) (t : Int) : iQ (L.map (BL k)) (t + k) = (iQ L t).map (BL k) := by
 rcases ni L with rfl | ⟨M, p, rfl⟩
 ·rfl
 ·obtain ⟨a, b⟩ := p
  rw [fN, List.map_append, List.map_append]
  show iQ (M.map (BL k) ++ [(a + k, b + k)]) (t + k) = _
  rw [fN]
  rfl
theorem Ji (hc : ∀ a, st ≤ a → a < en → c' (a + k) = c a) {D : List Int} (hD : ∀ a ∈ D, st ≤ a ∧ a < en) : ∀ m, blk c' (st + k) (D.map (· + k)) m = (blk c st D m).map (BL k)
 | 0 => rfl
 | m + 1 => by
  have ih := Ji hc hD m
  unfold blk
  rw [show st + k + (m : Int) = st + m + k by omega, ih, OC hc hD, show st + (m : Int) + k + 1 = st + m + 1 + k by omega, Gf]
  by_cases hm : st + (m : Int) ∈ D
  ·rw [if_pos hm, if_pos (jz.2 hm)]
   split
   ·rw [List.map_append]; rfl
   ·rfl
  ·rw [if_neg hm, if_neg (fun h => hm (jz.1 h))]
theorem OM (L : List (Int × Int)) (s : Int) : idx (L.map (BL k)) (s + k) = idx L s := by
 unfold idx
 rw [List.findIdx?_map]
 congr 2
 funext p
 show ((p.1 + k) == (s + k)) = (p.1 == s)
 rw [Bool.eq_iff_iff, beq_iff_eq, beq_iff_eq]
 omega
theorem Ox (L : List (Int × Int)) (S : List Int) : rQ (L.map (BL k)) (S.map (· + k)) = rQ L S := by
 unfold rQ
 rw [List.foldl_map]
 congr 1
 funext l s
 rw [OM]
theorem uE {L : List (Int × Int)} {i : Nat} (hi : i < L.length) (hc : c' (gy L i + k) = c (gy L i)) : dD c' (L.map (BL k)) i = dD c L i := by
 have e : gy (L.map (BL k)) i = gy L i + k := by
  unfold gy
  rw [show (L.map (BL k)).getD i (0, 0) = BL k L[i] by simp [List.getD, hi], show L.getD i (0, 0) = L[i] by simp [List.getD, hi]]
  show L[i].2 + k - 1 = L[i].2 - 1 + k
  omega
 unfold dD
 rw [e, hc, lM, Ox]
theorem Ig {L : List (Int × Int)} (h : ∀ p ∈ L, c' (p.2 - 1 + k) = c (p.2 - 1)) : cU c' (L.map (BL k)) = (cU c L).map (qy k) := by
 unfold cU
 rw [List.length_map, List.map_map]
 refine List.map_congr_left fun i hi => ?_
 have hi := List.mem_range.1 hi
 have e : L.getD i (0, 0) = L[i] := by simp [List.getD, hi]
 rw [uE hi (by unfold gy; rw [e]; exact h _ (List.getElem_mem hi)), show (L.map (BL k)).getD i (0, 0) = BL k L[i] by simp [List.getD, hi]]
 show _ = qy k ⟨(L.getD i (0, 0)).1, (L.getD i (0, 0)).2, dD c L i⟩
 rw [e]
 rfl
theorem Ic {L : List (Int × Int)} (h : ∀ p ∈ L, c' (p.2 - 1 + k) = c (p.2 - 1)) : gi c' (L.map (BL k)) = gi c L := by
 unfold gi
 rw [List.length_map]
 refine List.map_congr_left fun p hp => ?_
 unfold jY
 congr 1
 refine List.filter_congr fun b hb => ?_
 have hb := List.mem_range.1 hb
 have e : L.getD b (0, 0) = L[b] := by simp [List.getD, hb]
 rw [uE hb (by unfold gy; rw [e]; exact h _ (List.getElem_mem hb))]
theorem Out.sh (h0 : 0 ≤ st) (hlt : st < en) (hk : 0 ≤ st + k) (hc : ∀ a, st ≤ a → a < en → c' (a + k) = c a) {r : Wd} (h : Out c st en r) : Out c' (st + k) (en + k) ⟨r.G.map (qy k), r.P, if r.at_ = -1 then -1 else r.at_ + k, r.er⟩ := by
 cases h with
 | bad D b hb hR =>
  have hb2 : 0 ≤ b + k := by
   rcases hR.b with ⟨e, _⟩ | ⟨e, _⟩
   ·omega
   ·have := (hR.dr b e).range _ _ _ hlt
    omega
  have := hR.sh h0 hlt hc
  rw [if_neg (show ¬ b = -1 by omega)] at this
  simp only [List.map_nil]
  rw [if_neg (show ¬ b = -1 by omega)]
  exact .bad _ _ hb2 this
 | ok D hR =>
  have h1 := hR.sh h0 hlt hc
  rw [if_pos rfl] at h1
  have hr : ∀ y ∈ D, st ≤ y ∧ y < en := fun y hy => (hR.dr y hy).range _ _ _ hlt
  have h2 := Out.ok _ h1
  have hL : ∀ p ∈ blk c st D (en - st).toNat, c' (p.2 - 1 + k) = c (p.2 - 1) := fun p hp => by
   have := hr _ ((mE c st D _).last p hp)
   exact hc _ this.1 this.2
  rw [show en + k - (st + k) = en - st by omega, Ji hc hr, Ig hL, Ic hL] at h2
  exact h2
end
end
end Go.Proofs.YtlmgkipmfgijiaaGreatDoor
