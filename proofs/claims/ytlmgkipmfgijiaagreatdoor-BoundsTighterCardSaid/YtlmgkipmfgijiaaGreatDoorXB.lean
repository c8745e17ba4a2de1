/-
  What is proved here: parts lTiP.
-/
import Derived.Test.YtlmgkipmfgijiaaGreatDoorXa
import Derived.Test.YtlmgkipmfgijiaaGreatDoorXp
import Derived.Test.YtlmgkipmfgijiaaGreatDoorXc
namespace Go.Proofs.YtlmgkipmfgijiaaGreatDoor
set_option linter.unusedVariables false
set_option linter.unusedSimpArgs false
set_option maxRecDepth 100000
set_option maxHeartbeats 8000000
section
open Go.RowKit
def fF (y : Int) (i : Ins) : Ins := if i.op = 25 ∧ i.aP + y ≤ 131071 then ⟨i.op, i.a, i.b, i.c, i.aP + y⟩ else i
def wI (y x : Int) : Int := if (bk x).2 = 0 ∧ (bk x).1.op = 25 ∧ (bk x).1.aP + y ≤ 131071 then qz (fF y (bk x).1) else x
theorem pJ {y : Int} (hy : 0 ≤ y) {i : Ins} {k : Nat} (h : Good i k) : Good (fF y i) k := by
 unfold fF
 split
 ·rename_i hc
  have h25 : k = 25 := by have := h.op; omega
  subst h25
  have h1 := h.aP
  exact ⟨h.op, h.lt, h.a, h.b, h.c, ⟨by show mS 25 ≤ i.aP + y; omega, by show i.aP + y ≤ mU 25; rw [show mU 25 = 131071 by decide]; exact hc.2⟩⟩
 ·exact h
theorem yV {y x : Int} (hy : 0 ≤ y) (h0 : 0 ≤ x) (h : (bk x).2 = 0) : bk (wI y x) = (fF y (bk x).1, 0) := by
 obtain ⟨k, hg, hn⟩ := iG h0 h
 unfold wI
 split
 ·exact (pJ hy hg).dec
 ·rename_i hc
  have : fF y (bk x).1 = (bk x).1 := by
   unfold fF
   rw [if_neg (fun hh => hc ⟨h, hh⟩)]
  rw [this]
  exact Prod.ext rfl h
theorem yX {y x : Int} (h : ¬ (bk x).2 = 0) : wI y x = x := by
 unfold wI
 rw [if_neg (fun hh => h hh.1)]
theorem yU {y x : Int} (hy : 0 ≤ y) (h0 : 0 ≤ x) : (bk (wI y x)).2 = 0 ↔ (bk x).2 = 0 := by
 by_cases h : (bk x).2 = 0
 ·rw [yV hy h0 h]; simp [h]
 ·rw [yX h]
theorem V9 {y x : Int} (hy : 0 ≤ y) (h0 : 0 ≤ x ∧ x < 4294967296) : 0 ≤ wI y x ∧ wI y x < 4294967296 := by
 by_cases h : (bk x).2 = 0
 ·obtain ⟨k, hg, hn⟩ := iG h0.1 h
  unfold wI
  split
  ·exact (pJ hy hg).Gu
  ·exact h0
 ·rw [yX h]; exact h0
def N7 (y : Int) (n : Nat) (cd ce : Nat → Int) : Prop := ∀ a, a < n → ce a = wI y (cd a)
theorem N7.II {y : Int} (hy : 0 ≤ y) {n : Nat} {cd ce : Nat → Int} (hw : ∀ i, i < n → 0 ≤ cd i ∧ cd i < 4294967296) (h : N7 y n cd ce) (G : List aU) : fD n ce G ↔ fD n cd G := by
 unfold fD CW
 constructor
 ·intro hh x hx a h1 h2
  obtain ⟨h3, h4⟩ := hh x hx a h1 h2
  rw [h a h3] at h4
  exact ⟨h3, (yU hy (hw a h3).1).1 h4⟩
 ·intro hh x hx a h1 h2
  obtain ⟨h3, h4⟩ := hh x hx a h1 h2
  refine ⟨h3, ?_⟩
  rw [h a h3]
  exact (yU hy (hw a h3).1).2 h4
theorem N7.code {y : Int} (hy : 0 ≤ y) {n : Nat} {cd ce : Nat → Int} (hw : ∀ i, i < n → 0 ≤ cd i ∧ cd i < 4294967296) (h : N7 y n cd ce) {G : List aU} (hl : ∀ x ∈ G, 0 ≤ x.lo) (hc : fD n cd G) {k : Nat} (hk : k < G.length) : cz ce G k = (cz cd G k).map (fF y) := by
 unfold cz codeFrom
 rw [List.map_map]
 refine List.map_congr_left fun j hj => ?_
 have hj := List.mem_range.1 hj
 have e : G.getD k ⟨0, 0, []⟩ = G[k] := by simp [List.getD, List.getElem?_eq_getElem hk]
 rw [e] at hj ⊢
 have h0 := hl _ (List.getElem_mem hk)
 obtain ⟨a, ha⟩ : ∃ a : Nat, (G[k]).lo + (j : Int) = (a : Int) := ⟨((G[k]).lo + (j : Int)).toNat, by omega⟩
 have h1 := hc _ (List.getElem_mem hk) a ahU ahU
 show au ce ((G[k]).lo + (j : Int)) = fF y (au cd ((G[k]).lo + (j : Int)))
 rw [ha]
 unfold au
 rw [Int.toNat_natCast, h a h1.1, yV hy (hw a h1.1).1 h1.2]
theorem N7.cds {y : Int} (hy : 0 ≤ y) {n : Nat} {cd ce : Nat → Int} (hw : ∀ i, i < n → 0 ≤ cd i ∧ cd i < 4294967296) (h : N7 y n cd ce) {G : List aU} (hl : ∀ x ∈ G, 0 ≤ x.lo) (hc : fD n cd G) : fV ce G = (fV cd G).map (List.map (fF y)) := by
 unfold fV
 rw [List.map_map]
 exact List.map_congr_left fun k hk => h.code hy hw hl hc (List.mem_range.1 hk)
theorem Mg (y : Int) (i : Ins) : gX (fF y i) = gX i := by
 unfold fF
 split
 ·rename_i hc
  simp [gX, hc.1]
 ·rfl
theorem PO {y : Int} (hy : 0 ≤ y) {i : Ins} {k : Nat} (h : Good i k) : JU (fF y i) = JU i := by
 have h1 : aT i = true := (eR (by have := h.op; omega)).2 ⟨k, h⟩
 have hg := pJ hy h
 have h2 : aT (fF y i) = true := (eR (by have := hg.op; omega)).2 ⟨k, hg⟩
 have e1 : (fF y i).op = i.op := by unfold fF; split <;> rfl
 have e2 : (fF y i).a = i.a := by unfold fF; split <;> rfl
 unfold JU
 rw [h1, h2, e1, e2]
theorem PR (y aO : Int) (i : Ins) : cS aO (fF y i) = cS aO i := by
 unfold fF
 split
 ·rename_i hc
  unfold cS
  obtain ⟨o, a, b, c, m⟩ := i
  simp only at hc
  obtain ⟨rfl, _⟩ := hc
  simp
 ·rfl
theorem PS (y aO : Int) (i : Ins) : cB aO (fF y i) = cB aO i := by
 unfold fF
 split <;> rfl
theorem Mf {y : Int} (hy : 0 ≤ y) (i : Ins) : i.aP ≤ (fF y i).aP := by
 unfold fF
 split
 ·show i.aP ≤ i.aP + y; omega
 ·exact Int.le_refl _
def qG (s t : Cs) : Prop := t.wr = s.wr ∧ t.st = s.st ∧ t.fd = s.fd ∧ s.bd ≤ t.bd
theorem qG.step {y : Int} (hy : 0 ≤ y) {s t : Cs} (h : qG s t) (aO : Int) (pb : Bool) {i : Ins} (hg : ∃ k, Good i k) : qG (jq aO pb s i) (jq aO pb t (fF y i)) := by
 obtain ⟨k, hg⟩ := hg
 obtain ⟨h1, h2, h3, h4⟩ := h
 have e1 : cW aO (fF y i) = cW aO i := by
  unfold cW
  rw [PO hy hg, show (fF y i).a = i.a by unfold fF; split <;> rfl]
 have hi := Mf hy i
 unfold jq
 simp only
 rw [e1, PR, PS, h3]
 refine ⟨by simp only; omega, by simp only; omega, ?_, ?_⟩
 ·simp only
  rcases s.fd with _ | _ <;> simp
 ·simp only
  rcases cB aO i && pb with _ | _
  ·simpa using h4
  ·rcases s.fd with _ | _
   ·simpa using hi
   ·simp only [Bool.true_and, Bool.not_true, Bool.false_or, decide_eq_true_eq]
    split <;> split <;> omega
theorem qG.list {y : Int} (hy : 0 ≤ y) (aO : Int) (pb : Bool) : ∀ (l : List Ins) {s t : Cs}, qG s t → (∀ i ∈ l, ∃ k, Good i k) → qG (fh aO pb s l) (fh aO pb t (l.map (fF y)))
 | [], s, t, h, _ => h
 | i :: l, s, t, h, hg => by
  unfold fh
  rw [List.map_cons, List.foldl_cons, List.foldl_cons]
  exact qG.list hy aO pb l (h.step hy aO pb (hg i ahZ)) (fun x hx => hg x aiL)
theorem qG.all {y : Int} (hy : 0 ≤ y) (aO : Int) (inl pl : List Bool) {C : List (List Ins)} (hg : ∀ l ∈ C, ∀ i ∈ l, ∃ k, Good i k) : ∀ k, qG (gl aO inl pl C k) (gl aO inl pl (C.map (List.map (fF y))) k)
 | 0 => ⟨rfl, rfl, rfl, Int.le_refl _⟩
 | k + 1 => by
  have ih := qG.all hy aO inl pl hg k
  unfold gl at ih ⊢
  rw [List.range_succ, List.foldl_append, List.foldl_append, List.foldl_cons, List.foldl_cons, List.foldl_nil, List.foldl_nil]
  generalize (List.range k).foldl (wF aO inl pl C) ⟨0, 0, 0, false⟩ = s at ih ⊢
  generalize (List.range k).foldl (wF aO inl pl (C.map (List.map (fF y)))) ⟨0, 0, 0, false⟩ = t at ih ⊢
  unfold wF
  split
  ·have e : (C.map (List.map (fF y))).getD k [] = (C.getD k []).map (fF y) := by
    by_cases hk : k < C.length
    ·simp [List.getD, hk]
    ·simp [List.getD, List.getElem?_eq_none (by omega : C.length ≤ k)]
   rw [e]
   refine qG.list hy aO _ _ ih (fun i hi => ?_)
   by_cases hk : k < C.length
   ·have e2 : C.getD k [] = C[k] := by simp [List.getD, List.getElem?_eq_getElem hk]
    rw [e2] at hi
    exact hg _ (List.getElem_mem hk) i hi
   ·rw [show C.getD k [] = [] by simp [List.getD, List.getElem?_eq_none (by omega : C.length ≤ k)]] at hi
    cases hi
  ·exact ih
theorem IX {n : Nat} {cd : Nat → Int} {G : List aU} (hw : ∀ i, i < n → 0 ≤ cd i ∧ cd i < 4294967296) (hl : ∀ x ∈ G, 0 ≤ x.lo) (h : fD n cd G) : ∀ l ∈ fV cd G, ∀ i ∈ l, ∃ k, Good i k := by
 intro l hl' i hi
 obtain ⟨k, hk, rfl⟩ := List.mem_map.1 hl'
 have hk := List.mem_range.1 hk
 unfold cz codeFrom at hi
 obtain ⟨j, hj, rfl⟩ := List.mem_map.1 hi
 have hj := List.mem_range.1 hj
 have e : G.getD k ⟨0, 0, []⟩ = G[k] := by simp [List.getD, List.getElem?_eq_getElem hk]
 rw [e] at hj ⊢
 have h0 := hl _ (List.getElem_mem hk)
 obtain ⟨a, ha⟩ : ∃ a : Nat, (G[k]).lo + (j : Int) = (a : Int) := ⟨((G[k]).lo + (j : Int)).toNat, by omega⟩
 rw [ha]
 have h1 := h _ (List.getElem_mem hk) a ahU ahU
 obtain ⟨q, hq, _⟩ := iG (hw a h1.1).1 h1.2
 unfold au
 rw [Int.toNat_natCast]
 exact ⟨q, hq⟩
theorem N7.bnd {y : Int} (hy : 0 ≤ y) {n : Nat} {cd ce : Nat → Int} (hw : ∀ i, i < n → 0 ≤ cd i ∧ cd i < 4294967296) (h : N7 y n cd ce) {G : List aU} {P : List (List Int)} (hl : ∀ x ∈ G, 0 ≤ x.lo) (x : Lp) (aO : Int) : (gv n ce G P x aO).2 = (gv n cd G P x aO).2 ∧ (gv n cd G P x aO).1 ≤ (gv n ce G P x aO).1 := by
 unfold gv
 by_cases hc : bQ G P ∧ fD n cd G ∧ kQ G.length x = true
 ·have hc' : bQ G P ∧ fD n ce G ∧ kQ G.length x = true := ⟨hc.1, (h.II hy hw G).2 hc.2.1, hc.2.2⟩
  rw [if_pos hc, if_pos hc']
  have e1 := h.cds hy hw hl hc.2.1
  have e2 : dR ce G = dR cd G := by
   unfold dR
   rw [e1, List.map_map]
   refine List.map_congr_left fun l _ => ?_
   show (l.map (fF y)).any gX = l.any gX
   rw [List.any_map]
   exact congrArg (fun f => l.any f) (funext fun i => Mg y i)
  have e3 : rO ce G x = rO cd G x := by unfold rO; rw [e2]
  unfold cZ
  rw [e3, e1]
  obtain ⟨a1, a2, a3, a4⟩ := qG.all hy aO (gW G.length x.bl) (rO cd G x) (IX hw hl hc.2.1) G.length
  unfold sN
  rw [a1, a2, a3]
  split
  ·exact ⟨rfl, Int.le_refl _⟩
  ·split
   ·exact ⟨rfl, Int.le_refl _⟩
   ·exact ⟨rfl, a4⟩
 ·have hc' : ¬ (bQ G P ∧ fD n ce G ∧ kQ G.length x = true) := fun hh => hc ⟨hh.1, (h.II hy hw G).1 hh.2.1, hh.2.2⟩
  rw [if_neg hc, if_neg hc']
  exact ⟨rfl, Int.le_refl _⟩
theorem Pq {f g : Int → Int × Bool} (h : ∀ r, (g r).2 = (f r).2 ∧ (f r).1 ≤ (g r).1) : ∀ l, (ko g l).2.2 = (ko f l).2.2 ∧ (ko g l).1 = (ko f l).1 ∧ (ko f l).2.1 ≤ (ko g l).2.1
 | [] => ⟨rfl, rfl, Int.le_refl _⟩
 | r :: l => by
  unfold ko
  rw [(h r).1]
  split
  ·exact ⟨rfl, rfl, (h r).2⟩
  ·exact Pq h l
end
end Go.Proofs.YtlmgkipmfgijiaaGreatDoor
