/-
 What is proved here: the analysis is sound, in plain mathematics: a step of a job leads from registers of the intervals to registers of the intervals.
-/
import Derived.Test.YtebklpnkcicpjaaDoorRlFp
import Derived.Test.YtebklpnkcicpjaaDoorRlSs
import Derived.Test.YtebklpnkcicpjaaDoorRbKc
namespace Go.Proofs.YtebklpnkcicpjaaDoor
open Go.RowKit
set_option linter.unusedVariables false
set_option linter.unusedSimpArgs false

structure Liv (cd : Nat → Int) (D : List Int) (L : List (Int × Int)) (s : AS) (pc : Int) (rs : List Int) (b : Nat) : Prop where
 at_ : At (insAt cd) D L pc b
 rc : s.reach.getD b false = true
 run : ∃ r, runR (codeFrom cd (L[b]'at_.lt).1 (pc - (L[b]'at_.lt).1).toNat) (s.inn.getD b []) = some r ∧ InR rs r
theorem mem_deadK_iff {B : List AB} {s : AS} {n b : Nat} {t : Int} (h : ((b : Int), t) ∈ deadK B s n) : ((b : Int), t) ∈ deadB (B.getD b ⟨[], []⟩) b (B.getD b ⟨[], []⟩).nx.length (s.inn.getD b []) := by
 unfold deadK at h
 rw [List.mem_flatMap] at h
 obtain ⟨j, _, h2⟩ := h
 split at h2
 ·have e : j = b := by
   unfold deadB at h2
   cases hr : runR (B.getD j ⟨[], []⟩).code (s.inn.getD j []) with
   | none =>
    rw [hr] at h2
    simp only [List.mem_map] at h2
    obtain ⟨x, _, e⟩ := h2
    have := congrArg Prod.fst e
    simp only at this
    omega
   | some aft =>
    rw [hr] at h2
    simp only [List.mem_map] at h2
    obtain ⟨x, _, e⟩ := h2
    have := congrArg Prod.fst e
    simp only at this
    omega
  subst e
  exact h2
 ·cases h2
theorem nodup_at {l : List Int} (h : l.Nodup) {i j : Nat} (hi : i < l.length) (hj : j < l.length) (e : l.getD i 0 = l.getD j 0) : i = j := by
 simp only [List.getD, List.getElem?_eq_getElem hi, List.getElem?_eq_getElem hj, Option.getD_some] at e
 exact (List.getElem_inj h).1 e
theorem StepOk.same_r {I : Ins} {lk : Int} {S S' : St} {dl sl dl' sl' : List Int} {nx : Int} (h : StepOk I lk S dl sl nx S' dl' sl') (hb : I.op = 22 ∨ I.op = 23) : S'.r = S.r := by
 cases h with
 | set v hw => exfalso; rcases hw with h | h | h | h | h | h | h | h <;> omega
 | br _ => rfl
 | plain _ => rfl
 | st _ _ _ => rfl
 | sts _ _ _ => rfl
 | lock _ _ _ => rfl
 | unlock _ _ => rfl
 | halt _ _ => rfl
theorem StepOk.len {I : Ins} {lk : Int} {S S' : St} {dl sl dl' sl' : List Int} {nx : Int} (h : StepOk I lk S dl sl nx S' dl' sl') (hl : S.r.length = 16) : S'.r.length = 16 := by
 cases h with
 | set v hw =>
  show (setR S.r _ v).length = 16
  unfold setR
  split
  ·exact hl
  ·rw [List.length_set]; exact hl
 | br _ => exact hl
 | plain _ => exact hl
 | st _ _ _ => exact hl
 | sts _ _ _ => exact hl
 | lock _ _ _ => exact hl
 | unlock _ _ => exact hl
 | halt _ _ => exact hl
theorem StepOk.br_nx {I : Ins} {lk : Int} {S S' : St} {dl sl dl' sl' : List Int} {nx : Int} (h : StepOk I lk S dl sl nx S' dl' sl') (hb : I.op = 22 ∨ I.op = 23) : nx = if (decide (S.r.getD I.a.toNat 0 = 0) == decide (I.op = 22)) = true then S.pc + 1 + I.imm else S.pc + 1 := by
 cases h with
 | br _ =>
  unfold taken reg
  rw [show decide (I.op = 24) = false from decide_eq_false (by omega), Bool.false_or]
 | plain hw => exfalso; omega
 | set v hw => exfalso; rcases hw with h | h | h | h | h | h | h | h <;> omega
 | st hw _ _ => exfalso; omega
 | sts hw _ _ => exfalso; omega
 | lock hw _ _ => exfalso; omega
 | unlock hw _ => exfalso; omega
 | halt hw _ => exfalso; omega
section
variable {n : Nat} {cd : Nat → Int} {st en : Int} {D : List Int} {L : List (Int × Int)} {s : AS}
theorem prop_in {r : RG} {v : List Int} (hr : R16 r) (h : InR v r) (h0 : rg r 0 = (0, 0)) : properR r = true :=
 proper_of hr (fun k hk => by have := h k hk; unfold Mem at this; omega) h0
theorem edge_live {x : Blk} (ho : GOk n cd (gBlks (insAt cd) L) x) {b : Nat} (hx : (gBlks (insAt cd) L)[b]? = some x) (hrc : s.reach.getD b false = true) (hnd : x.nx.Nodup) {aft : RG} (ha : runR (codeFrom cd x.lo (x.hi - x.lo).toNat) (s.inn.getD b []) = some aft) (h16 : R16 aft) (pr : properR aft = true) {v : List Int} (hl : v.length = 16) (hin : InR v aft)
  (h0 : 0 ≤ (insAt cd (x.hi - 1)).op) (hv : validI (insAt cd (x.hi - 1)) = true) {j : Nat} (hj : j < x.nx.length)
  (ht : (insAt cd (x.hi - 1)).op = 22 ∨ (insAt cd (x.hi - 1)).op = 23 → x.nx.length = 2 → (decide (v.getD (insAt cd (x.hi - 1)).a.toNat 0 = 0) == decide ((insAt cd (x.hi - 1)).op = 22)) = decide (j = 1)) :
  ((b : Int), x.nx.getD j 0) ∉ deadK (absOf cd (gBlks (insAt cd) L)) s (gBlks (insAt cd) L).length := fun hd => by
 have h1 := mem_deadK_iff hd
 have hab := absOf_get (cd := cd) hx
 rw [hab] at h1
 unfold deadB at h1
 simp only [ha] at h1
 rw [List.mem_map] at h1
 obtain ⟨q, hq, e⟩ := h1
 rw [List.mem_filter] at hq
 obtain ⟨hq1, hq2⟩ := hq
 have hql := List.mem_range.1 hq1
 have e2 : x.nx.getD q 0 = x.nx.getD j 0 := congrArg Prod.snd e
 obtain rfl := nodup_at hnd hql hj e2
 rw [abs_last ho] at hq2
 unfold edgeR at hq2
 by_cases hb : (insAt cd (x.hi - 1)).op = 22 ∨ (insAt cd (x.hi - 1)).op = 23
 ·rw [if_neg (fun h => h hb)] at hq2
  obtain ⟨a, hra, _⟩ := ref_in h0 hl h16 pr hb hv hin
  by_cases h2 : x.nx.length = 2
  ·rw [if_pos h2, ← ht hb h2, hra] at hq2
   cases hq2
  ·rw [if_neg h2] at hq2
   cases hf : refR (insAt cd (x.hi - 1)) aft false with
   | none =>
    rw [hf] at hq2
    cases htt : refR (insAt cd (x.hi - 1)) aft true with
    | none =>
     cases ho2 : (decide (v.getD (insAt cd (x.hi - 1)).a.toNat 0 = 0) == decide ((insAt cd (x.hi - 1)).op = 22)) with
     | false => rw [ho2, hf] at hra; cases hra
     | true => rw [ho2, htt] at hra; cases hra
    | some y => rw [htt] at hq2; cases hq2
   | some y =>
    rw [hf] at hq2
    cases htt : refR (insAt cd (x.hi - 1)) aft true with
    | none => rw [htt] at hq2; cases hq2
    | some z => rw [htt] at hq2; cases hq2
 ·rw [if_pos hb] at hq2
  cases hq2
theorem edge_num (h : GInv (insAt cd) st en D L) {b : Nat} (hb : b < L.length) {nx : Int} {t : Bool} (hn : nx ∈ succI (insAt cd ((L[b]).2 - 1)) ((L[b]).2 - 1))
  (ht : (insAt cd ((L[b]).2 - 1)).op = 22 ∨ (insAt cd ((L[b]).2 - 1)).op = 23 → nx = if t = true then (L[b]).2 - 1 + 1 + (insAt cd ((L[b]).2 - 1)).imm else (L[b]).2 - 1 + 1) :
  ∃ j, j < (nextOf (insAt cd) L b).length ∧ (nextOf (insAt cd) L b).getD j 0 = (idx L nx : Int) ∧ ((insAt cd ((L[b]).2 - 1)).op = 22 ∨ (insAt cd ((L[b]).2 - 1)).op = 23 → (nextOf (insAt cd) L b).length = 2 → t = decide (j = 1)) := by
 have hla : lastI L b = (L[b]).2 - 1 := by simp [lastI, List.getD, List.getElem?_eq_getElem hb]
 unfold nextOf
 rw [hla]
 by_cases hbr : (insAt cd ((L[b]).2 - 1)).op = 22 ∨ (insAt cd ((L[b]).2 - 1)).op = 23
 ·have hs : succI (insAt cd ((L[b]).2 - 1)) ((L[b]).2 - 1) = [(L[b]).2 - 1 + 1, (L[b]).2 - 1 + 1 + (insAt cd ((L[b]).2 - 1)).imm] := by
   unfold succI
   rw [if_neg (by omega), if_neg (by omega), if_pos hbr]
  rw [hs]
  have e := ht hbr
  unfold nxl
  simp only [List.foldl_cons, List.foldl_nil]
  have e0 : addN [] (idx L ((L[b]).2 - 1 + 1) : Int) = [(idx L ((L[b]).2 - 1 + 1) : Int)] := by simp [addN]
  rw [e0]
  cases t with
  | false =>
   rw [if_neg (by simp)] at e
   refine ⟨0, ?_, ?_, fun _ _ => by simp⟩
   ·unfold addN; split <;> simp
   ·rw [e]; unfold addN; split <;> simp
  | true =>
   rw [if_pos rfl] at e
   by_cases he : (idx L ((L[b]).2 - 1 + 1 + (insAt cd ((L[b]).2 - 1)).imm) : Int) = (idx L ((L[b]).2 - 1 + 1) : Int)
   ·have e1 : addN [(idx L ((L[b]).2 - 1 + 1) : Int)] (idx L ((L[b]).2 - 1 + 1 + (insAt cd ((L[b]).2 - 1)).imm) : Int) = [(idx L ((L[b]).2 - 1 + 1) : Int)] := by unfold addN; rw [if_pos (by rw [he]; simp)]
    rw [e1]
    exact ⟨0, by simp, by rw [e, he]; simp, fun _ h2 => by simp at h2⟩
   ·have e1 : addN [(idx L ((L[b]).2 - 1 + 1) : Int)] (idx L ((L[b]).2 - 1 + 1 + (insAt cd ((L[b]).2 - 1)).imm) : Int) = [(idx L ((L[b]).2 - 1 + 1) : Int), (idx L ((L[b]).2 - 1 + 1 + (insAt cd ((L[b]).2 - 1)).imm) : Int)] := by unfold addN; rw [if_neg (by simpa using he)]; rfl
    rw [e1]
    exact ⟨1, by simp, by rw [e]; simp, fun _ _ => by simp⟩
 ·have hm : (idx L nx : Int) ∈ nxl L (succI (insAt cd ((L[b]).2 - 1)) ((L[b]).2 - 1)) := (mem_nxl _ _ _).2 ⟨nx, hn, rfl⟩
  obtain ⟨j, hj, e⟩ := List.getElem_of_mem hm
  exact ⟨j, hj, by simp [List.getD, List.getElem?_eq_getElem hj, e], fun h => absurd h hbr⟩
theorem Liv.head {pc : Int} {rs : List Int} {b : Nat} (h : Liv cd D L s pc rs b) (e : (L[b]'h.at_.lt).1 = pc) : InR rs (s.inn.getD b []) := by
 obtain ⟨r, h1, h2⟩ := h.run
 rw [e, show (pc - pc).toNat = 0 by omega] at h1
 have h3 : some (s.inn.getD b []) = some r := h1
 cases h3
 exact h2
theorem Liv.step (hL : blk (insAt cd) st D (en - st).toNat = L) (hG : GInv (insAt cd) st en D L) (hE : Ends (absOf cd (gBlks (insAt cd) L)) (startS (gBlks (insAt cd) L).length) s) (FX : Fx (gBlks (insAt cd) L).length s) (hok : ∀ x ∈ gBlks (insAt cd) L, GOk n cd (gBlks (insAt cd) L) x) (hwd : ∀ i, i < n → 0 ≤ cd i ∧ cd i < 4294967296)
  {S S' : St} {b : Nat} (h : Liv cd D L s S.pc S.r b) (hl : S.r.length = 16) {lk : Int} {dl sl dl' sl' : List Int} {nx : Int} (hd : ∀ x ∈ dl, W32 x) (hs : ∀ x ∈ sl, W32 x) (hh : S.hal = false) (hst : StepOk (insAt cd S.pc) lk S dl sl nx S' dl' sl') :
  S'.hal = true ∨ (S'.hal = false ∧ ∃ k, Liv cd D L s nx S'.r k ∧ ((k = b ∧ nx = S.pc + 1 ∧ (L[b]'h.at_.lt).1 < nx) ∨ (∃ hk : k < L.length, (L[k]).1 = nx ∧ ((b : Int), (k : Int)) ∉ deadK (absOf cd (gBlks (insAt cd) L)) s (gBlks (insAt cd) L).length))) := by
 obtain ⟨hat, hrc, r, hrun, hin⟩ := h
 have hb := hat.lt
 have hgx := gBlks_at (insAt cd) L hb
 have ho := hok _ (List.mem_of_getElem? hgx)
 have hbl : b < (gBlks (insAt cd) L).length := by rw [gBlks_len]; exact hb
 have p1 := hat.lo
 have p2 := hat.hi
 have l0 : 0 ≤ (L[b]).1 := ho.lo
 obtain ⟨q1, q2, q3⟩ := ho.cod S.pc.toNat (by simp only; omega) (by simp only; omega)
 rw [show ((S.pc.toNat : Nat) : Int) = S.pc by omega] at q3
 have hv : validI (insAt cd S.pc) = true := by
  obtain ⟨k, g1, _⟩ := decI_good (hwd _ q1).1 q2
  exact (validI_iff q3).2 ⟨k, g1⟩
 have h16 := FX.asi.get hbl
 have hz := FX.z b hbl
 have hops := codeFrom_op ho (m := (S.pc - (L[b]).1).toNat) (by simp only; omega)
 have r16 := runR_16 hops h16 hrun
 have rz : rg r 0 = (0, 0) := (runR_0 hops h16 hrun).trans hz
 have pr := prop_in r16 hin rz
 obtain ⟨a, hta, hina⟩ := step_in q3 hv pr r16 hl hin hd hs hst
 have a16 := transR_16 q3 r16 hta
 have az : rg a 0 = (0, 0) := (transR_0 q3 r16 hta).1.trans rz
 have hrun' : runR (codeFrom cd (L[b]).1 ((S.pc - (L[b]).1).toNat + 1)) (s.inn.getD b []) = some a := by
  rw [codeFrom_succ, runR_append, hrun]
  simp only [runR]
  rw [show (L[b]).1 + ((S.pc - (L[b]).1).toNat : Int) = S.pc by omega, hta]
 rcases hst.next hh q3 with ⟨h1, _⟩ | ⟨h1, h2, h3, h4⟩
 ·exact .inl h1
 refine .inr ⟨h1, ?_⟩
 obtain ⟨s1, s2⟩ := hat.step hL hG h2 h3 h4
 by_cases hlast : S.pc = (L[b]).2 - 1
 ·obtain ⟨k, hk, e1, e2, e3, hatk⟩ := s2 hlast
  have e1' : (L[k]).1 = nx := by simpa [List.getD, List.getElem?_eq_getElem hk] using e1
  have hik : idx L nx = k := by rw [← e1']; exact idx_of hG hk
  have hbn := fun hb => hst.br_nx hb
  rw [hlast] at h3 hbn
  obtain ⟨j, hj, ej, htj⟩ := edge_num hG hb (t := (decide (S.r.getD (insAt cd S.pc).a.toNat 0 = 0) == decide ((insAt cd S.pc).op = 22))) h3 (by rw [hlast]; exact hbn)
  rw [hik] at ej
  have hfull : runR (codeFrom cd (L[b]).1 ((L[b]).2 - (L[b]).1).toNat) (s.inn.getD b []) = some a := by
   rw [show ((L[b]).2 - (L[b]).1).toNat = (S.pc - (L[b]).1).toNat + 1 by omega]
   exact hrun'
  have pa := prop_in a16 hina az
  have hl' := hst.len hl
  have hreg := fun hb => hst.same_r hb
  have q3' := q3
  have hv' := hv
  rw [hlast] at q3' hv' htj hreg
  have hnd : ((b : Int), (nextOf (insAt cd) L b).getD j 0) ∉ deadK (absOf cd (gBlks (insAt cd) L)) s (gBlks (insAt cd) L).length :=
   edge_live ho hgx hrc (nxl_nodup _ _) hfull a16 pa hl' hina q3' hv' hj (fun hbr h2 => by rw [hreg hbr]; exact htj hbr h2)
  have hfe := fixed_edge hE FX hok hgx hrc (k := j) hj hnd
  simp only at hfe
  rw [hfull] at hfe
  obtain ⟨aft, ea, _, f1, f2, f3, f4⟩ := hfe
  cases ea
  rw [ej, Int.toNat_natCast] at f1 f2 f3 f4
  rw [ej] at hnd
  refine ⟨k, ⟨hatk, f1, s.inn.getD k [], ?_, ?_⟩, .inr ⟨hk, e1', hnd⟩⟩
  ·rw [e1', show (nx - nx).toNat = 0 by omega]
   rfl
  ·by_cases hbr : (insAt cd ((L[b]).2 - 1)).op = 22 ∨ (insAt cd ((L[b]).2 - 1)).op = 23
   ·obtain ⟨a2, hra, hin2⟩ := ref_in q3' hl' a16 pa hbr hv' hina
    exact hin2.sub (f4 hbr _ a2 (fun h2 => by rw [hreg hbr]; exact htj hbr h2) hra)
   ·exact hina.sub (f3 hbr)
 ·obtain ⟨e1, hat1⟩ := s1 (by omega)
  subst e1
  refine ⟨b, ⟨hat1, hrc, a, ?_, hina⟩, .inl ⟨rfl, rfl, by omega⟩⟩
  rw [show (S.pc + 1 - (L[b]).1).toNat = (S.pc - (L[b]).1).toNat + 1 by omega]
  exact hrun'
end

end Go.Proofs.YtebklpnkcicpjaaDoor


