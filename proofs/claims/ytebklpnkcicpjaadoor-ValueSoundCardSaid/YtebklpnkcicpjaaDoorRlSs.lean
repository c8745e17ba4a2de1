/-
 What is proved here: Transfer is sound, in plain mathematics: an instruction that is executed on registers of the intervals leads to registers of the resulting intervals.
-/
import Derived.Test.YtebklpnkcicpjaaDoorRaMono
import Derived.Test.YtebklpnkcicpjaaDoorRbIp
import Derived.Test.YtebklpnkcicpjaaDoorRbKd
namespace Go.Proofs.YtebklpnkcicpjaaDoor
open Go.RowKit
set_option linter.unusedVariables false
set_option linter.unusedSimpArgs false

theorem in_set {v : List Int} {r : RG} (hl : v.length = 16) (hr : R16 r) (h : InR v r) {a x : Int} {z : Int × Int} (a0 : 0 ≤ a) (a1 : a ≤ 15) (hz : Mem x z) : InR (setR v a x) (setRg r a z) := fun k hk => by
 have h1 := h k hk
 rw [rg_setRg a0 (by rw [hr.len]; omega) _ (by omega)]
 unfold setR
 by_cases ha : a = 0
 ·rw [if_pos ha, if_neg (fun e => e.1 ha)]; exact h1
 ·rw [if_neg ha]
  by_cases hka : k = a.toNat
  ·rw [if_pos ⟨ha, by omega⟩, hka]
   rw [show (v.set a.toNat x).getD a.toNat 0 = x by simp [List.getD, hl, show a.toNat < 16 by omega]]
   exact hz
  ·rw [if_neg (fun e => hka (by omega))]
   rw [show (v.set a.toNat x).getD k 0 = v.getD k 0 by simp [List.getD, List.getElem?_set, Ne.symm hka]]
   exact h1
theorem valid_sh {i : Ins} (h0 : 0 ≤ i.op) (hv : validI i = true) (h : i.op = 16) : 0 ≤ i.imm ∧ i.imm ≤ 31 := by
 obtain ⟨k, g1, g2, _, _, _, i1, i2⟩ := (validI_iff (i := i) h0).1 hv
 obtain rfl : k = 16 := by omega
 exact ⟨Int.le_trans (by decide) i1, Int.le_trans i2 (by decide)⟩
theorem getD_W {l : List Int} (h : ∀ x ∈ l, W32 x) (k : Nat) : W32 (l.getD k 0) := by
 by_cases hk : k < l.length
 ·rw [show l.getD k 0 = l[k] by simp [List.getD, List.getElem?_eq_getElem hk]]
  exact h _ (List.getElem_mem hk)
 ·rw [show l.getD k 0 = 0 by simp [List.getD, List.getElem?_eq_none (Nat.le_of_not_lt hk)]]
  unfold W32; omega
theorem step_in {I : Ins} {r : RG} (h0 : 0 ≤ I.op) (hv : validI I = true) (pr : properR r = true) (hr : R16 r) {s : St} (hl : s.r.length = 16) (hin : InR s.r r) {lk : Int} {dl sl : List Int} (hd : ∀ x ∈ dl, W32 x) (hs : ∀ x ∈ sl, W32 x) {nx : Int} {s' : St} {dl' sl' : List Int}
  (h : StepOk I lk s dl sl nx s' dl' sl') : ∃ a, transR I r = some a ∧ InR s'.r a := by
 obtain ⟨⟨a0, a1⟩, ⟨b0, b1⟩, ⟨c0, c1⟩, i0, i1⟩ := valid_in h0 hv
 have wi := imm_W hv h0
 have mem : ∀ k : Int, 0 ≤ k → k ≤ 15 → Mem (reg s k) (rg r k) := fun k k0 k1 => by
  have := hin k.toNat (by omega)
  rw [show ((k.toNat : Nat) : Int) = k by omega] at this
  exact this
 have wr : ∀ k : Int, WI (rg r k) := fun k => hr.at_ k
 have wim : WI (I.imm, I.imm) := ⟨wi.1, wi.1⟩
 have mim : Mem I.imm (I.imm, I.imm) := ⟨Int.le_refl _, Int.le_refl _⟩
 have hset : ∀ {x : Int} {z : Int × Int}, Mem x z → InR (setR s.r I.a x) (setRg r I.a z) := fun hz => in_set hl hr hin a0 a1 hz
 unfold transR
 rw [if_pos ⟨hv, pr⟩]
 have same : ¬ (2 ≤ I.op ∧ I.op ≤ 17) → ¬ (I.op = 18 ∨ I.op = 20 ∨ I.op = 26) → I.op ≠ 25 → s'.r = s.r → ∃ a, (if 2 ≤ I.op ∧ I.op ≤ 13 then
   if (I.op = 5 ∨ I.op = 6) ∧ rg r I.c = (0, 0) then none else some (setRg r I.a (applyI (opN I.op) (rg r I.b) (rg r I.c)))
  else if I.op = 14 then some (setRg r I.a (I.imm, I.imm))
  else if I.op = 15 then some (setRg r I.a (applyI 6 (rg r I.b) (I.imm, I.imm)))
  else if I.op = 16 then some (setRg r I.a (applyI 14 (rg r I.b) (I.imm, I.imm)))
  else if I.op = 17 then some (setRg r I.a (applyI 12 (rg r I.b) (I.imm, I.imm)))
  else if I.op = 18 ∨ I.op = 20 ∨ I.op = 26 then some (setRg r I.a fullI)
  else if I.op = 25 then (if emp (meetI (rg r I.a) (0, I.imm - 1)) = true then none else some (setRg r I.a (meetI (rg r I.a) (0, I.imm - 1))))
  else some r) = some a ∧ InR s'.r a := fun n1 n2 n3 e => by
  rw [if_neg (by omega), if_neg (by omega), if_neg (by omega), if_neg (by omega), if_neg (by omega), if_neg n2, if_neg n3, e]
  exact ⟨_, rfl, hin⟩
 cases h with
 | plain h =>
  rcases h with h | h | ⟨h, h1, h2⟩
  ·exact same (by omega) (by omega) (by omega) rfl
  ·exact same (by omega) (by omega) (by omega) rfl
  ·rw [if_neg (by omega), if_neg (by omega), if_neg (by omega), if_neg (by omega), if_neg (by omega), if_neg (by omega), if_pos h]
   have hm := (meet_mem (rg r I.a) (0, I.imm - 1) (reg s I.a)).2 ⟨mem _ a0 a1, h1, by simp only; omega⟩
   have he : emp (meetI (rg r I.a) (0, I.imm - 1)) = false := by
    unfold emp
    simpa using Int.le_trans hm.1 hm.2
   rw [if_neg (by rw [he]; simp)]
   refine ⟨_, rfl, ?_⟩
   have := hset hm
   have e : setR s.r I.a (reg s I.a) = s.r := by
    unfold setR reg
    split
    ·rfl
    ·apply List.ext_getElem?
     intro q
     rw [List.getElem?_set]
     split
     ·rename_i e; subst e
      rw [if_pos (by omega)]
      simp [List.getD, List.getElem?_eq_getElem (show I.a.toNat < s.r.length by omega)]
     ·rfl
   rwa [e] at this
 | set v h =>
  rcases h with ⟨h, e⟩ | ⟨h, e⟩ | ⟨h, e⟩ | ⟨h, e⟩ | ⟨h, _, _, e⟩ | ⟨h, _, _, e⟩ | ⟨h, e⟩ | ⟨h1, h2, h3, e⟩
  ·rw [if_neg (by omega), if_pos h]
   exact ⟨_, rfl, hset (by rw [e]; exact mim)⟩
  ·rw [if_neg (by omega), if_neg (by omega), if_pos h]
   refine ⟨_, rfl, hset ?_⟩
   have := apply_has (op := 6) (wr I.b) wim (mem _ b0 b1) mim rfl
   rw [e]
   exact this
  ·rw [if_neg (by omega), if_neg (by omega), if_neg (by omega), if_pos h]
   refine ⟨_, rfl, hset ?_⟩
   have h5 := apply_has (op := 14) (wr I.b) wim (mem _ b0 b1) mim rfl
   obtain ⟨q0, q1⟩ := valid_sh h0 hv h
   have h6 : wv 14 (reg s I.b) I.imm = wrap32 (reg s I.b * 2 ^ I.imm.toNat) := by
    unfold wv
    rw [if_neg (by decide), if_neg (by decide), if_neg (by decide), if_neg (by decide), if_neg (by decide), if_neg (by decide), if_neg (by decide), if_neg (by decide), if_pos rfl, show I.imm % 32 = I.imm by omega]
   rw [h6] at h5
   rw [e]
   exact h5
  ·rw [if_neg (by omega), if_neg (by omega), if_neg (by omega), if_neg (by omega), if_pos h]
   refine ⟨_, rfl, hset ?_⟩
   have := apply_has (op := 12) (wr I.b) wim (mem _ b0 b1) mim rfl
   rw [e]
   exact this
  ·rw [if_neg (by omega), if_neg (by omega), if_neg (by omega), if_neg (by omega), if_neg (by omega), if_pos (.inl h)]
   exact ⟨_, rfl, hset (by rw [e]; exact word_full (getD_W hd _))⟩
  ·rw [if_neg (by omega), if_neg (by omega), if_neg (by omega), if_neg (by omega), if_neg (by omega), if_pos (.inr (.inl h))]
   exact ⟨_, rfl, hset (by rw [e]; exact word_full (getD_W hs _))⟩
  ·rw [if_neg (by omega), if_neg (by omega), if_neg (by omega), if_neg (by omega), if_neg (by omega), if_pos (.inr (.inr h))]
   exact ⟨_, rfl, hset (word_full e)⟩
  ·rw [if_pos ⟨h1, h2⟩]
   have hop : opr I.op = opN I.op := rfl
   rw [hop] at h3 e
   have hz : ¬ ((I.op = 5 ∨ I.op = 6) ∧ rg r I.c = (0, 0)) := by
    rintro ⟨q1, q2⟩
    have hm := mem I.c c0 c1
    rw [q2] at hm
    have hz : reg s I.c = 0 := by unfold Mem at hm; simp only at hm; omega
    rw [hz] at h3
    unfold we opN at h3
    rcases q1 with q1 | q1 <;> rw [q1] at h3 <;> simp at h3
   rw [if_neg hz]
   refine ⟨_, rfl, hset ?_⟩
   rw [e]
   exact apply_has (wr I.b) (wr I.c) (mem _ b0 b1) (mem _ c0 c1) h3
 | st h _ _ => exact same (by omega) (by omega) (by omega) rfl
 | sts h _ _ => exact same (by omega) (by omega) (by omega) rfl
 | br h =>
  have : I.op = 22 ∨ I.op = 23 ∨ I.op = 24 := by unfold isBr at h; simpa [or_assoc] using h
  exact same (by omega) (by omega) (by omega) rfl
 | lock h _ _ => exact same (by omega) (by omega) (by omega) rfl
 | unlock h _ => exact same (by omega) (by omega) (by omega) rfl
 | halt h _ => exact same (by omega) (by omega) (by omega) rfl

end Go.Proofs.YtebklpnkcicpjaaDoor


