/-
  What is proved here: plain facts on the instructions that can be reached: the work list.
-/
import Derived.Test.YtfceodpdipniaaaDoorCgSucc
namespace Go.Proofs.YtfceodpdipniaaaDoor
open Go.RowKit
set_option linter.unusedVariables false
set_option linter.unusedSimpArgs false

theorem fm_imm : ∀ k, k < 30 → -131072 ≤ lowOf (fm k) 3 ∧ highOf (fm k) 3 ≤ 131071 := by decide
theorem decI_imm (x : Int) (h0 : 0 ≤ x) : -131072 ≤ (decI x).1.imm ∧ (decI x).1.imm ≤ 131071 := by
  unfold decI
  split
  · rename_i h
    obtain ⟨h1, h2⟩ := h
    have hv : validI (decOf x) = true := by
      unfold encI at h2
      split at h2
      · assumption
      · simp at h2
    unfold validI at hv
    simp only [Bool.and_eq_true, decide_eq_true_eq] at hv
    obtain ⟨v1, ⟨v2, v3⟩, v4⟩ := hv
    have ho : (decOf x).op = x / 67108864 := decF_op x _
    obtain ⟨k, hk⟩ : ∃ k : Nat, x / 67108864 = (k : Int) := ⟨(x / 67108864).toNat, by omega⟩
    rw [ho, hk] at v4
    have hk30 : k < 30 := by omega
    have := fm_imm k hk30
    unfold okAt at v4
    simp only [Int.toNat_natCast] at v4
    have e : (decOf x).at_ 3 = (decOf x).imm := rfl
    rw [e] at v4
    simp only
    omega
  · simp
theorem decI_op (x : Int) (h0 : 0 ≤ x) (h1 : x < 4294967296) : 0 ≤ (decI x).1.op ∧ (decI x).1.op < 30 := by
  unfold decI
  split
  · rename_i h
    have ho : (decOf x).op = x / 67108864 := decF_op x _
    simp only [ho]
    omega
  · simp

section
variable (c : Int → Ins) (st en : Int)

def pushI (at_ : Int) (p : List Int × Int) (s : Int) : List Int × Int := if st ≤ s ∧ s < en then (p.1 ++ [s], p.2) else (p.1, if p.2 < 0 ∨ at_ < p.2 then at_ else p.2)

inductive Rch : Int → Prop
  | start : Rch st
  | step {a t : Int} : Rch a → t ∈ succI (c a) a → st ≤ t → t < en → Rch t
theorem Rch.range {a : Int} (h : Rch c st en a) (hs : st < en) : st ≤ a ∧ a < en := by
  cases h with
  | start => omega
  | step _ _ h1 h2 => exact ⟨h1, h2⟩
def Bads (a : Int) : Prop := ∃ t ∈ succI (c a) a, ¬ (st ≤ t ∧ t < en)

structure RInv (D W : List Int) (bad : Int) : Prop where
  nd : D.Nodup
  dr : ∀ a ∈ D, Rch c st en a
  wr : ∀ a ∈ W, Rch c st en a
  cl : ∀ a ∈ D, ∀ t ∈ succI (c a) a, st ≤ t → t < en → t ∈ D ∨ t ∈ W
  s : st ∈ D ∨ st ∈ W
  b : (bad = -1 ∧ ∀ a ∈ D, ¬ Bads c st en a) ∨ (bad ∈ D ∧ Bads c st en bad ∧ ∀ a ∈ D, Bads c st en a → bad ≤ a)
variable {c st en}
theorem RInv.first : RInv c st en [] [st] (-1) :=
  ⟨by simp, by simp, by simpa using Rch.start, by simp, by simp, .inl ⟨rfl, by simp⟩⟩
theorem RInv.skip {D W : List Int} {bad a : Int} (h : RInv c st en D (W ++ [a]) bad) (ha : a ∈ D) : RInv c st en D W bad :=
  ⟨h.nd, h.dr, fun x hx => h.wr x (by simp [hx]), fun x hx t ht h1 h2 => by
      rcases h.cl x hx t ht h1 h2 with h3 | h3
      · exact .inl h3
      · rcases List.mem_append.1 h3 with h4 | h4
        · exact .inr h4
        · simp at h4; exact .inl (h4 ▸ ha), by
      rcases h.s with h3 | h3
      · exact .inl h3
      · rcases List.mem_append.1 h3 with h4 | h4
        · exact .inr h4
        · simp at h4; exact .inl (h4 ▸ ha), h.b⟩
/-- What the pushes of one instruction do. -/
theorem push_spec (a : Int) (ha : 0 ≤ a) : ∀ (l : List Int) (W : List Int) (bad : Int), (bad = -1 ∨ 0 ≤ bad) →
    (∀ x, x ∈ (l.foldl (pushI st en a) (W, bad)).1 ↔ x ∈ W ∨ (x ∈ l ∧ st ≤ x ∧ x < en)) ∧
    ((∀ t ∈ l, st ≤ t ∧ t < en) → (l.foldl (pushI st en a) (W, bad)).2 = bad) ∧
    ((∃ t ∈ l, ¬ (st ≤ t ∧ t < en)) → (l.foldl (pushI st en a) (W, bad)).2 = if bad < 0 ∨ a < bad then a else bad) ∧
    (l.foldl (pushI st en a) (W, bad)).1.length ≤ W.length + l.length := by
  intro l
  induction l with
  | nil => intro W bad hb; exact ⟨by simp, by simp, by simp, by simp⟩
  | cons s l ih =>
    intro W bad hb
    rw [List.foldl_cons]
    by_cases hs : st ≤ s ∧ s < en
    · have e : pushI st en a (W, bad) s = (W ++ [s], bad) := by unfold pushI; rw [if_pos hs]
      rw [e]
      obtain ⟨i1, i2, i3, i4⟩ := ih (W ++ [s]) bad hb
      refine ⟨fun x => ?_, fun h => i2 (fun t ht => h t (by simp [ht])), fun ⟨t, ht, hn⟩ => i3 ⟨t, ?_, hn⟩, ?_⟩
      · rw [i1]
        constructor
        · rintro (h | ⟨h1, h2⟩)
          · rcases List.mem_append.1 h with h | h
            · exact .inl h
            · simp at h; subst h; exact .inr ⟨by simp, hs⟩
          · exact .inr ⟨by simp [h1], h2⟩
        · rintro (h | ⟨h1, h2⟩)
          · exact .inl (by simp [h])
          · rcases List.mem_cons.1 h1 with rfl | h1
            · exact .inl (by simp)
            · exact .inr ⟨h1, h2⟩
      · rcases List.mem_cons.1 ht with rfl | ht
        · exact absurd hs hn
        · exact ht
      · simp at i4 ⊢; omega
    · have e : pushI st en a (W, bad) s = (W, if bad < 0 ∨ a < bad then a else bad) := by unfold pushI; rw [if_neg hs]
      rw [e]
      obtain ⟨i1, i2, i3, i4⟩ := ih W (if bad < 0 ∨ a < bad then a else bad) (by split <;> omega)
      refine ⟨fun x => ?_, fun h => absurd (h s (by simp)) hs, fun _ => ?_, ?_⟩
      · rw [i1]
        constructor
        · rintro (h | ⟨h1, h2⟩)
          · exact .inl h
          · exact .inr ⟨by simp [h1], h2⟩
        · rintro (h | ⟨h1, h2⟩)
          · exact .inl h
          · rcases List.mem_cons.1 h1 with rfl | h1
            · exact absurd h2 hs
            · exact .inr ⟨h1, h2⟩
      · by_cases hl : ∀ t ∈ l, st ≤ t ∧ t < en
        · exact i2 hl
        · simp only [Classical.not_forall] at hl
          obtain ⟨t, ht, hn⟩ := hl
          rw [i3 ⟨t, ht, hn⟩]
          split
          · rename_i h; split <;> simp
          · rfl
      · simp; omega
theorem RInv.push {D W : List Int} {bad a : Int} (h : RInv c st en D (W ++ [a]) bad) (ha : a ∉ D) (h0 : 0 ≤ st) (hse : st < en) :
    RInv c st en (a :: D) ((succI (c a) a).foldl (pushI st en a) (W, bad)).1 ((succI (c a) a).foldl (pushI st en a) (W, bad)).2 := by
  have ra := h.wr a (by simp)
  have hr := ra.range c st en hse
  have hbd : bad = -1 ∨ 0 ≤ bad := by
    rcases h.b with h1 | h1
    · exact .inl h1.1
    · have := (h.dr bad h1.1).range c st en hse
      omega
  obtain ⟨p1, p2, p3, p4⟩ := push_spec (st := st) (en := en) a (by omega) (succI (c a) a) W bad hbd
  refine ⟨by simp [ha, h.nd], fun x hx => ?_, fun x hx => ?_, fun x hx t ht h1 h2 => ?_, ?_, ?_⟩
  · rcases List.mem_cons.1 hx with rfl | hx
    · exact ra
    · exact h.dr x hx
  · rcases (p1 x).1 hx with h1 | ⟨h1, h2, h3⟩
    · exact h.wr x (by simp [h1])
    · exact Rch.step ra h1 h2 h3
  · rcases List.mem_cons.1 hx with rfl | hx
    · exact .inr ((p1 t).2 (.inr ⟨ht, h1, h2⟩))
    · rcases h.cl x hx t ht h1 h2 with h3 | h3
      · exact .inl (by simp [h3])
      · rcases List.mem_append.1 h3 with h4 | h4
        · exact .inr ((p1 t).2 (.inl h4))
        · simp at h4; exact .inl (by simp [h4])
  · rcases h.s with h3 | h3
    · exact .inl (by simp [h3])
    · rcases List.mem_append.1 h3 with h4 | h4
      · exact .inr ((p1 _).2 (.inl h4))
      · simp at h4; exact .inl (by simp [h4])
  · by_cases hB : Bads c st en a
    · right
      rw [p3 hB]
      rcases h.b with ⟨rfl, h2⟩ | ⟨h1, h2, h3⟩
      · rw [if_pos (by omega)]
        refine ⟨by simp, hB, fun x hx hx2 => ?_⟩
        rcases List.mem_cons.1 hx with rfl | hx
        · omega
        · exact absurd hx2 (h2 x hx)
      · have := (h.dr bad h1).range c st en hse
        split
        · rename_i hlt
          refine ⟨by simp, hB, fun x hx hx2 => ?_⟩
          rcases List.mem_cons.1 hx with rfl | hx
          · omega
          · have := h3 x hx hx2; omega
        · rename_i hlt
          refine ⟨by simp [h1], h2, fun x hx hx2 => ?_⟩
          rcases List.mem_cons.1 hx with rfl | hx
          · omega
          · exact h3 x hx hx2
    · have hall : ∀ t ∈ succI (c a) a, st ≤ t ∧ t < en := fun t ht => Classical.byContradiction fun hn => hB ⟨t, ht, hn⟩
      rw [p2 hall]
      rcases h.b with ⟨h1, h2⟩ | ⟨h1, h2, h3⟩
      · refine .inl ⟨h1, fun x hx => ?_⟩
        rcases List.mem_cons.1 hx with rfl | hx
        · exact hB
        · exact h2 x hx
      · refine .inr ⟨by simp [h1], h2, fun x hx hx2 => ?_⟩
        rcases List.mem_cons.1 hx with rfl | hx
        · exact absurd hx2 hB
        · exact h3 x hx hx2
theorem RInv.mem {D : List Int} {bad : Int} (h : RInv c st en D [] bad) (hse : st < en) (a : Int) : a ∈ D ↔ Rch c st en a := by
  constructor
  · exact h.dr a
  · intro ha
    induction ha with
    | start => rcases h.s with h1 | h1; exact h1; cases h1
    | step h1 h2 h3 h4 ih => rcases h.cl _ ih _ h2 h3 h4 with h5 | h5; exact h5; cases h5
/-- No more instructions than the range has. -/
theorem RInv.count {D W : List Int} {bad : Int} (h : RInv c st en D W bad) (hse : st < en) : D.length ≤ (en - st).toNat := by
  have key : ∀ (n : Nat) (D : List Int), D.Nodup → (∀ a ∈ D, st ≤ a ∧ a < st + n) → D.length ≤ n := by
    intro n
    induction n with
    | zero =>
      intro D _ hD
      cases D with
      | nil => simp
      | cons a D => have := hD a (by simp); omega
    | succ n ih =>
      intro D hn hD
      have h1 : (D.erase (st + n)).length ≤ n := ih _ (hn.erase _) (fun a ha => by
        have h2 := (hn.mem_erase_iff).1 ha
        have := hD a h2.2
        have := h2.1
        omega)
      rw [List.length_erase] at h1
      split at h1 <;> omega
  refine key _ D h.nd (fun a ha => ?_)
  have := (h.dr a ha).range c st en hse
  omega
end

/-- The map of the instructions found. -/
def fnd (c : Int → Ins) (D : List Int) : Int → Option Value := fun k => if k ∈ D then some (c k).val else none
theorem fnd_nil (c : Int → Ins) : fnd c [] = fun _ => none := by funext k; simp [fnd]
theorem fnd_cons (c : Int → Ins) (D : List Int) (a : Int) : updo (fnd c D) a (c a).val = fnd c (a :: D) := by
  funext k
  unfold updo fnd
  by_cases h : k = a
  · simp [h]
  · simp [h]

end Go.Proofs.YtfceodpdipniaaaDoor
