/-
  What is proved here: sorted lists of items in plain mathematics: what a heap holds, as the list in the order of popping.
-/
import Derived.Test.YtekdjjfbkcgmhaaHpPop
namespace Go.Proofs.Ytekdjjfbkcgmhaa
open Go.RowKit Hp
set_option linter.unusedVariables false
set_option linter.unusedSimpArgs false

/-- The order by a key. -/
def lsOf (f : Int → Int) : Int → Int → Int → Int → Bool := fun a _ c _ => decide (f a < f c)
/-- What comes before what: by the key, then by the number of the push. -/
def lt_ (f : Int → Int) (a b : It) : Bool := bfr (lsOf f) a b
theorem lt_iff (f : Int → Int) (a b : It) : lt_ f a b = true ↔ f a.key < f b.key ∨ (f a.key = f b.key ∧ a.ord < b.ord) := by
  unfold lt_ bfr lsOf
  by_cases h : a.ord < b.ord
  · rw [if_pos h]; simp; omega
  · rw [if_neg h]; simp; omega
theorem lt_false (f : Int → Int) (a b : It) : lt_ f a b = false ↔ ¬ (f a.key < f b.key ∨ (f a.key = f b.key ∧ a.ord < b.ord)) := by
  rw [← lt_iff]; simp
theorem ord_lt (f : Int → Int) : Hp.Ord (lt_ f) := by
  refine ⟨fun a b c => ?_, fun a b => ?_⟩
  · simp only [lt_false]; omega
  · simp only [lt_false, lt_iff]; omega

/-- Sorted: each comes before all that follow. -/
def Srt (f : Int → Int) (S : List It) : Prop := S.Pairwise (fun a b => lt_ f a b = true)
def ins (f : Int → Int) (x : It) : List It → List It
  | [] => [x]
  | y :: S => if lt_ f x y = true then x :: y :: S else y :: ins f x S
theorem ins_perm (f : Int → Int) (x : It) (S : List It) : (ins f x S).Perm (x :: S) := by
  induction S with
  | nil => exact .refl _
  | cons y S ih =>
    unfold ins
    split
    · exact .refl _
    · exact (List.Perm.cons y ih).trans (List.Perm.swap _ _ _)
theorem ins_mem {f : Int → Int} {x z : It} {S : List It} : z ∈ ins f x S ↔ z = x ∨ z ∈ S := by
  rw [(ins_perm f x S).mem_iff]; simp
theorem ins_length (f : Int → Int) (x : It) (S : List It) : (ins f x S).length = S.length + 1 := (ins_perm f x S).length_eq
theorem ins_srt {f : Int → Int} {x : It} {S : List It} (h : Srt f S) (hx : ∀ y ∈ S, y.ord < x.ord) : Srt f (ins f x S) := by
  induction S with
  | nil => simp [ins, Srt]
  | cons y S ih =>
    obtain ⟨h1, h2⟩ := List.pairwise_cons.1 h
    unfold ins
    by_cases c : lt_ f x y = true
    · rw [if_pos c]
      refine List.pairwise_cons.2 ⟨fun z hz => ?_, h⟩
      rcases List.mem_cons.1 hz with rfl | hz
      · exact c
      · have := h1 z hz
        rw [lt_iff] at *
        omega
    · rw [if_neg c]
      refine List.pairwise_cons.2 ⟨fun z hz => ?_, ih h2 (fun z hz => hx z (List.mem_cons_of_mem _ hz))⟩
      rcases ins_mem.1 hz with rfl | hz
      · have := hx y (by simp)
        rw [lt_iff] at *
        omega
      · exact h1 z hz
/-- Two sorted lists of the same elements are one list. -/
theorem srt_unique {f : Int → Int} : ∀ {S T : List It}, Srt f S → Srt f T → S.Perm T → S = T
  | [], T, _, _, h => (List.Perm.nil_eq h)
  | s :: S, [], _, _, h => by have := h.length_eq; simp at this
  | s :: S, t :: T, hS, hT, h => by
    obtain ⟨s1, s2⟩ := List.pairwise_cons.1 hS
    obtain ⟨t1, t2⟩ := List.pairwise_cons.1 hT
    have e : s = t := by
      have m1 : s ∈ t :: T := h.mem_iff.1 (by simp)
      have m2 : t ∈ s :: S := h.mem_iff.2 (by simp)
      rcases List.mem_cons.1 m1 with e | m1
      · exact e
      · rcases List.mem_cons.1 m2 with e | m2
        · exact e.symm
        · have a := t1 s m1
          have b := s1 t m2
          rw [lt_iff] at *
          omega
    subst e
    rw [srt_unique s2 t2 (List.Perm.cons_inv h)]
/-- The list sorted: one after the other is put in. -/
def srt (f : Int → Int) (T : List It) : List It := T.foldl (fun S x => ins f x S) []
theorem srt_snoc (f : Int → Int) (T : List It) (x : It) : srt f (T ++ [x]) = ins f x (srt f T) := by simp [srt]
theorem foldl_perm (f : Int → Int) : ∀ (T S : List It), (T.foldl (fun S x => ins f x S) S).Perm (T ++ S)
  | [], S => .refl _
  | x :: T, S => by
    refine (foldl_perm f T (ins f x S)).trans ?_
    refine ((List.Perm.append_left T (ins_perm f x S))).trans ?_
    exact List.perm_middle
theorem srt_perm (f : Int → Int) (T : List It) : (srt f T).Perm T := by have := foldl_perm f T []; rw [List.append_nil] at this; exact this
theorem srt_length (f : Int → Int) (T : List It) : (srt f T).length = T.length := (srt_perm f T).length_eq
/-- The numbers of the pushes rise. -/
def Rise (T : List It) : Prop := T.Pairwise (fun a b => a.ord < b.ord)
theorem srt_srt {f : Int → Int} : ∀ {T : List It}, Rise T → Srt f (srt f T) := by
  intro T
  suffices h : ∀ (n : Nat) (T : List It), T.length = n → Rise T → Srt f (srt f T) from fun hT => h _ T rfl hT
  intro n
  induction n with
  | zero => intro T h _; rw [List.length_eq_zero_iff.1 h]; simp [srt, Srt]
  | succ n ih =>
    intro T h hT
    have hne : T ≠ [] := by intro e; subst e; simp at h
    have e := List.dropLast_concat_getLast hne
    have hT' : Rise (T.dropLast ++ [T.getLast hne]) := by rw [e]; exact hT
    rw [← e, srt_snoc]
    obtain ⟨p1, _, p3⟩ := List.pairwise_append.1 hT'
    refine ins_srt (ih _ (by simp [h]) p1) (fun y hy => p3 y ?_ _ (by simp))
    exact (srt_perm f _).mem_iff.1 hy

/-- A heap and the list in the order of popping. -/
structure Same (f : Int → Int) (L S : List It) : Prop where
  heap : Hp.Heap (lt_ f) L
  perm : L.Perm S
  srt : Srt f S
theorem Same.nil (f : Int → Int) : Same f [] [] := ⟨Hp.Heap.nil, .refl _, List.Pairwise.nil⟩
theorem Same.length {f : Int → Int} {L S : List It} (h : Same f L S) : L.length = S.length := h.perm.length_eq
theorem Same.push {f : Int → Int} {L S : List It} {x : It} {k : Nat} (h : Same f L S) (hx : ∀ y ∈ S, y.ord < x.ord) (hk : Hp.Stops (lt_ f) L x k) : Same f (Hp.pushK L x k) (ins f x S) :=
  ⟨Hp.pushK_heap (ord_lt f) h.heap hk, (Hp.pushK_perm k (fun i hi => (hk.1 i hi).1)).trans ((List.Perm.cons x h.perm).trans (ins_perm f x S).symm), ins_srt h.srt hx⟩
theorem at_mem {L : List It} {i : Nat} (h : i < L.length) : at_ L i ∈ L := by rw [at_lt h]; exact List.getElem_mem h
theorem mem_at {L : List It} {x : It} (h : x ∈ L) : ∃ i, i < L.length ∧ at_ L i = x := by
  obtain ⟨i, hi, e⟩ := List.getElem_of_mem h
  exact ⟨i, hi, by rw [at_lt hi]; exact e⟩
theorem Same.first {f : Int → Int} {L S : List It} {s : It} (h : Same f L (s :: S)) : at_ L 0 = s := by
  have hl := h.length
  simp only [List.length_cons] at hl
  have m1 : at_ L 0 ∈ s :: S := h.perm.mem_iff.1 (at_mem (by omega))
  rcases List.mem_cons.1 m1 with e | m1
  · exact e
  · have b := (List.pairwise_cons.1 h.srt).1 _ m1
    obtain ⟨i, hi, e⟩ := mem_at (h.perm.mem_iff.2 (by simp) : s ∈ L)
    have := Hp.Heap.first (ord_lt f) h.heap i hi
    rw [e, b] at this
    cases this
theorem Same.pop {f : Int → Int} {L S : List It} {s : It} {k : Nat} (h : Same f L (s :: S)) (hk : Hp.Ends (lt_ f) L S.length k) : Same f (Hp.popK (lt_ f) L S.length k) S := by
  have hl := h.length
  simp only [List.length_cons] at hl
  refine ⟨Hp.popK_heap (ord_lt f) hl h.heap hk, ?_, (List.pairwise_cons.1 h.srt).2⟩
  have := (Hp.popK_perm hl hk.1).trans h.perm
  rw [h.first] at this
  exact this.cons_inv

end Go.Proofs.Ytekdjjfbkcgmhaa
