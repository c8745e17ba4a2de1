/-
  What is proved here: sifting down in plain mathematics: an order from some place on is restored one place further up.
-/
import Derived.Test.YtekdjjfbkcgmhaaHpPlain
namespace Go.Proofs.Ytekdjjfbkcgmhaa.Hp
set_option linter.unusedSectionVars false

section
variable {α : Type} [Inhabited α] {lt : α → α → Bool}

/-- No element comes before its parent, if the parent lies at t or behind. -/
def HeapFrom (lt : α → α → Bool) (t : Nat) (L : List α) : Prop := ∀ i, 0 < i → i < L.length → t ≤ (i - 1) / 2 → lt (at_ L i) (at_ L ((i - 1) / 2)) = false
theorem heapFrom_zero {L : List α} (h : HeapFrom lt 0 L) : Heap lt L := fun i h0 hi => h i h0 hi (Nat.zero_le _)
theorem heapFrom_half (L : List α) : HeapFrom lt (L.length / 2) L := fun i h0 hi h => by omega

/-- The places on the way down from t. -/
def dt (lt : α → α → Bool) (L : List α) (t : Nat) : Nat → Nat
  | 0 => t
  | j + 1 => cho lt L L.length (dt lt L t j)
theorem dt_succ (L : List α) (t j : Nat) : 2 * dt lt L t j + 1 ≤ dt lt L t (j + 1) ∧ dt lt L t (j + 1) ≤ 2 * dt lt L t j + 2 := by
  have : dt lt L t (j + 1) = cho lt L L.length (dt lt L t j) := rfl
  rcases cho_cases lt L L.length (dt lt L t j) with h | h <;> omega
theorem dt_strict (L : List α) (t : Nat) {i j : Nat} (h : i < j) : dt lt L t i < dt lt L t j := by
  induction j with
  | zero => omega
  | succ j ih =>
    have h1 := (dt_succ (lt := lt) L t j).1
    by_cases e : i = j
    · subst e; omega
    · have := ih (by omega); omega
theorem dt_ge (L : List α) (t j : Nat) : t ≤ dt lt L t j := by
  cases j with
  | zero => exact Nat.le_refl _
  | succ j => exact Nat.le_of_lt (dt_strict (lt := lt) L t (Nat.succ_pos j))
/-- Elements move up the way. -/
def shT (lt : α → α → Bool) (L : List α) (t : Nat) : Nat → List α
  | 0 => L
  | j + 1 => (shT lt L t j).set (dt lt L t j) (at_ L (dt lt L t (j + 1)))
def siftK (lt : α → α → Bool) (L : List α) (t k : Nat) : List α := (shT lt L t k).set (dt lt L t k) (at_ L t)
def SinksT (lt : α → α → Bool) (L : List α) (t k : Nat) : Prop := ∀ i, i < k → dt lt L t (i + 1) < L.length ∧ lt (at_ L (dt lt L t (i + 1))) (at_ L t) = true
def EndsT (lt : α → α → Bool) (L : List α) (t k : Nat) : Prop := SinksT lt L t k ∧ (L.length ≤ 2 * dt lt L t k + 1 ∨ lt (at_ L (dt lt L t (k + 1))) (at_ L t) = false)
theorem shT_length (L : List α) (t j : Nat) : (shT lt L t j).length = L.length := by
  induction j with
  | zero => rfl
  | succ j ih => simp [shT, ih]
theorem siftK_length (L : List α) (t k : Nat) : (siftK lt L t k).length = L.length := by simp [siftK, shT_length]
theorem shT_at {L : List α} {t : Nat} (j p : Nat) (hn : ∀ i, i < j → p ≠ dt lt L t i) : at_ (shT lt L t j) p = at_ L p := by
  induction j with
  | zero => rfl
  | succ j ih =>
    simp only [shT]
    rw [at_set_ne (Ne.symm (hn j (by omega)))]
    exact ih (fun i hi => hn i (by omega))
/-- What lies below the free place has not moved. -/
theorem shT_below {L : List α} {t : Nat} (j p : Nat) (hp : dt lt L t j < p) : at_ (shT lt L t j) p = at_ L p :=
  shT_at j p (fun i hi e => by have := dt_strict (lt := lt) L t hi; omega)
theorem shT_path {L : List α} {t : Nat} (j i : Nat) (hi : i < j) (hl : dt lt L t i < L.length) : at_ (shT lt L t j) (dt lt L t i) = at_ L (dt lt L t (i + 1)) := by
  induction j with
  | zero => omega
  | succ j ih =>
    simp only [shT]
    by_cases h : i = j
    · subst h
      exact at_set_eq (by rw [shT_length]; exact hl) _
    · have := dt_strict (lt := lt) L t (show i < j by omega)
      rw [at_set_ne (by omega)]
      exact ih (by omega)
theorem dt_bound {L : List α} {t k : Nat} (h : SinksT lt L t k) (ht : t < L.length) : ∀ i, i ≤ k → dt lt L t i < L.length := by
  intro i hi
  cases i with
  | zero => exact ht
  | succ i => exact (h i (by omega)).1
theorem sinksT_le {L : List α} {t k : Nat} (h : SinksT lt L t k) (ht : t < L.length) : k < L.length := by
  have key : ∀ j, j ≤ k → j ≤ dt lt L t j := by
    intro j
    induction j with
    | zero => intro _; omega
    | succ j ih => intro hj; have := ih (by omega); have := (dt_succ (lt := lt) L t j).1; omega
  have := key k (Nat.le_refl _)
  have := dt_bound h ht k (Nat.le_refl _)
  omega
theorem set_self {L : List α} {i : Nat} (h : i < L.length) : L.set i (at_ L i) = L := by
  rw [at_lt h]; exact List.set_getElem_self h
theorem siftK_perm {L : List α} {t k : Nat} (ht : t < L.length) (h : SinksT lt L t k) : (siftK lt L t k).Perm L := by
  have key : ∀ j, j ≤ k → (siftK lt L t j).Perm L := by
    intro j
    induction j with
    | zero =>
      intro _
      have : siftK lt L t 0 = L := set_self ht
      rw [this]
    | succ j ih =>
      intro hj
      refine List.Perm.trans ?_ (ih (by omega))
      have hb := dt_bound (lt := lt) h ht
      have b1 := hb j (by omega)
      have b2 := hb (j + 1) (by omega)
      have hs := dt_strict (lt := lt) L t (show j < j + 1 by omega)
      have hl := siftK_length (lt := lt) L t j
      have e1 : at_ (siftK lt L t j) (dt lt L t j) = at_ L t := at_set_eq (by rw [shT_length]; omega) _
      have e2 : at_ (siftK lt L t j) (dt lt L t (j + 1)) = at_ L (dt lt L t (j + 1)) := by
        unfold siftK
        rw [at_set_ne (by omega)]
        exact shT_below j _ hs
      have hsw := perm_swap (L := siftK lt L t j) (i := dt lt L t j) (j := dt lt L t (j + 1)) (by omega) (by omega) (by omega)
      rw [e1, e2] at hsw
      have e3 : siftK lt L t (j + 1) = ((siftK lt L t j).set (dt lt L t j) (at_ L (dt lt L t (j + 1)))).set (dt lt L t (j + 1)) (at_ L t) := by
        simp only [siftK, shT, List.set_set]
      rw [e3]
      exact hsw
  exact key k (Nat.le_refl _)
theorem siftK_heap (o : Ord lt) {L : List α} {t k : Nat} (ht : t < L.length) (hL : HeapFrom lt (t + 1) L) (hk : EndsT lt L t k) : HeapFrom lt t (siftK lt L t k) := by
  obtain ⟨hp, hs⟩ := hk
  have hlen := siftK_length (lt := lt) L t k
  intro i h0 hi hpar
  rw [hlen] at hi
  have hb := dt_bound (lt := lt) hp ht
  have E1 : at_ (siftK lt L t k) (dt lt L t k) = at_ L t := at_set_eq (by rw [shT_length]; exact hb k (Nat.le_refl _)) _
  have E2 : ∀ j, j < k → at_ (siftK lt L t k) (dt lt L t j) = at_ L (dt lt L t (j + 1)) := by
    intro j hj
    have := dt_strict (lt := lt) L t hj
    unfold siftK
    rw [at_set_ne (by omega)]
    exact shT_path k j hj (hb j (by omega))
  have E3 : ∀ p, (∀ j, j ≤ k → p ≠ dt lt L t j) → at_ (siftK lt L t k) p = at_ L p := by
    intro p hne
    unfold siftK
    rw [at_set_ne (Ne.symm (hne k (Nat.le_refl _)))]
    exact shT_at k p (fun i hi => hne i (by omega))
  have par : ∀ j, (dt lt L t (j + 1) - 1) / 2 = dt lt L t j := by
    intro j
    have := dt_succ (lt := lt) L t j
    omega
  have oth : ∀ a c, (c - 1) / 2 = a → 0 < c → c < L.length → lt (at_ L c) (at_ L (cho lt L L.length a)) = false := by
    intro a c hc hc0 hcn
    have hcc : c = 2 * a + 1 ∨ c = 2 * a + 2 := by omega
    rcases cho_cases lt L L.length a with ⟨e, f⟩ | ⟨e, f1, f2⟩ <;> rw [e] <;> rcases hcc with rfl | rfl
    · exact o.irrefl _
    · exact f hcn
    · exact o.asymm _ _ f2
    · exact o.irrefl _
  by_cases onp : ∃ j, j ≤ k ∧ i = dt lt L t j
  · obtain ⟨j, hj, rfl⟩ := onp
    cases j with
    | zero => simp only [dt] at h0 hpar; omega
    | succ j =>
      rw [par j, E2 j (by omega)]
      by_cases hjk : j + 1 = k
      · rw [hjk, E1]
        have := (hp j (by omega)).2
        rw [hjk] at this
        exact o.asymm _ _ this
      · rw [E2 (j + 1) (by omega)]
        have h1 := hL (dt lt L t (j + 1 + 1)) (by have := dt_succ (lt := lt) L t (j + 1); omega) (hb (j + 1 + 1) (by omega)) (by rw [par (j + 1)]; have := dt_strict (lt := lt) L t (Nat.succ_pos j); simp only [dt] at this; omega)
        rw [par (j + 1)] at h1
        exact h1
  · have hne : ∀ j, j ≤ k → i ≠ dt lt L t j := fun j hj e => onp ⟨j, hj, e⟩
    rw [E3 i hne]
    by_cases ponp : ∃ j, j ≤ k ∧ (i - 1) / 2 = dt lt L t j
    · obtain ⟨j, hj, e⟩ := ponp
      have ho := oth _ i e h0 hi
      rw [e]
      by_cases hjk : j = k
      · subst hjk
        rw [E1]
        rcases hs with hs | hs
        · omega
        · exact o.trans _ _ _ hs ho
      · rw [E2 j (by omega)]
        exact ho
    · have hne2 : ∀ j, j ≤ k → (i - 1) / 2 ≠ dt lt L t j := fun j hj e => ponp ⟨j, hj, e⟩
      rw [E3 _ hne2]
      have := hne2 0 (Nat.zero_le _)
      simp only [dt] at this
      exact hL i h0 hi (by omega)

end
end Go.Proofs.Ytekdjjfbkcgmhaa.Hp
