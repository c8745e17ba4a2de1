/-
  What is proved here: a binary heap in plain mathematics (lists, no program): pushing and popping keep the heap's order and its elements, and the first element is the least.
-/
namespace Go.Proofs.Ytekdjjfbkcgmhaa.Hp
set_option linter.unusedSectionVars false

section
variable {α : Type} [Inhabited α]

/-- The element at a place. -/
def at_ (L : List α) (i : Nat) : α := L.getD i default
theorem at_lt {L : List α} {i : Nat} (h : i < L.length) : at_ L i = L[i] := by simp [at_, h]
theorem at_set_eq {L : List α} {i : Nat} (h : i < L.length) (x : α) : at_ (L.set i x) i = x := by simp [at_, h]
theorem at_set_ne {L : List α} {i j : Nat} (h : i ≠ j) (x : α) : at_ (L.set i x) j = at_ L j := by simp [at_, List.getD, h]
theorem at_append_left {L M : List α} {i : Nat} (h : i < L.length) : at_ (L ++ M) i = at_ L i := by simp [at_, List.getD, List.getElem?_append_left h]
theorem at_append_right (L : List α) (x : α) : at_ (L ++ [x]) L.length = x := by simp [at_, List.getD]
theorem at_take {L : List α} {n i : Nat} (h : i < n) : at_ (L.take n) i = at_ L i := by simp [at_, List.getD, h]

/-- The order: 'lt a b' says that a comes before b. -/
structure Ord (lt : α → α → Bool) : Prop where
  trans : ∀ a b c, lt b a = false → lt c b = false → lt c a = false
  asymm : ∀ a b, lt a b = true → lt b a = false

variable {lt : α → α → Bool}
theorem Ord.irrefl (o : Ord lt) (a : α) : lt a a = false := by
  cases c : lt a a
  · rfl
  · rw [o.asymm _ _ c] at c; cases c

/-- No element comes before its parent. -/
def Heap (lt : α → α → Bool) (L : List α) : Prop := ∀ i, 0 < i → i < L.length → lt (at_ L i) (at_ L ((i - 1) / 2)) = false

theorem Heap.nil : Heap lt ([] : List α) := fun i _ h => by simp at h
theorem Heap.first (o : Ord lt) {L : List α} (h : Heap lt L) : ∀ i, i < L.length → lt (at_ L i) (at_ L 0) = false := by
  intro i
  induction i using Nat.strongRecOn with
  | _ i ih =>
    intro hi
    by_cases h0 : i = 0
    · subst h0; exact o.irrefl _
    · exact o.trans _ _ _ (ih ((i - 1) / 2) (by omega) (by omega)) (h i (by omega) hi)

theorem perm_set {L : List α} {i : Nat} (h : i < L.length) (x : α) : (at_ L i :: L.set i x).Perm (x :: L) := by
  rw [at_lt h]
  induction L generalizing i with
  | nil => simp at h
  | cons a L ih =>
    cases i with
    | zero => simp only [List.set_cons_zero, List.getElem_cons_zero]; exact List.Perm.swap _ _ _
    | succ i =>
      simp only [List.set_cons_succ, List.getElem_cons_succ]
      have := ih (i := i) (by simpa using h)
      exact (List.Perm.swap _ _ _).trans ((List.Perm.cons a this).trans (List.Perm.swap _ _ _))
theorem perm_swap {L : List α} {i j : Nat} (hi : i < L.length) (hj : j < L.length) (hne : i ≠ j) : ((L.set i (at_ L j)).set j (at_ L i)).Perm L := by
  have h1 := perm_set hi (at_ L j)
  have h2 := perm_set (L := L.set i (at_ L j)) (i := j) (by simpa using hj) (at_ L i)
  rw [at_set_ne hne] at h2
  exact (List.Perm.cons_inv (h2.trans h1))

/-- The places on the way from n to the top. -/
def anc (n : Nat) : Nat → Nat
  | 0 => n
  | j + 1 => (anc n j - 1) / 2
theorem anc_le (n j : Nat) : anc n j ≤ n := by
  induction j with
  | zero => exact Nat.le_refl _
  | succ j ih => simp only [anc]; omega
theorem anc_lt {n j : Nat} (h : 0 < anc n j) : anc n (j + 1) < anc n j := by simp only [anc]; omega
theorem anc_anti {n : Nat} : ∀ (j d : Nat), anc n (j + d) ≤ anc n j := by
  intro j d
  induction d with
  | zero => exact Nat.le_refl _
  | succ d ih => have : anc n (j + (d + 1)) = (anc n (j + d) - 1) / 2 := rfl; omega
theorem anc_strict {n i j k : Nat} (hk : ∀ i, i < k → 0 < anc n i) (hij : i < j) (hj : j ≤ k) : anc n j < anc n i := by
  have h1 := anc_lt (hk i (by omega))
  have h2 := anc_anti (n := n) (i + 1) (j - (i + 1))
  rw [show i + 1 + (j - (i + 1)) = j by omega] at h2
  omega

/-- Elements move down the way. -/
def shiftUp (L : List α) (x : α) : Nat → List α
  | 0 => L ++ [x]
  | j + 1 => (shiftUp L x j).set (anc L.length j) (at_ L (anc L.length (j + 1)))
def pushK (L : List α) (x : α) (k : Nat) : List α := (shiftUp L x k).set (anc L.length k) x
/-- k places are passed. -/
def Passes (lt : α → α → Bool) (L : List α) (x : α) (k : Nat) : Prop := ∀ i, i < k → 0 < anc L.length i ∧ lt x (at_ L (anc L.length (i + 1))) = true
/-- .. and no more. -/
def Stops (lt : α → α → Bool) (L : List α) (x : α) (k : Nat) : Prop := Passes lt L x k ∧ (anc L.length k = 0 ∨ lt x (at_ L (anc L.length (k + 1))) = false)

theorem shiftUp_length (L : List α) (x : α) (j : Nat) : (shiftUp L x j).length = L.length + 1 := by
  induction j with
  | zero => simp [shiftUp]
  | succ j ih => simp [shiftUp, ih]
theorem pushK_length (L : List α) (x : α) (k : Nat) : (pushK L x k).length = L.length + 1 := by simp [pushK, shiftUp_length]
/-- An element above the place that is free has not moved. -/
theorem shiftUp_at {L : List α} {x : α} (j : Nat) (hj : ∀ i, i < j → 0 < anc L.length i) (p : Nat) (hp : p < L.length) (hn : ∀ i, i < j → p ≠ anc L.length i) : at_ (shiftUp L x j) p = at_ L p := by
  induction j with
  | zero => exact at_append_left hp
  | succ j ih =>
    simp only [shiftUp]
    rw [at_set_ne (Ne.symm (hn j (by omega)))]
    exact ih (fun i hi => hj i (by omega)) (fun i hi => hn i (by omega))
theorem shiftUp_path {L : List α} {x : α} (j : Nat) (hj : ∀ i, i < j → 0 < anc L.length i) (i : Nat) (hi : i < j) : at_ (shiftUp L x j) (anc L.length i) = at_ L (anc L.length (i + 1)) := by
  induction j with
  | zero => omega
  | succ j ih =>
    simp only [shiftUp]
    by_cases h : i = j
    · subst h
      exact at_set_eq (by rw [shiftUp_length]; have := anc_le L.length i; omega) _
    · have hs := anc_strict (n := L.length) (k := j) (fun i hi => hj i (by omega)) (show i < j by omega) (Nat.le_refl _)
      rw [at_set_ne (by omega)]
      exact ih (fun i hi => hj i (by omega)) (by omega)
theorem pushK_perm {L : List α} {x : α} (k : Nat) (hk : ∀ i, i < k → 0 < anc L.length i) : (pushK L x k).Perm (x :: L) := by
  induction k with
  | zero =>
    simp only [pushK, shiftUp, anc]
    rw [List.set_append_right _ _ (Nat.le_refl _)]
    simp only [Nat.sub_self, List.set_cons_zero]
    exact List.perm_append_comm (l₁ := L) (l₂ := [x])
  | succ j ih =>
    have h1 := hk j (by omega)
    have h2 := anc_lt h1
    have hle := anc_le L.length j
    refine List.Perm.trans ?_ (ih (fun i hi => hk i (by omega)))
    have hlen := pushK_length L x j
    have e1 : at_ (pushK L x j) (anc L.length j) = x := at_set_eq (by rw [shiftUp_length]; omega) _
    have e2 : at_ (pushK L x j) (anc L.length (j + 1)) = at_ L (anc L.length (j + 1)) := by
      unfold pushK
      rw [at_set_ne (by omega)]
      refine shiftUp_at j (fun i hi => hk i (by omega)) _ (by omega) (fun i hi => ?_)
      have := anc_strict (n := L.length) (k := j + 1) hk (show i < j + 1 by omega) (Nat.le_refl _)
      omega
    have hsw := perm_swap (L := pushK L x j) (i := anc L.length j) (j := anc L.length (j + 1)) (by omega) (by omega) (by omega)
    rw [e1, e2] at hsw
    have e3 : pushK L x (j + 1) = ((pushK L x j).set (anc L.length j) (at_ L (anc L.length (j + 1)))).set (anc L.length (j + 1)) x := by
      simp only [pushK, shiftUp, List.set_set]
    rw [e3]
    exact hsw
theorem pushK_heap (o : Ord lt) {L : List α} {x : α} {k : Nat} (hL : Heap lt L) (hk : Stops lt L x k) : Heap lt (pushK L x k) := by
  obtain ⟨hp, hs⟩ := hk
  have hpos : ∀ i, i < k → 0 < anc L.length i := fun i hi => (hp i hi).1
  have hlen := pushK_length L x k
  -- the elements of the new list
  have E1 : at_ (pushK L x k) (anc L.length k) = x := at_set_eq (by rw [shiftUp_length]; have := anc_le L.length k; omega) _
  have E2 : ∀ j, j < k → at_ (pushK L x k) (anc L.length j) = at_ L (anc L.length (j + 1)) := by
    intro j hj
    have := anc_strict (n := L.length) hpos hj (Nat.le_refl _)
    unfold pushK
    rw [at_set_ne (by omega)]
    exact shiftUp_path k hpos j hj
  have E3 : ∀ p, p < L.length → (∀ j, j ≤ k → p ≠ anc L.length j) → at_ (pushK L x k) p = at_ L p := by
    intro p hp' hn
    unfold pushK
    rw [at_set_ne (Ne.symm (hn k (Nat.le_refl _)))]
    exact shiftUp_at k hpos p hp' (fun i hi => hn i (by omega))
  intro i h0 hi
  rw [hlen] at hi
  by_cases onp : ∃ j, j ≤ k ∧ i = anc L.length j
  · obtain ⟨j, hj, rfl⟩ := onp
    have ep : (anc L.length j - 1) / 2 = anc L.length (j + 1) := rfl
    have hle := anc_le L.length j
    rw [ep]
    by_cases hjk : j = k
    · subst hjk
      rw [E1]
      have hlt := anc_lt h0
      rw [E3 _ (by omega) (fun i hi => by
        have := anc_anti (n := L.length) i (j - i)
        rw [show i + (j - i) = j by omega] at this
        omega)]
      rcases hs with hs | hs
      · omega
      · exact hs
    · rw [E2 j (by omega)]
      have hlt := anc_lt h0
      by_cases hjk' : j + 1 = k
      · rw [hjk', E1]
        have := (hp j (by omega)).2
        rw [hjk'] at this
        exact o.asymm _ _ this
      · rw [E2 (j + 1) (by omega)]
        exact hL _ (hpos (j + 1) (by omega)) (by omega)
  · have hn : ∀ j, j ≤ k → i ≠ anc L.length j := fun j hj e => onp ⟨j, hj, e⟩
    have hi' : i < L.length := by have := hn 0 (Nat.zero_le _); simp only [anc] at this; omega
    rw [E3 i hi' hn]
    have hLi := hL i h0 hi'
    by_cases ponp : ∃ j, j ≤ k ∧ (i - 1) / 2 = anc L.length j
    · obtain ⟨j, hj, e⟩ := ponp
      rw [e] at hLi ⊢
      by_cases hjk : j = k
      · subst hjk
        rw [E1]
        cases j with
        | zero => simp only [anc] at e; omega
        | succ j =>
          exact o.trans _ _ _ (o.asymm _ _ (hp j (by omega)).2) hLi
      · rw [E2 j (by omega)]
        have h1 := hpos j (by omega)
        exact o.trans _ _ _ (hL _ h1 (by omega)) hLi
    · rw [E3 _ (by omega) (fun j hj e => ponp ⟨j, hj, e⟩)]
      exact hLi

/-! Popping. -/

/-- The child that comes first, among the first n places. -/
def cho (lt : α → α → Bool) (L : List α) (n a : Nat) : Nat := if 2 * a + 1 + 1 < n ∧ lt (at_ L (2 * a + 1 + 1)) (at_ L (2 * a + 1)) = true then 2 * a + 1 + 1 else 2 * a + 1
theorem cho_cases (lt : α → α → Bool) (L : List α) (n a : Nat) : (cho lt L n a = 2 * a + 1 ∧ (2 * a + 2 < n → lt (at_ L (2 * a + 2)) (at_ L (2 * a + 1)) = false)) ∨ (cho lt L n a = 2 * a + 2 ∧ 2 * a + 2 < n ∧ lt (at_ L (2 * a + 2)) (at_ L (2 * a + 1)) = true) := by
  unfold cho
  split
  · rename_i h; exact .inr ⟨rfl, h.1, h.2⟩
  · rename_i h
    refine .inl ⟨rfl, fun h1 => ?_⟩
    cases c : lt (at_ L (2 * a + 2)) (at_ L (2 * a + 1))
    · rfl
    · exact absurd ⟨h1, c⟩ h
/-- The places on the way down. -/
def des (lt : α → α → Bool) (L : List α) (n : Nat) : Nat → Nat
  | 0 => 0
  | j + 1 => cho lt L n (des lt L n j)
theorem des_succ (L : List α) (n j : Nat) : 2 * des lt L n j + 1 ≤ des lt L n (j + 1) ∧ des lt L n (j + 1) ≤ 2 * des lt L n j + 2 := by
  have : des lt L n (j + 1) = cho lt L n (des lt L n j) := rfl
  rcases cho_cases lt L n (des lt L n j) with h | h <;> omega
theorem des_mono (L : List α) (n : Nat) : ∀ (j d : Nat), 0 < d → des lt L n j < des lt L n (j + d) := by
  intro j d
  induction d with
  | zero => omega
  | succ d ih =>
    intro _
    have h1 := (des_succ (lt := lt) L n (j + d)).1
    by_cases h : d = 0
    · subst h; simp only [Nat.add_zero] at h1; rw [show j + (0 + 1) = j + 1 by omega]; omega
    · have := ih (by omega)
      rw [show j + (d + 1) = j + d + 1 by omega]
      omega
theorem des_strict (L : List α) (n : Nat) {i j : Nat} (h : i < j) : des lt L n i < des lt L n j := by
  have := des_mono (lt := lt) L n i (j - i) (by omega)
  rw [show i + (j - i) = j by omega] at this
  exact this

/-- Elements move up the way. -/
def shiftDown (lt : α → α → Bool) (L : List α) (n : Nat) : Nat → List α
  | 0 => L
  | j + 1 => (shiftDown lt L n j).set (des lt L n j) (at_ L (des lt L n (j + 1)))
def popK (lt : α → α → Bool) (L : List α) (n k : Nat) : List α := ((shiftDown lt L n k).set (des lt L n k) (at_ L n)).take n
def Sinks (lt : α → α → Bool) (L : List α) (n k : Nat) : Prop := ∀ i, i < k → des lt L n (i + 1) < n ∧ lt (at_ L (des lt L n (i + 1))) (at_ L n) = true
def Ends (lt : α → α → Bool) (L : List α) (n k : Nat) : Prop := Sinks lt L n k ∧ (n ≤ 2 * des lt L n k + 1 ∨ lt (at_ L (des lt L n (k + 1))) (at_ L n) = false)

theorem shiftDown_length (L : List α) (n j : Nat) : (shiftDown lt L n j).length = L.length := by
  induction j with
  | zero => rfl
  | succ j ih => simp [shiftDown, ih]
theorem shiftDown_at {L : List α} {n : Nat} (j p : Nat) (hn : ∀ i, i < j → p ≠ des lt L n i) : at_ (shiftDown lt L n j) p = at_ L p := by
  induction j with
  | zero => rfl
  | succ j ih =>
    simp only [shiftDown]
    rw [at_set_ne (Ne.symm (hn j (by omega)))]
    exact ih (fun i hi => hn i (by omega))
theorem shiftDown_path {L : List α} {n : Nat} (j i : Nat) (hi : i < j) (hl : des lt L n i < L.length) : at_ (shiftDown lt L n j) (des lt L n i) = at_ L (des lt L n (i + 1)) := by
  induction j with
  | zero => omega
  | succ j ih =>
    simp only [shiftDown]
    by_cases h : i = j
    · subst h
      exact at_set_eq (by rw [shiftDown_length]; exact hl) _
    · have := des_strict (lt := lt) L n (show i < j by omega)
      rw [at_set_ne (by omega)]
      exact ih (by omega)
theorem des_bound {L : List α} {n k : Nat} (h : Sinks lt L n k) (hn : 0 < n) : ∀ i, i ≤ k → des lt L n i < n := by
  intro i hi
  cases i with
  | zero => exact hn
  | succ i => exact (h i (by omega)).1
theorem popK_length {L : List α} {n : Nat} (k : Nat) (h : L.length = n + 1) : (popK lt L n k).length = n := by
  simp [popK, shiftDown_length, h]
theorem popK_perm {L : List α} {n k : Nat} (hL : L.length = n + 1) (h : Sinks lt L n k) : (at_ L 0 :: popK lt L n k).Perm L := by
  have eL : L.Perm (at_ L n :: L.take n) := by
    have e : L.take n ++ [at_ L n] = L := by
      rw [at_lt (by omega), ← List.take_succ_eq_append_getElem (by omega)]
      exact List.take_of_length_le (by omega)
    have h2 : (L.take n ++ [at_ L n]).Perm (at_ L n :: L.take n) := List.perm_append_comm (l₁ := L.take n) (l₂ := [at_ L n])
    rw [e] at h2
    exact h2
  by_cases hn : n = 0
  · subst hn
    have : popK lt L 0 k = [] := by
      have := popK_length (lt := lt) k hL
      exact List.eq_nil_of_length_eq_zero this
    rw [this]
    have h3 := eL.symm
    simpa using h3
  have hn' : 0 < n := by omega
  refine List.Perm.trans ?_ eL.symm
  -- all steps are exchanges
  have key : ∀ j, j ≤ k → (popK lt L n j).Perm ((L.take n).set 0 (at_ L n)) := by
    intro j
    induction j with
    | zero =>
      intro _
      have : popK lt L n 0 = (L.take n).set 0 (at_ L n) := by
        simp only [popK, shiftDown, des]
        rw [List.take_set]
      rw [this]
    | succ j ih =>
      intro hj
      refine List.Perm.trans ?_ (ih (by omega))
      have hb := des_bound (lt := lt) h hn'
      have b1 := hb j (by omega)
      have b2 := hb (j + 1) (by omega)
      have hs := des_strict (lt := lt) L n (show j < j + 1 by omega)
      have hl := popK_length (lt := lt) j hL
      have e1 : at_ (popK lt L n j) (des lt L n j) = at_ L n := by
        unfold popK
        rw [at_take b1]
        exact at_set_eq (by rw [shiftDown_length]; omega) _
      have e2 : at_ (popK lt L n j) (des lt L n (j + 1)) = at_ L (des lt L n (j + 1)) := by
        unfold popK
        rw [at_take b2, at_set_ne (by omega)]
        exact shiftDown_at j _ (fun i hi => by have := des_strict (lt := lt) L n (show i < j + 1 by omega); omega)
      have hsw := perm_swap (L := popK lt L n j) (i := des lt L n j) (j := des lt L n (j + 1)) (by omega) (by omega) (by omega)
      rw [e1, e2] at hsw
      have e3 : popK lt L n (j + 1) = ((popK lt L n j).set (des lt L n j) (at_ L (des lt L n (j + 1)))).set (des lt L n (j + 1)) (at_ L n) := by
        simp only [popK, shiftDown, List.take_set, List.set_set]
      rw [e3]
      exact hsw
  have h0 := perm_set (L := L.take n) (i := 0) (by simp; omega) (at_ L n)
  rw [at_take hn'] at h0
  exact (List.Perm.cons _ (key k (Nat.le_refl _))).trans h0
theorem popK_heap (o : Ord lt) {L : List α} {n k : Nat} (hl : L.length = n + 1) (hL : Heap lt L) (hk : Ends lt L n k) : Heap lt (popK lt L n k) := by
  obtain ⟨hp, hs⟩ := hk
  have hlen := popK_length (lt := lt) k hl
  intro i h0 hi
  rw [hlen] at hi
  have hn : 0 < n := by omega
  have hb := des_bound (lt := lt) hp hn
  have E1 : at_ (popK lt L n k) (des lt L n k) = at_ L n := by
    unfold popK
    rw [at_take (hb k (Nat.le_refl _))]
    exact at_set_eq (by rw [shiftDown_length]; have := hb k (Nat.le_refl _); omega) _
  have E2 : ∀ j, j < k → at_ (popK lt L n k) (des lt L n j) = at_ L (des lt L n (j + 1)) := by
    intro j hj
    have := des_strict (lt := lt) L n hj
    have b := hb j (by omega)
    unfold popK
    rw [at_take b, at_set_ne (by omega)]
    exact shiftDown_path k j hj (by omega)
  have E3 : ∀ p, p < n → (∀ j, j ≤ k → p ≠ des lt L n j) → at_ (popK lt L n k) p = at_ L p := by
    intro p hp' hne
    unfold popK
    rw [at_take hp', at_set_ne (Ne.symm (hne k (Nat.le_refl _)))]
    exact shiftDown_at k p (fun i hi => hne i (by omega))
  have par : ∀ j, (des lt L n (j + 1) - 1) / 2 = des lt L n j := by
    intro j
    have := des_succ (lt := lt) L n j
    omega
  -- the other child does not come before the chosen one
  have oth : ∀ a c, (c - 1) / 2 = a → 0 < c → c < n → lt (at_ L c) (at_ L (cho lt L n a)) = false := by
    intro a c hc hc0 hcn
    have hcc : c = 2 * a + 1 ∨ c = 2 * a + 2 := by omega
    rcases cho_cases lt L n a with ⟨e, f⟩ | ⟨e, f1, f2⟩ <;> rw [e] <;> rcases hcc with rfl | rfl
    · exact o.irrefl _
    · exact f hcn
    · exact o.asymm _ _ f2
    · exact o.irrefl _
  by_cases onp : ∃ j, j ≤ k ∧ i = des lt L n j
  · obtain ⟨j, hj, rfl⟩ := onp
    cases j with
    | zero => simp only [des] at h0; omega
    | succ j =>
      rw [par j, E2 j (by omega)]
      by_cases hjk : j + 1 = k
      · rw [hjk, E1]
        have := (hp j (by omega)).2
        rw [hjk] at this
        exact o.asymm _ _ this
      · rw [E2 (j + 1) (by omega)]
        have h1 := hL (des lt L n (j + 1 + 1)) (by have := des_succ (lt := lt) L n (j + 1); omega) (by have := hb (j + 1 + 1) (by omega); omega)
        rw [par (j + 1)] at h1
        exact h1
  · have hne : ∀ j, j ≤ k → i ≠ des lt L n j := fun j hj e => onp ⟨j, hj, e⟩
    rw [E3 i hi hne]
    have hLi := hL i h0 (by omega)
    by_cases ponp : ∃ j, j ≤ k ∧ (i - 1) / 2 = des lt L n j
    · obtain ⟨j, hj, e⟩ := ponp
      rw [e] at hLi ⊢
      have ho := oth _ i e h0 hi
      by_cases hjk : j = k
      · subst hjk
        rw [E1]
        rcases hs with hs | hs
        · omega
        · exact o.trans _ _ _ hs ho
      · rw [E2 j (by omega)]
        exact ho
    · rw [E3 _ (by omega) (fun j hj e => ponp ⟨j, hj, e⟩)]
      exact hLi

end
end Go.Proofs.Ytekdjjfbkcgmhaa.Hp
