/-
  What is proved here: the result of every operator grows with its operands; the bounds of sums, differences, products and quotients are values at members (plain mathematics, no program).
-/
import Derived.Test.YtjkjcnamlankoaaIvSound2
namespace Go.Proofs.Ytjkjcnamlankoaa
open Go.RowKit
set_option linter.unusedVariables false
set_option linter.unusedSimpArgs false
set_option linter.unusedSectionVars false

/-- Every member of x is one of y. -/
def Sub (x y : Int × Int) : Prop := x.2 < x.1 ∨ (y.1 ≤ x.1 ∧ x.2 ≤ y.2)
theorem sub_iff (x y : Int × Int) : withinI x y = true ↔ Sub x y := by rw [within_iff]; rfl
theorem Sub.of_mem {v : Int} {z : Int × Int} (h : Mem v z) : Sub (v, v) z := .inr h
theorem hull_sub {l m : List Int} (hl : l ≠ []) (h : ∀ c ∈ l, Btw c m) : Sub (hullL l) (hullL m) := by
  obtain ⟨p, q, hp, hq, h1, h2⟩ := h _ (loL_mem hl)
  obtain ⟨p', q', hp', hq', h1', h2'⟩ := h _ (hiL_mem hl)
  have a1 := loL_le hp
  have a2 := le_hiL hq
  have a1' := loL_le hp'
  have a2' := le_hiL hq'
  have hw := hull_word l
  rcases hull_forms m with e | ⟨e, e1, e2⟩
  · rw [e]; exact .inr hw
  · have hn : hullL l = (loL l, hiL l) := by unfold hullL; rw [if_neg (by omega)]
    rw [e, hn]
    exact .inr ⟨by simp only; omega, by simp only; omega⟩
theorem corners_mem4 {f : Int → Int → Int} {x y x' y' : Int × Int} {m : List Int} (hx : x.1 ≤ x.2) (hy : y.1 ≤ y.2) (sx : x'.1 ≤ x.1 ∧ x.2 ≤ x'.2) (sy : y'.1 ≤ y.1 ∧ y.2 ≤ y'.2)
    (h : ∀ a b, Mem a x' → Mem b y' → Btw (f a b) m) : ∀ c ∈ [f x.1 y.1, f x.1 y.2, f x.2 y.1, f x.2 y.2], Btw c m := by
  intro c hc
  simp only [List.mem_cons, List.not_mem_nil, or_false] at hc
  rcases hc with rfl | rfl | rfl | rfl <;> refine h _ _ ?_ ?_ <;> unfold Mem <;> omega
theorem divL_mem {x y x' y' : Int × Int} (hx : x.1 ≤ x.2) (hy : y.1 ≤ y.2) (sx : x'.1 ≤ x.1 ∧ x.2 ≤ x'.2) (sy : y'.1 ≤ y.1 ∧ y.2 ≤ y'.2) : ∀ c ∈ divL x y, Btw c (divL x' y') := by
  intro c hc
  unfold divL at hc
  rcases List.mem_append.1 hc with hc | hc
  · split at hc
    · simp only [divC, List.mem_cons, List.not_mem_nil, or_false] at hc
      rcases hc with rfl | rfl | rfl | rfl <;> refine div_corners ?_ ?_ ?_ <;> (try unfold Mem) <;> (try simp only) <;> omega
    · cases hc
  · split at hc
    · simp only [divC, List.mem_cons, List.not_mem_nil, or_false] at hc
      rcases hc with rfl | rfl | rfl | rfl <;> refine div_corners ?_ ?_ ?_ <;> (try unfold Mem) <;> (try simp only) <;> omega
    · cases hc
theorem divL_ne {x y : Int × Int} (hy : y.1 ≤ y.2) (h : ¬ (y.1 = 0 ∧ y.2 = 0)) : divL x y ≠ [] := by
  unfold divL
  by_cases c : y.1 < 0
  · rw [if_pos c]; simp [divC]
  · rw [if_pos (show 0 < y.2 by omega)]; simp [divC]

section
variable {x y x' y' : Int × Int} (hx : x.1 ≤ x.2) (hy : y.1 ≤ y.2) (sx : x'.1 ≤ x.1 ∧ x.2 ≤ x'.2) (sy : y'.1 ≤ y.1 ∧ y.2 ≤ y'.2)
include hx hy sx sy

theorem div_sub : Sub (divI x y) (divI x' y') := by
  unfold divI
  by_cases z : y.1 = 0 ∧ y.2 = 0
  · rw [if_pos z]; exact .inl (by decide)
  rw [if_neg z, if_neg (show ¬ (y'.1 = 0 ∧ y'.2 = 0) by omega)]
  by_cases o' : (x'.1 ≤ -2147483648 ∧ -2147483648 ≤ x'.2) ∧ (y'.1 ≤ -1 ∧ -1 ≤ y'.2)
  · rw [if_pos o']
    split
    · exact .inr ⟨Int.le_refl _, Int.le_refl _⟩
    · exact .inr (hull_word _)
  · rw [if_neg o', if_neg (by omega)]
    exact hull_sub (divL_ne hy z) (divL_mem hx hy sx sy)
theorem mod_sub : Sub (modI x y) (modI x' y') := by
  unfold modI
  by_cases z : y.1 = 0 ∧ y.2 = 0
  · rw [if_pos z]; exact .inl (by decide)
  rw [if_neg z, if_neg (show ¬ (y'.1 = 0 ∧ y'.2 = 0) by omega)]
  have hm : modM y ≤ modM y' := by unfold modM; omega
  have hm0 : 0 ≤ modM y := by unfold modM; omega
  generalize modM y = m at *
  generalize modM y' = m' at *
  right
  simp only
  constructor
  · (repeat' split) <;> omega
  · (repeat' split) <;> omega
theorem bit_sub {op : Int} (hop : op = 11 ∨ op = 12 ∨ op = 13) (wx : WI x) (wy : WI y) (wx' : WI x') (wy' : WI y') : Sub (bitI op x y) (bitI op x' y') := by
  unfold WI W32 at wx wy wx' wy'
  have e : ∀ z : Int × Int, -2147483648 ≤ z.1 → z.2 ≤ 2147483647 → Sub z (-2147483648, 2147483647) := fun z h1 h2 => .inr ⟨h1, h2⟩
  have mo := onesI_mono (n := max x.2 y.2) (m := max x'.2 y'.2) (by omega)
  rcases hop with rfl | rfl | rfl
  · unfold bitI
    simp only [show ¬ ((11 : Int) = 12) by decide, show ¬ ((11 : Int) = 13) by decide, false_and, if_false, true_and]
    (repeat' split) <;> (right; simp only; omega)
  · unfold bitI
    simp only [show ¬ ((12 : Int) = 11) by decide, show ¬ ((12 : Int) = 13) by decide, false_and, if_false, true_and]
    by_cases c : 0 ≤ x.1 ∧ 0 ≤ y.1
    · have ob := onesI_bd (n := max x.2 y.2) (by omega) (by omega)
      rw [if_pos c]
      (repeat' split) <;> (right; simp only; omega)
    · rw [if_neg c]
      (repeat' split) <;> (right; simp only; omega)
  · unfold bitI
    simp only [show ¬ ((13 : Int) = 11) by decide, show ¬ ((13 : Int) = 12) by decide, false_and, if_false, true_and]
    by_cases c : 0 ≤ x.1 ∧ 0 ≤ y.1
    · have ob := onesI_bd (n := max x.2 y.2) (by omega) (by omega)
      rw [if_pos c]
      (repeat' split) <;> (right; simp only; omega)
    · rw [if_neg c]
      (repeat' split) <;> (right; simp only; omega)
theorem sh_sub {op : Int} (hop : op = 14 ∨ op = 15) (wx : WI x) (wx' : WI x') : Sub (shI op x y) (shI op x' y') := by
  unfold shI
  rcases hop with rfl | rfl
  · rw [if_pos rfl, if_pos rfl]
    by_cases s' : y'.1 = y'.2
    · have e1 : y.1 = y.2 := by omega
      have e2 : y.1 = y'.1 := by omega
      rw [if_pos s', if_pos e1, e2]
      refine hull_sub (by simp) fun c hc => ?_
      simp only [List.mem_cons, List.not_mem_nil, or_false] at hc
      rcases hc with rfl | rfl
      · exact shl_corners _ ⟨by omega, by omega⟩
      · exact shl_corners _ ⟨by omega, by omega⟩
    · rw [if_neg s']
      split
      · exact .inr (hull_word _)
      · exact .inr ⟨Int.le_refl _, Int.le_refl _⟩
  · simp only [show ¬ ((15 : Int) = 14) by decide, if_false]
    by_cases s' : y'.1 = y'.2
    · have e1 : y.1 = y.2 := by omega
      have e2 : y.1 = y'.1 := by omega
      rw [if_pos s', if_pos e1, e2]
      have hp := pow_pos' (y'.1 % 32).toNat
      exact .inr ⟨Int.ediv_le_ediv hp sx.1, Int.ediv_le_ediv hp sx.2⟩
    · rw [if_neg s']
      by_cases s : y.1 = y.2
      · rw [if_pos s]
        have p1 := shr_bd x.1 (y.1 % 32).toNat
        have p2 := shr_bd x.2 (y.1 % 32).toNat
        generalize x.1 / 2 ^ (y.1 % 32).toNat = r1 at *
        generalize x.2 / 2 ^ (y.1 % 32).toNat = r2 at *
        right
        simp only
        constructor
        · split <;> omega
        · split <;> omega
      · rw [if_neg s]
        right
        simp only
        constructor
        · (repeat' split) <;> omega
        · (repeat' split) <;> omega
theorem log_sub {op : Int} (hop : op = 22 ∨ op = 23) : Sub (logI op x y) (logI op x' y') := by
  have h1 : has0 x = true → has0 x' = true := by intro h; simp [has0] at *; omega
  have h2 : has0 y = true → has0 y' = true := by intro h; simp [has0] at *; omega
  have h3 : is0 x' = true → is0 x = true := by intro h; simp [is0] at *; omega
  have h4 : is0 y' = true → is0 y = true := by intro h; simp [is0] at *; omega
  have h5 : is0 x = true → has0 x = true := by intro h; simp [is0, has0] at *; omega
  have h6 : is0 y = true → has0 y = true := by intro h; simp [is0, has0] at *; omega
  rcases hop with rfl | rfl
  · unfold logI
    rw [if_pos rfl, if_pos rfl]
    cases c1 : has0 x <;> cases c2 : has0 y <;> cases c3 : is0 x <;> cases c4 : is0 y <;> cases c5 : has0 x' <;> cases c6 : has0 y' <;> cases c7 : is0 x' <;> cases c8 : is0 y' <;> simp_all [Sub, trI]
  · unfold logI
    rw [if_neg (by decide), if_neg (by decide)]
    cases c1 : has0 x <;> cases c2 : has0 y <;> cases c3 : is0 x <;> cases c4 : is0 y <;> cases c5 : has0 x' <;> cases c6 : has0 y' <;> cases c7 : is0 x' <;> cases c8 : is0 y' <;> simp_all [Sub, trI]
theorem cmp_sub {op : Int} (h1 : 16 ≤ op) (h2 : op ≤ 21) : Sub (cmpN op x y) (cmpN op x' y') := by
  have h : op = 16 ∨ op = 17 ∨ op = 18 ∨ op = 19 ∨ op = 20 ∨ op = 21 := by omega
  have key : ∀ (s n s' n' : Bool), (s' = true → s = true) → (n' = true → n = true) → ¬ (s = true ∧ n = true) → Sub (trI s n) (trI s' n') := by
    intro s n s' n'
    cases s <;> cases n <;> cases s' <;> cases n' <;> simp [Sub, trI]
  rcases h with rfl | rfl | rfl | rfl | rfl | rfl <;> refine key _ _ _ _ ?_ ?_ ?_ <;> simp <;> omega
end

/-- The result grows with the operands. -/
theorem apply_sub {op : Int} {x y x' y' : Int × Int} (wx : WI x) (wy : WI y) (wx' : WI x') (wy' : WI y') (sx : Sub x x') (sy : Sub y y') : Sub (applyI op x y) (applyI op x' y') := by
  by_cases no : op < 6 ∨ 23 < op
  · rw [applyI, if_pos no, applyI, if_pos no]; exact .inr ⟨Int.le_refl _, Int.le_refl _⟩
  by_cases ne : x.2 < x.1 ∨ y.2 < y.1
  · rw [applyI, if_neg no, if_pos ne]; exact .inl (by decide)
  have sx' : x'.1 ≤ x.1 ∧ x.2 ≤ x'.2 := by unfold Sub at sx; omega
  have sy' : y'.1 ≤ y.1 ∧ y.2 ≤ y'.2 := by unfold Sub at sy; omega
  have hx : x.1 ≤ x.2 := by omega
  have hy : y.1 ≤ y.2 := by omega
  by_cases hc : 16 ≤ op ∧ op ≤ 21
  · rw [apply_cmp op x y hc.1 hc.2 hx hy, apply_cmp op x' y' hc.1 hc.2 (by omega) (by omega)]
    exact cmp_sub hx hy sx' sy' hc.1 hc.2
  by_cases s : x.1 = x.2 ∧ y.1 = y.2
  · by_cases he : we op y.1 = 0
    · rw [show applyI op x y = (wv op x.1 y.1, wv op x.1 y.1) by rw [applyI, if_neg no, if_neg ne, if_pos s, if_pos he]]
      exact Sub.of_mem (apply_has wx' wy' ⟨by omega, by omega⟩ ⟨by omega, by omega⟩ he)
    · rw [show applyI op x y = (1, 0) by rw [applyI, if_neg no, if_neg ne, if_pos s, if_neg he]]
      exact .inl (by decide)
  · rw [applyI, if_neg no, if_neg ne, if_neg s, applyI, if_neg no, if_neg (show ¬ (x'.2 < x'.1 ∨ y'.2 < y'.1) by omega), if_neg (show ¬ (x'.1 = x'.2 ∧ y'.1 = y'.2) by omega)]
    have h : op = 6 ∨ op = 7 ∨ op = 8 ∨ op = 9 ∨ op = 10 ∨ (op = 11 ∨ op = 12 ∨ op = 13) ∨ (op = 14 ∨ op = 15) ∨ (op = 22 ∨ op = 23) := by omega
    rcases h with rfl | rfl | rfl | rfl | rfl | h | h | h
    · exact hull_sub (by simp) (corners_mem4 (f := fun a b => a + b) hx hy sx' sy' fun a b ha hb => add_corners ha hb)
    · exact hull_sub (by simp) (corners_mem4 (f := fun a b => a - b) hx hy sx' sy' fun a b ha hb => sub_corners ha hb)
    · exact hull_sub (by simp) (corners_mem4 (f := fun a b => a * b) hx hy sx' sy' fun a b ha hb => mul_corners ha hb)
    · exact div_sub hx hy sx' sy'
    · exact mod_sub hx hy sx' sy'
    · have e : ∀ x y : Int × Int, genI op x y = bitI op x y := by
        intro x y
        unfold genI
        rw [if_neg (by omega), if_neg (by omega), if_neg (by omega), if_neg (by omega), if_neg (by omega), if_pos (by omega)]
      rw [e, e]
      exact bit_sub hx hy sx' sy' h wx wy wx' wy'
    · have e : ∀ x y : Int × Int, genI op x y = shI op x y := by
        intro x y
        unfold genI
        rw [if_neg (by omega), if_neg (by omega), if_neg (by omega), if_neg (by omega), if_neg (by omega), if_neg (by omega), if_pos (by omega)]
      rw [e, e]
      exact sh_sub hx hy sx' sy' h wx wx'
    · have e : ∀ x y : Int × Int, genI op x y = logI op x y := by
        intro x y
        unfold genI
        rw [if_neg (by omega), if_neg (by omega), if_neg (by omega), if_neg (by omega), if_neg (by omega), if_neg (by omega), if_neg (by omega), if_neg (by omega)]
      rw [e, e]
      exact log_sub hx hy sx' sy' h

/-- The member of a non-empty interval that is nearest to n. -/
def clampI (x : Int × Int) (n : Int) : Int := min (max n x.1) x.2
theorem clamp_mem {x : Int × Int} (h : x.1 ≤ x.2) (n : Int) : Mem (clampI x n) x := by unfold Mem clampI; omega

/-- A value that some pair of the tried members has. -/
def Got (op v : Int) (x y : Int × Int) : Prop := ∃ a b, (a = x.1 ∨ a = x.2) ∧ (b = y.1 ∨ b = y.2 ∨ b = clampI y (-1) ∨ b = clampI y 1) ∧ we op b = 0 ∧ wv op a b = v
theorem we_lin {op b : Int} (h : op = 6 ∨ op = 7 ∨ op = 8) : we op b = 0 := by
  unfold we; rw [if_pos (by omega), if_neg (by omega)]
theorem got_corner {op c : Int} {x y : Int × Int} (hop : op = 6 ∨ op = 7 ∨ op = 8) (hc : W32 c) (f : Int → Int → Int) (hf : ∀ a b, wv op a b = wrap32 (f a b)) (h : c ∈ [f x.1 y.1, f x.1 y.2, f x.2 y.1, f x.2 y.2]) : Got op c x y := by
  simp only [List.mem_cons, List.not_mem_nil, or_false] at h
  rcases h with rfl | rfl | rfl | rfl
  · exact ⟨_, _, .inl rfl, .inl rfl, we_lin hop, by rw [hf]; exact wrap32_id hc⟩
  · exact ⟨_, _, .inl rfl, .inr (.inl rfl), we_lin hop, by rw [hf]; exact wrap32_id hc⟩
  · exact ⟨_, _, .inr rfl, .inl rfl, we_lin hop, by rw [hf]; exact wrap32_id hc⟩
  · exact ⟨_, _, .inr rfl, .inr (.inl rfl), we_lin hop, by rw [hf]; exact wrap32_id hc⟩
theorem got_div {c : Int} {x y : Int × Int} (hy : y.1 ≤ y.2) (hc : W32 c) (h : c ∈ divL x y) : Got 9 c x y := by
  have key : ∀ a b, (a = x.1 ∨ a = x.2) → (b = y.1 ∨ b = y.2 ∨ b = clampI y (-1) ∨ b = clampI y 1) → b ≠ 0 → c = a.tdiv b → Got 9 c x y := by
    intro a b ha hb h0 e
    refine ⟨a, b, ha, hb, ?_, ?_⟩
    · unfold we; rw [if_pos (by omega), if_neg (fun h => h0 h.2)]
    · rw [show wv 9 a b = wrap32 (a.tdiv b) by simp [wv, h0], ← e]; exact wrap32_id hc
  unfold divL at h
  rcases List.mem_append.1 h with h | h
  · split at h
    · have e : min y.2 (-1) = clampI y (-1) := by unfold clampI; omega
      simp only [divC, List.mem_cons, List.not_mem_nil, or_false] at h
      rcases h with rfl | rfl | rfl | rfl
      · exact key _ _ (.inl rfl) (.inl rfl) (by omega) rfl
      · exact key _ _ (.inl rfl) (.inr (.inr (.inl e))) (by omega) rfl
      · exact key _ _ (.inr rfl) (.inl rfl) (by omega) rfl
      · exact key _ _ (.inr rfl) (.inr (.inr (.inl e))) (by omega) rfl
    · cases h
  · split at h
    · have e : max y.1 1 = clampI y 1 := by unfold clampI; omega
      simp only [divC, List.mem_cons, List.not_mem_nil, or_false] at h
      rcases h with rfl | rfl | rfl | rfl
      · exact key _ _ (.inl rfl) (.inr (.inr (.inr e))) (by omega) rfl
      · exact key _ _ (.inl rfl) (.inr (.inl rfl)) (by omega) rfl
      · exact key _ _ (.inr rfl) (.inr (.inr (.inr e))) (by omega) rfl
      · exact key _ _ (.inr rfl) (.inr (.inl rfl)) (by omega) rfl
    · cases h
/-- The bounds of a result that is neither full nor empty are values at members. -/
theorem apply_tight {op : Int} {x y : Int × Int} (h1 : 6 ≤ op) (h2 : op ≤ 9) (hx : x.1 ≤ x.2) (hy : y.1 ≤ y.2) (hf : applyI op x y ≠ (-2147483648, 2147483647)) (he : ¬ (applyI op x y).2 < (applyI op x y).1) : Got op (applyI op x y).1 x y ∧ Got op (applyI op x y).2 x y := by
  have no : ¬ (op < 6 ∨ 23 < op) := by omega
  have ne : ¬ (x.2 < x.1 ∨ y.2 < y.1) := by omega
  by_cases s : x.1 = x.2 ∧ y.1 = y.2
  · by_cases hw : we op y.1 = 0
    · rw [show applyI op x y = (wv op x.1 y.1, wv op x.1 y.1) by rw [applyI, if_neg no, if_neg ne, if_pos s, if_pos hw]]
      exact ⟨⟨_, _, .inl rfl, .inl rfl, hw, rfl⟩, ⟨_, _, .inl rfl, .inl rfl, hw, rfl⟩⟩
    · rw [show applyI op x y = (1, 0) by rw [applyI, if_neg no, if_neg ne, if_pos s, if_neg hw]] at he
      exact absurd (by decide) he
  · have eg : applyI op x y = genI op x y := by rw [applyI, if_neg no, if_neg ne, if_neg s]
    rw [eg] at hf he ⊢
    have lin : ∀ l : List Int, l ≠ [] → hullL l ≠ (-2147483648, 2147483647) → (hullL l).1 ∈ l ∧ (hullL l).2 ∈ l ∧ W32 (hullL l).1 ∧ W32 (hullL l).2 := by
      intro l hl hn
      have hle := loL_le_hiL l
      rcases hull_forms l with e | ⟨e, e1, e2⟩
      · exact absurd e hn
      · rw [e]; exact ⟨loL_mem hl, hiL_mem hl, ⟨e1, by simp only; omega⟩, ⟨by simp only; omega, e2⟩⟩
    have h : op = 6 ∨ op = 7 ∨ op = 8 ∨ op = 9 := by omega
    rcases h with rfl | rfl | rfl | rfl
    · obtain ⟨m1, m2, w1, w2⟩ := lin [x.1 + y.1, x.1 + y.2, x.2 + y.1, x.2 + y.2] (by simp) hf
      exact ⟨got_corner (by decide) w1 (fun a b => a + b) (fun _ _ => rfl) m1, got_corner (by decide) w2 (fun a b => a + b) (fun _ _ => rfl) m2⟩
    · obtain ⟨m1, m2, w1, w2⟩ := lin [x.1 - y.1, x.1 - y.2, x.2 - y.1, x.2 - y.2] (by simp) hf
      exact ⟨got_corner (by decide) w1 (fun a b => a - b) (fun _ _ => rfl) m1, got_corner (by decide) w2 (fun a b => a - b) (fun _ _ => rfl) m2⟩
    · obtain ⟨m1, m2, w1, w2⟩ := lin [x.1 * y.1, x.1 * y.2, x.2 * y.1, x.2 * y.2] (by simp) hf
      exact ⟨got_corner (by decide) w1 (fun a b => a * b) (fun _ _ => rfl) m1, got_corner (by decide) w2 (fun a b => a * b) (fun _ _ => rfl) m2⟩
    · rw [show genI 9 x y = divI x y from rfl] at hf he ⊢
      unfold divI at hf he ⊢
      by_cases z : y.1 = 0 ∧ y.2 = 0
      · rw [if_pos z] at he; exact absurd (by decide) he
      rw [if_neg z] at hf he ⊢
      by_cases ov : (x.1 ≤ -2147483648 ∧ -2147483648 ≤ x.2) ∧ (y.1 ≤ -1 ∧ -1 ≤ y.2)
      · rw [if_pos ov] at hf; exact absurd rfl hf
      rw [if_neg ov] at hf he ⊢
      obtain ⟨m1, m2, w1, w2⟩ := lin _ (divL_ne hy z) hf
      exact ⟨got_div hy w1 m1, got_div hy w2 m2⟩

end Go.Proofs.Ytjkjcnamlankoaa
