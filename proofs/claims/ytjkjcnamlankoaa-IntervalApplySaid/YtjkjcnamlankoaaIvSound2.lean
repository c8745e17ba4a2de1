/-
  What is proved here: the result of every operator contains the values at members; it grows with its operands; the bounds of sums, differences, products and quotients are values at members (plain mathematics, no program).
-/
import Derived.Test.YtjkjcnamlankoaaIvSoundPlain
namespace Go.Proofs.Ytjkjcnamlankoaa
open Go.RowKit
set_option linter.unusedVariables false
set_option linter.unusedSimpArgs false

theorem word_full {v : Int} (h : W32 v) : Mem v (-2147483648, 2147483647) := h
theorem div_has {x y : Int × Int} {a b : Int} (ha : Mem a x) (hb : Mem b y) (h0 : b ≠ 0) : Mem (wrap32 (a.tdiv b)) (divI x y) := by
  have n0 : ¬ (y.1 = 0 ∧ y.2 = 0) := by unfold Mem at hb; omega
  rw [divI, if_neg n0]
  split
  · exact wrap32_word _
  · exact hull_has (div_corners ha hb h0)
theorem bit_has {op : Int} {x y : Int × Int} {a b : Int} (hop : op = 11 ∨ op = 12 ∨ op = 13) (hx : WI x) (hy : WI y) (ha : Mem a x) (hb : Mem b y) : Mem (wv op a b) (bitI op x y) := by
  have wa : W32 a := ⟨Int.le_trans hx.1.1 ha.1, Int.le_trans ha.2 hx.2.2⟩
  have wb : W32 b := ⟨Int.le_trans hy.1.1 hb.1, Int.le_trans hb.2 hy.2.2⟩
  unfold WI W32 at hx hy
  unfold Mem at ha hb
  rcases hop with rfl | rfl | rfl
  · rw [show wv 11 a b = bits .and .i32 a b from rfl]
    unfold bitI
    by_cases h1 : 0 ≤ x.1 <;> by_cases h2 : 0 ≤ y.1
    · have p := and_has_left (b := b) wa (by omega)
      have q := and_has_right (a := a) wb (by omega)
      rw [if_pos ⟨rfl, h1, h2⟩]
      exact ⟨p.1, by simp only; omega⟩
    · have p := and_has_left (b := b) wa (by omega)
      rw [if_neg (fun h => h2 h.2.2), if_pos ⟨rfl, h1⟩]
      exact ⟨p.1, by simp only; omega⟩
    · have q := and_has_right (a := a) wb (by omega)
      rw [if_neg (fun h => h1 h.2.1), if_neg (fun h => h1 h.2), if_pos ⟨rfl, h2⟩]
      exact ⟨q.1, by simp only; omega⟩
    · rw [if_neg (fun h => h1 h.2.1), if_neg (fun h => h1 h.2), if_neg (fun h => h2 h.2)]
      simp only [show ¬ ((11 : Int) = 12) by decide, show ¬ ((11 : Int) = 13) by decide, false_and, if_false]
      exact bits_word _ _ _
  · rw [show wv 12 a b = bits .or .i32 a b from rfl]
    unfold bitI
    simp only [show ¬ ((12 : Int) = 11) by decide, show ¬ ((12 : Int) = 13) by decide, false_and, if_false, true_and]
    by_cases h1 : 0 ≤ x.1 ∧ 0 ≤ y.1
    · have p := or_xor_le (a := a) (b := b) (n := max x.2 y.2) (by omega) (by omega) (by omega) (by omega) (by omega)
      rw [if_pos h1]
      exact ⟨by simp only; omega, p.2.2.2⟩
    · rw [if_neg h1]
      by_cases h2 : x.2 < 0 ∧ y.2 < 0
      · have p := or_neg wa wb (by omega) (by omega)
        rw [if_pos h2]
        exact ⟨by simp only; omega, p.2.2⟩
      · rw [if_neg h2]
        exact bits_word _ _ _
  · rw [show wv 13 a b = bits .xor .i32 a b from rfl]
    unfold bitI
    simp only [show ¬ ((13 : Int) = 11) by decide, show ¬ ((13 : Int) = 12) by decide, false_and, if_false, true_and]
    by_cases h1 : 0 ≤ x.1 ∧ 0 ≤ y.1
    · have p := or_xor_le (a := a) (b := b) (n := max x.2 y.2) (by omega) (by omega) (by omega) (by omega) (by omega)
      rw [if_pos h1]
      exact p.1
    · rw [if_neg h1]
      exact bits_word _ _ _
theorem sh_has {op : Int} {x y : Int × Int} {a b : Int} (hop : op = 14 ∨ op = 15) (hx : WI x) (ha : Mem a x) (hb : Mem b y) : Mem (wv op a b) (shI op x y) := by
  have wa : W32 a := ⟨Int.le_trans hx.1.1 ha.1, Int.le_trans ha.2 hx.2.2⟩
  unfold shI
  rcases hop with rfl | rfl
  · rw [if_pos rfl, show wv 14 a b = wrap32 (a * 2 ^ (b % 32).toNat) from rfl]
    split
    · rename_i e
      obtain rfl : b = y.1 := by unfold Mem at hb; omega
      exact hull_has (shl_corners _ ha)
    · exact wrap32_word _
  · rw [if_neg (by decide), show wv 15 a b = a / 2 ^ (b % 32).toNat from rfl]
    split
    · rename_i e
      obtain rfl : b = y.1 := by unfold Mem at hb; omega
      have hp := pow_pos' (y.1 % 32).toNat
      exact ⟨Int.ediv_le_ediv hp ha.1, Int.ediv_le_ediv hp ha.2⟩
    · have p := shr_bd a (b % 32).toNat
      generalize a / 2 ^ (b % 32).toNat = r at *
      unfold Mem at *
      simp only
      constructor
      · split <;> omega
      · split <;> omega
theorem log_has {op : Int} {x y : Int × Int} {a b : Int} (hop : op = 22 ∨ op = 23) (ha : Mem a x) (hb : Mem b y) : Mem (wv op a b) (logI op x y) := by
  have h1 : has0 x = false → a ≠ 0 := by intro h; simp [has0] at h; unfold Mem at ha; omega
  have h2 : has0 y = false → b ≠ 0 := by intro h; simp [has0] at h; unfold Mem at hb; omega
  have h3 : is0 x = true → a = 0 := by intro h; simp [is0] at h; unfold Mem at ha; omega
  have h4 : is0 y = true → b = 0 := by intro h; simp [is0] at h; unfold Mem at hb; omega
  rcases hop with rfl | rfl
  · rw [show wv 22 a b = b2i (a != 0 && b != 0) from rfl]
    unfold logI
    rw [if_pos rfl]
    by_cases za : a = 0 <;> by_cases zb : b = 0 <;> cases c1 : has0 x <;> cases c2 : has0 y <;> cases c3 : is0 x <;> cases c4 : is0 y <;> simp_all [Mem, b2i, trI]
  · rw [show wv 23 a b = b2i (a != 0 || b != 0) from rfl]
    unfold logI
    rw [if_neg (by decide)]
    by_cases za : a = 0 <;> by_cases zb : b = 0 <;> cases c1 : has0 x <;> cases c2 : has0 y <;> cases c3 : is0 x <;> cases c4 : is0 y <;> simp_all [Mem, b2i, trI]
theorem cmp_has {op : Int} {x y : Int × Int} {a b : Int} (h1 : 16 ≤ op) (h2 : op ≤ 21) (ha : Mem a x) (hb : Mem b y) : Mem (wv op a b) (cmpN op x y) := by
  have h : op = 16 ∨ op = 17 ∨ op = 18 ∨ op = 19 ∨ op = 20 ∨ op = 21 := by omega
  unfold Mem at ha hb
  have key : ∀ (p s n : Bool), (s = true → p = true) → (n = true → p = false) → Mem (b2i p) (trI s n) := by
    intro p s n
    cases p <;> cases s <;> cases n <;> simp [Mem, b2i, trI]
  rcases h with rfl | rfl | rfl | rfl | rfl | rfl
  · exact key (a == b) _ _ (by simp; omega) (by simp; omega)
  · exact key (a != b) _ _ (by simp; omega) (by simp; omega)
  · exact key (decide (a < b)) _ _ (by simp; omega) (by simp; omega)
  · exact key (decide (a ≤ b)) _ _ (by simp; omega) (by simp; omega)
  · exact key (decide (b < a)) _ _ (by simp; omega) (by simp; omega)
  · exact key (decide (b ≤ a)) _ _ (by simp; omega) (by simp; omega)

/-- The result contains the value at every pair of members for which the operator is defined. -/
theorem apply_has {op : Int} {x y : Int × Int} {a b : Int} (hx : WI x) (hy : WI y) (ha : Mem a x) (hb : Mem b y) (he : we op b = 0) : Mem (wv op a b) (applyI op x y) := by
  have hop : 6 ≤ op ∧ op ≤ 23 := by
    unfold we at he
    by_cases h : 6 ≤ op ∧ op ≤ 23
    · exact h
    · rw [if_neg h] at he; cases he
  have hz : op = 9 ∨ op = 10 → b ≠ 0 := by
    intro h0 hb0
    unfold we at he
    rw [if_pos hop, if_pos ⟨h0, hb0⟩] at he
    cases he
  have no : ¬ (op < 6 ∨ 23 < op) := by omega
  have ne : ¬ (x.2 < x.1 ∨ y.2 < y.1) := by unfold Mem at ha hb; omega
  by_cases hc : 16 ≤ op ∧ op ≤ 21
  · rw [apply_cmp op x y hc.1 hc.2 (by omega) (by omega)]
    exact cmp_has hc.1 hc.2 ha hb
  rw [applyI, if_neg no, if_neg ne]
  split
  · rename_i s
    unfold Mem at ha hb
    obtain rfl : a = x.1 := by omega
    obtain rfl : b = y.1 := by omega
    rw [if_pos he]
    exact ⟨Int.le_refl _, Int.le_refl _⟩
  · have h : op = 6 ∨ op = 7 ∨ op = 8 ∨ op = 9 ∨ op = 10 ∨ (op = 11 ∨ op = 12 ∨ op = 13) ∨ (op = 14 ∨ op = 15) ∨ (op = 22 ∨ op = 23) := by omega
    rcases h with rfl | rfl | rfl | rfl | rfl | h | h | h
    · exact hull_has (add_corners ha hb)
    · exact hull_has (sub_corners ha hb)
    · exact hull_has (mul_corners ha hb)
    · have h0 := hz (.inl rfl)
      rw [show wv 9 a b = wrap32 (a.tdiv b) by simp [wv, h0]]
      exact div_has ha hb h0
    · have h0 := hz (.inr rfl)
      rw [show wv 10 a b = a.tmod b by simp [wv, h0]]
      exact mod_has ha hb h0
    · have e : genI op x y = bitI op x y := by
        unfold genI
        rw [if_neg (by omega), if_neg (by omega), if_neg (by omega), if_neg (by omega), if_neg (by omega), if_pos (by omega)]
      rw [e]
      exact bit_has h hx hy ha hb
    · have e : genI op x y = shI op x y := by
        unfold genI
        rw [if_neg (by omega), if_neg (by omega), if_neg (by omega), if_neg (by omega), if_neg (by omega), if_neg (by omega), if_pos (by omega)]
      rw [e]
      exact sh_has h hx ha hb
    · have e : genI op x y = logI op x y := by
        unfold genI
        rw [if_neg (by omega), if_neg (by omega), if_neg (by omega), if_neg (by omega), if_neg (by omega), if_neg (by omega), if_neg (by omega), if_neg (by omega)]
      rw [e]
      exact log_has h ha hb

end Go.Proofs.Ytjkjcnamlankoaa
