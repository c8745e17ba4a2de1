/-
  What is proved here: the results of the operators on intervals contain the values at members (plain mathematics, no program).
-/
import Derived.Test.YtjkjcnamlankoaaIvDecPlain
namespace Go.Proofs.Ytjkjcnamlankoaa
open Go.RowKit
set_option linter.unusedVariables false
set_option linter.unusedSimpArgs false

/-- v is a member of z. -/
def Mem (v : Int) (z : Int × Int) : Prop := z.1 ≤ v ∧ v ≤ z.2
/-- Both bounds are words. -/
def WI (z : Int × Int) : Prop := W32 z.1 ∧ W32 z.2
/-- v lies between two of the numbers. -/
def Btw (v : Int) (l : List Int) : Prop := ∃ p q, p ∈ l ∧ q ∈ l ∧ p ≤ v ∧ v ≤ q

theorem wrap32_word (v : Int) : W32 (wrap32 v) := by unfold W32 wrap32; omega
theorem wrap32_id {v : Int} (h : W32 v) : wrap32 v = v := by unfold W32 at h; unfold wrap32; omega

theorem foldl_min_le (l : List Int) : ∀ a : Int, l.foldl min a ≤ a ∧ ∀ x ∈ l, l.foldl min a ≤ x := by
  induction l with
  | nil => intro a; exact ⟨Int.le_refl _, fun x h => by cases h⟩
  | cons y l ih =>
    intro a
    have h := ih (min a y)
    simp only [List.foldl_cons]
    refine ⟨by omega, fun x hx => ?_⟩
    rcases List.mem_cons.1 hx with rfl | hx
    · omega
    · exact h.2 x hx
theorem le_foldl_max (l : List Int) : ∀ a : Int, a ≤ l.foldl max a ∧ ∀ x ∈ l, x ≤ l.foldl max a := by
  induction l with
  | nil => intro a; exact ⟨Int.le_refl _, fun x h => by cases h⟩
  | cons y l ih =>
    intro a
    have h := ih (max a y)
    simp only [List.foldl_cons]
    refine ⟨by omega, fun x hx => ?_⟩
    rcases List.mem_cons.1 hx with rfl | hx
    · omega
    · exact h.2 x hx
theorem foldl_min_mem (l : List Int) : ∀ a : Int, l.foldl min a = a ∨ l.foldl min a ∈ l := by
  induction l with
  | nil => intro a; exact .inl rfl
  | cons y l ih =>
    intro a
    simp only [List.foldl_cons]
    rcases ih (min a y) with h | h
    · by_cases c : a ≤ y
      · left; rw [h]; omega
      · right; rw [h, show min a y = y by omega]; exact List.mem_cons_self
    · exact .inr (List.mem_cons_of_mem _ h)
theorem foldl_max_mem (l : List Int) : ∀ a : Int, l.foldl max a = a ∨ l.foldl max a ∈ l := by
  induction l with
  | nil => intro a; exact .inl rfl
  | cons y l ih =>
    intro a
    simp only [List.foldl_cons]
    rcases ih (max a y) with h | h
    · by_cases c : a ≤ y
      · right; rw [h, show max a y = y by omega]; exact List.mem_cons_self
      · left; rw [h]; omega
    · exact .inr (List.mem_cons_of_mem _ h)
theorem nth_zero_mem {l : List Int} (h : l ≠ []) : nth l 0 ∈ l := by
  cases l with
  | nil => exact absurd rfl h
  | cons a l => simp [nth]
theorem loL_mem {l : List Int} (h : l ≠ []) : loL l ∈ l := by
  rcases foldl_min_mem l (nth l 0) with e | e
  · unfold loL; rw [e]; exact nth_zero_mem h
  · exact e
theorem hiL_mem {l : List Int} (h : l ≠ []) : hiL l ∈ l := by
  rcases foldl_max_mem l (nth l 0) with e | e
  · unfold hiL; rw [e]; exact nth_zero_mem h
  · exact e
theorem loL_le {l : List Int} {x : Int} (h : x ∈ l) : loL l ≤ x := (foldl_min_le l _).2 x h
theorem le_hiL {l : List Int} {x : Int} (h : x ∈ l) : x ≤ hiL l := (le_foldl_max l _).2 x h

theorem hull_forms (l : List Int) : hullL l = (-2147483648, 2147483647) ∨ (hullL l = (loL l, hiL l) ∧ -2147483648 ≤ loL l ∧ hiL l ≤ 2147483647) := by
  unfold hullL
  split
  · exact .inl rfl
  · exact .inr ⟨rfl, by omega, by omega⟩
theorem hull_word (l : List Int) : -2147483648 ≤ (hullL l).1 ∧ (hullL l).2 ≤ 2147483647 := by
  rcases hull_forms l with h | ⟨h, h1, h2⟩ <;> rw [h]
  · exact ⟨by decide, by decide⟩
  · exact ⟨h1, h2⟩
/-- What lies between two of the numbers, wrapped, is a member of the hull. -/
theorem hull_has {l : List Int} {v : Int} (h : Btw v l) : Mem (wrap32 v) (hullL l) := by
  obtain ⟨p, q, hp, hq, h1, h2⟩ := h
  have a1 := loL_le hp
  have a2 := le_hiL hq
  rcases hull_forms l with e | ⟨e, e1, e2⟩ <;> rw [e]
  · exact wrap32_word v
  · rw [wrap32_id ⟨by omega, by omega⟩]
    exact ⟨by simp only; omega, by simp only; omega⟩

theorem mul_btw (c b lo hi : Int) (h1 : lo ≤ b) (h2 : b ≤ hi) : (c * lo ≤ c * b ∧ c * b ≤ c * hi) ∨ (c * hi ≤ c * b ∧ c * b ≤ c * lo) := by
  by_cases hc : 0 ≤ c
  · exact .inl ⟨Int.mul_le_mul_of_nonneg_left h1 hc, Int.mul_le_mul_of_nonneg_left h2 hc⟩
  · exact .inr ⟨Int.mul_le_mul_of_nonpos_left (by omega) h2, Int.mul_le_mul_of_nonpos_left (by omega) h1⟩
theorem mul_corners {x y : Int × Int} {a b : Int} (ha : Mem a x) (hb : Mem b y) : Btw (a * b) [x.1 * y.1, x.1 * y.2, x.2 * y.1, x.2 * y.2] := by
  have h1 := mul_btw b a x.1 x.2 ha.1 ha.2
  have h2 := mul_btw x.1 b y.1 y.2 hb.1 hb.2
  have h3 := mul_btw x.2 b y.1 y.2 hb.1 hb.2
  rw [Int.mul_comm b x.1, Int.mul_comm b a, Int.mul_comm b x.2] at h1
  have key : (∃ p ∈ [x.1 * y.1, x.1 * y.2, x.2 * y.1, x.2 * y.2], p ≤ a * b) ∧ (∃ q ∈ [x.1 * y.1, x.1 * y.2, x.2 * y.1, x.2 * y.2], a * b ≤ q) := by
    simp only [List.mem_cons, List.not_mem_nil, or_false, exists_eq_or_imp, exists_eq_left]
    omega
  obtain ⟨⟨p, hp, h4⟩, ⟨q, hq, h5⟩⟩ := key
  exact ⟨p, q, hp, hq, h4, h5⟩
theorem add_corners {x y : Int × Int} {a b : Int} (ha : Mem a x) (hb : Mem b y) : Btw (a + b) [x.1 + y.1, x.1 + y.2, x.2 + y.1, x.2 + y.2] := by
  unfold Mem at *
  exact ⟨x.1 + y.1, x.2 + y.2, by simp, by simp, by omega, by omega⟩
theorem sub_corners {x y : Int × Int} {a b : Int} (ha : Mem a x) (hb : Mem b y) : Btw (a - b) [x.1 - y.1, x.1 - y.2, x.2 - y.1, x.2 - y.2] := by
  unfold Mem at *
  exact ⟨x.1 - y.2, x.2 - y.1, by simp, by simp, by omega, by omega⟩

theorem tdiv_mono_pos {a a' b : Int} (hb : 0 < b) (h : a ≤ a') : a.tdiv b ≤ a'.tdiv b := Int.tdiv_le_tdiv hb h
theorem tdiv_btw_a (b a lo hi : Int) (hb : b ≠ 0) (h1 : lo ≤ a) (h2 : a ≤ hi) : (lo.tdiv b ≤ a.tdiv b ∧ a.tdiv b ≤ hi.tdiv b) ∨ (hi.tdiv b ≤ a.tdiv b ∧ a.tdiv b ≤ lo.tdiv b) := by
  by_cases c : 0 < b
  · exact .inl ⟨tdiv_mono_pos c h1, tdiv_mono_pos c h2⟩
  · right
    have e : ∀ z : Int, z.tdiv b = -(z.tdiv (-b)) := fun z => by rw [Int.tdiv_neg, Int.neg_neg]
    have p1 := tdiv_mono_pos (b := -b) (by omega) h1
    have p2 := tdiv_mono_pos (b := -b) (by omega) h2
    rw [e a, e lo, e hi]
    omega
theorem tdiv_anti_nonneg {c b b' : Int} (hc : 0 ≤ c) (hb : 0 < b) (h : b ≤ b') : c.tdiv b' ≤ c.tdiv b := by
  rw [Int.tdiv_eq_ediv_of_nonneg hc, Int.tdiv_eq_ediv_of_nonneg hc]
  rw [Int.le_ediv_iff_mul_le hb]
  have h1 := Int.ediv_mul_le c (show b' ≠ 0 by omega)
  have h2 := Int.mul_le_mul_of_nonneg_left h (Int.ediv_nonneg hc (show 0 ≤ b' by omega))
  omega
theorem tdiv_btw_b_pos (c b lo hi : Int) (h0 : 0 < lo) (h1 : lo ≤ b) (h2 : b ≤ hi) : (c.tdiv lo ≤ c.tdiv b ∧ c.tdiv b ≤ c.tdiv hi) ∨ (c.tdiv hi ≤ c.tdiv b ∧ c.tdiv b ≤ c.tdiv lo) := by
  by_cases hc : 0 ≤ c
  · exact .inr ⟨tdiv_anti_nonneg hc (by omega) h2, tdiv_anti_nonneg hc h0 h1⟩
  · left
    have e : ∀ z : Int, c.tdiv z = -((-c).tdiv z) := fun z => by rw [Int.neg_tdiv, Int.neg_neg]
    have p1 := tdiv_anti_nonneg (c := -c) (by omega) (by omega : 0 < b) h2
    have p2 := tdiv_anti_nonneg (c := -c) (by omega) h0 h1
    rw [e b, e lo, e hi]
    omega
theorem tdiv_btw_b (c b lo hi : Int) (h0 : 0 < lo ∨ hi < 0) (h1 : lo ≤ b) (h2 : b ≤ hi) : (c.tdiv lo ≤ c.tdiv b ∧ c.tdiv b ≤ c.tdiv hi) ∨ (c.tdiv hi ≤ c.tdiv b ∧ c.tdiv b ≤ c.tdiv lo) := by
  rcases h0 with h0 | h0
  · exact tdiv_btw_b_pos c b lo hi h0 h1 h2
  · have e : ∀ z : Int, c.tdiv z = -(c.tdiv (-z)) := fun z => by rw [Int.tdiv_neg, Int.neg_neg]
    have := tdiv_btw_b_pos c (-b) (-hi) (-lo) (by omega) (by omega) (by omega)
    rw [e b, e lo, e hi]
    omega
theorem div_part {x p : Int × Int} {a b : Int} (ha : Mem a x) (hb : Mem b p) (h0 : 0 < p.1 ∨ p.2 < 0) : Btw (a.tdiv b) (divC x p) := by
  unfold Mem at ha hb
  have h1 := tdiv_btw_a b a x.1 x.2 (by omega) ha.1 ha.2
  have h2 := tdiv_btw_b x.1 b p.1 p.2 h0 hb.1 hb.2
  have h3 := tdiv_btw_b x.2 b p.1 p.2 h0 hb.1 hb.2
  have key : (∃ q ∈ divC x p, q ≤ a.tdiv b) ∧ (∃ q ∈ divC x p, a.tdiv b ≤ q) := by
    simp only [divC, List.mem_cons, List.not_mem_nil, or_false, exists_eq_or_imp, exists_eq_left]
    omega
  obtain ⟨⟨p', hp, h4⟩, ⟨q, hq, h5⟩⟩ := key
  exact ⟨p', q, hp, hq, h4, h5⟩
theorem Btw.left {v : Int} {l m : List Int} (h : Btw v l) : Btw v (l ++ m) := by
  obtain ⟨p, q, hp, hq, h⟩ := h
  exact ⟨p, q, List.mem_append_left _ hp, List.mem_append_left _ hq, h⟩
theorem Btw.right {v : Int} {l m : List Int} (h : Btw v m) : Btw v (l ++ m) := by
  obtain ⟨p, q, hp, hq, h⟩ := h
  exact ⟨p, q, List.mem_append_right _ hp, List.mem_append_right _ hq, h⟩
theorem div_corners {x y : Int × Int} {a b : Int} (ha : Mem a x) (hb : Mem b y) (h0 : b ≠ 0) : Btw (a.tdiv b) (divL x y) := by
  unfold Mem at hb
  unfold divL
  by_cases c : b < 0
  · rw [if_pos (by omega)]
    exact (div_part (p := (y.1, min y.2 (-1))) ha ⟨by simp only; omega, by simp only; omega⟩ (.inr (by simp only; omega))).left
  · rw [if_pos (show 0 < y.2 by omega)]
    exact (div_part (p := (max y.1 1, y.2)) ha ⟨by simp only; omega, by simp only; omega⟩ (.inl (by simp only; omega))).right

theorem mod_bd (a b : Int) (hb : b ≠ 0) : (0 ≤ a → 0 ≤ a.tmod b ∧ a.tmod b ≤ a ∧ a.tmod b < b.natAbs) ∧ (a ≤ 0 → a.tmod b ≤ 0 ∧ a ≤ a.tmod b ∧ -(b.natAbs : Int) < a.tmod b) := by
  have key : ∀ a : Int, 0 ≤ a → 0 ≤ a.tmod b ∧ a.tmod b ≤ a ∧ a.tmod b < b.natAbs := by
    intro a ha
    have h1 := Int.natAbs_tmod a b
    have h2 := Int.tmod_nonneg b ha
    have h3 : a.natAbs % b.natAbs < b.natAbs := Nat.mod_lt _ (by omega)
    have h4 := Nat.mod_le a.natAbs b.natAbs
    omega
  refine ⟨key a, fun ha => ?_⟩
  have := key (-a) (by omega)
  rw [Int.neg_tmod] at this
  omega
theorem mod_has {x y : Int × Int} {a b : Int} (ha : Mem a x) (hb : Mem b y) (h0 : b ≠ 0) : Mem (a.tmod b) (modI x y) := by
  unfold Mem at ha hb
  have hm := mod_bd a b h0
  have n0 : ¬ (y.1 = 0 ∧ y.2 = 0) := by omega
  have hM : (b.natAbs : Int) ≤ modM y + 1 := by unfold modM; omega
  rw [modI, if_neg n0]
  generalize modM y = m at *
  unfold Mem
  simp only
  constructor
  · split <;> omega
  · split <;> omega

theorem pow_pos' (n : Nat) : (0 : Int) < 2 ^ n := by have := (pow_bd n n (Nat.le_refl _)).1; omega
theorem shl_corners {x : Int × Int} {a : Int} (n : Nat) (ha : Mem a x) : Btw (a * 2 ^ n) [x.1 * 2 ^ n, x.2 * 2 ^ n] := by
  have hp := pow_pos' n
  refine ⟨x.1 * 2 ^ n, x.2 * 2 ^ n, by simp, by simp, ?_, ?_⟩
  · exact Int.mul_le_mul_of_nonneg_right ha.1 (by omega)
  · exact Int.mul_le_mul_of_nonneg_right ha.2 (by omega)
theorem shr_bd (a : Int) (n : Nat) : (0 ≤ a → 0 ≤ a / 2 ^ n ∧ a / 2 ^ n ≤ a) ∧ (a < 0 → a ≤ a / 2 ^ n ∧ a / 2 ^ n < 0) := by
  have hp := pow_pos' n
  constructor
  · intro h
    exact ⟨Int.ediv_nonneg h (by omega), Int.ediv_le_self _ h⟩
  · intro h
    refine ⟨?_, Int.ediv_neg_of_neg_of_pos h hp⟩
    rw [Int.le_ediv_iff_mul_le hp]
    have := Int.mul_le_mul_of_nonpos_left (a := a) (b := 2 ^ n) (c := 1) (by omega) (by omega)
    rw [Int.mul_one] at this
    exact this

theorem i32_bits (op : BinOp) (a b : Int) : bits op .i32 a b = wrap32 ((match op with
    | .and => BitVec.ofInt 32 a &&& BitVec.ofInt 32 b
    | .or => BitVec.ofInt 32 a ||| BitVec.ofInt 32 b
    | .xor => BitVec.ofInt 32 a ^^^ BitVec.ofInt 32 b
    | _ => BitVec.ofInt 32 a &&& ~~~(BitVec.ofInt 32 b)).toNat : Nat) := by
  have w : ∀ n : Int, IntKind.i32.wrap n = wrap32 n := fun n => by rw [IntKind.wrap_i32, wrap32]
  rw [← w]
  cases op <;> rfl
theorem u32_nat (a : Int) (h : W32 a) : ((BitVec.ofInt 32 a).toNat : Int) = if 0 ≤ a then a else a + 4294967296 := by
  unfold W32 at h
  rw [BitVec.toNat_ofInt]
  simp only [Nat.reducePow]
  split <;> omega
theorem and_has_left {a b : Int} (ha : W32 a) (h0 : 0 ≤ a) : 0 ≤ bits .and .i32 a b ∧ bits .and .i32 a b ≤ a := by
  rw [i32_bits]
  simp only [BitVec.toNat_and]
  have h1 := u32_nat a ha
  rw [if_pos h0] at h1
  have h2 := @Nat.and_le_left (BitVec.ofInt 32 a).toNat (BitVec.ofInt 32 b).toNat
  unfold W32 at ha
  rw [wrap32_id ⟨by omega, by omega⟩]
  omega
theorem and_has_right {a b : Int} (hb : W32 b) (h0 : 0 ≤ b) : 0 ≤ bits .and .i32 a b ∧ bits .and .i32 a b ≤ b := by
  rw [i32_bits]
  simp only [BitVec.toNat_and]
  have h1 := u32_nat b hb
  rw [if_pos h0] at h1
  have h2 := @Nat.and_le_right (BitVec.ofInt 32 a).toNat (BitVec.ofInt 32 b).toNat
  unfold W32 at hb
  rw [wrap32_id ⟨by omega, by omega⟩]
  omega
theorem lt_two_pow_bitLenAux : ∀ (f x : Nat), x < 2 ^ f → x < 2 ^ Lib.bitLenAux f x := by
  intro f
  induction f with
  | zero => intro x h; simpa [Lib.bitLenAux] using h
  | succ f ih =>
    intro x h
    unfold Lib.bitLenAux
    split
    · rename_i e; subst e; exact Nat.one_pos
    · have := ih (x / 2) (by rw [Nat.pow_succ] at h; omega)
      rw [Nat.add_comm, Nat.pow_succ]
      omega
theorem bitLenAux_mono : ∀ (f x y : Nat), x ≤ y → Lib.bitLenAux f x ≤ Lib.bitLenAux f y := by
  intro f
  induction f with
  | zero => intro x y _; exact Nat.le_refl _
  | succ f ih =>
    intro x y h
    unfold Lib.bitLenAux
    by_cases hx : x = 0
    · rw [if_pos hx]; exact Nat.zero_le _
    · rw [if_neg hx, if_neg (by omega)]
      have := ih (x / 2) (y / 2) (Nat.div_le_div_right h)
      omega
theorem le_onesI {n : Int} (h0 : 0 ≤ n) (h1 : n ≤ 2147483647) : n ≤ onesI n := by
  have := lt_two_pow_bitLenAux 64 n.toNat (by omega)
  unfold onesI Lib.bitLen
  have e : ((2 ^ Lib.bitLenAux 64 n.toNat : Nat) : Int) = 2 ^ Lib.bitLenAux 64 n.toNat := by simp
  omega
theorem onesI_mono {n m : Int} (h : n ≤ m) : onesI n ≤ onesI m := by
  have := (pow_bd _ _ (bitLenAux_mono 64 n.toNat m.toNat (by omega))).2
  unfold onesI Lib.bitLen
  omega
/-- What lies below a power of two has an or and an xor below it. -/
theorem or_xor_le {a b n : Int} (h0 : 0 ≤ a) (h1 : 0 ≤ b) (ha : a ≤ n) (hb : b ≤ n) (hn : n ≤ 2147483647) : (0 ≤ bits .xor .i32 a b ∧ bits .xor .i32 a b ≤ onesI n) ∧ (a ≤ bits .or .i32 a b ∧ b ≤ bits .or .i32 a b ∧ bits .or .i32 a b ≤ onesI n) := by
  have ea := u32_nat a ⟨by omega, by omega⟩
  have eb := u32_nat b ⟨by omega, by omega⟩
  rw [if_pos h0] at ea
  rw [if_pos h1] at eb
  have hp := lt_two_pow_bitLenAux 64 n.toNat (by omega)
  have ho := onesI_bd (show 0 ≤ n by omega) hn
  have e : ((2 ^ Lib.bitLenAux 64 n.toNat : Nat) : Int) = 2 ^ Lib.bitLenAux 64 n.toNat := by simp
  have hx := @Nat.xor_lt_two_pow (BitVec.ofInt 32 a).toNat (BitVec.ofInt 32 b).toNat _ (Nat.lt_of_le_of_lt (by omega) hp) (Nat.lt_of_le_of_lt (by omega) hp)
  have hy := @Nat.or_lt_two_pow (BitVec.ofInt 32 a).toNat (BitVec.ofInt 32 b).toNat _ (Nat.lt_of_le_of_lt (by omega) hp) (Nat.lt_of_le_of_lt (by omega) hp)
  have hl := @Nat.left_le_or (BitVec.ofInt 32 a).toNat (BitVec.ofInt 32 b).toNat
  have hr := @Nat.right_le_or (BitVec.ofInt 32 a).toNat (BitVec.ofInt 32 b).toNat
  rw [i32_bits, i32_bits]
  simp only [BitVec.toNat_xor, BitVec.toNat_or]
  have eo : onesI n = 2 ^ Lib.bitLenAux 64 n.toNat - 1 := rfl
  rw [wrap32_id ⟨by omega, by omega⟩, wrap32_id ⟨by omega, by omega⟩]
  omega
theorem or_neg {a b : Int} (ha : W32 a) (hb : W32 b) (h0 : a < 0) (h1 : b < 0) : a ≤ bits .or .i32 a b ∧ b ≤ bits .or .i32 a b ∧ bits .or .i32 a b ≤ -1 := by
  have ea := u32_nat a ha
  have eb := u32_nat b hb
  rw [if_neg (by omega)] at ea
  rw [if_neg (by omega)] at eb
  unfold W32 at ha hb
  have hl := @Nat.left_le_or (BitVec.ofInt 32 a).toNat (BitVec.ofInt 32 b).toNat
  have hr := @Nat.right_le_or (BitVec.ofInt 32 a).toNat (BitVec.ofInt 32 b).toNat
  have hy := @Nat.or_lt_two_pow (BitVec.ofInt 32 a).toNat (BitVec.ofInt 32 b).toNat 32 (BitVec.ofInt 32 a).isLt (BitVec.ofInt 32 b).isLt
  rw [i32_bits]
  simp only [BitVec.toNat_or]
  unfold wrap32
  omega
theorem bits_word (op : BinOp) (a b : Int) : W32 (bits op .i32 a b) := by rw [i32_bits]; exact wrap32_word _

end Go.Proofs.Ytjkjcnamlankoaa
