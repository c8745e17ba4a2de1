/-
 What is proved here: the result of every operator grows with its operands; the bounds of sums, differences, products and quotients are values at members (plain mathematics, no program).
-/
import Derived.Test.YtebklpnkcicpjaaDoorFbIa
import Derived.Test.YtebklpnkcicpjaaDoorFbIc
namespace Go.Proofs.YtebklpnkcicpjaaDoor

theorem join_forms (x y : Int × Int) : (x.2 < x.1 ∧ y.2 < y.1 ∧ joinI x y = (1, 0)) ∨ (x.2 < x.1 ∧ ¬ y.2 < y.1 ∧ joinI x y = y) ∨ (¬ x.2 < x.1 ∧ y.2 < y.1 ∧ joinI x y = x) ∨ (¬ x.2 < x.1 ∧ ¬ y.2 < y.1 ∧ joinI x y = (min x.1 y.1, max x.2 y.2)) := by
 by_cases h1 : x.2 < x.1 <;> by_cases h2 : y.2 < y.1 <;> simp [joinI, emp, h1, h2]
theorem within_iff (x y : Int × Int) : withinI x y = true ↔ (x.2 < x.1 ∨ (y.1 ≤ x.1 ∧ x.2 ≤ y.2)) := by
 simp [withinI, emp]

theorem join_left (x y : Int × Int) : withinI x (joinI x y) = true := by
 rw [within_iff]
 rcases join_forms x y with ⟨h1, h2, h⟩ | ⟨h1, h2, h⟩ | ⟨h1, h2, h⟩ | ⟨h1, h2, h⟩ <;> rw [h] <;> (try dsimp only) <;> omega
theorem join_right (x y : Int × Int) : withinI y (joinI x y) = true := by
 rw [within_iff]
 rcases join_forms x y with ⟨h1, h2, h⟩ | ⟨h1, h2, h⟩ | ⟨h1, h2, h⟩ | ⟨h1, h2, h⟩ <;> rw [h] <;> (try dsimp only) <;> omega
end Go.Proofs.YtebklpnkcicpjaaDoor

namespace Go.Proofs.YtebklpnkcicpjaaDoor
set_option linter.unusedVariables false
set_option linter.unusedSimpArgs false

end Go.Proofs.YtebklpnkcicpjaaDoor

namespace Go.Proofs.YtebklpnkcicpjaaDoor

end Go.Proofs.YtebklpnkcicpjaaDoor

namespace Go.Proofs.YtebklpnkcicpjaaDoor
open Go.RowKit
set_option linter.unusedVariables false
set_option linter.unusedSimpArgs false

def Mem (v : Int) (z : Int × Int) : Prop := z.1 ≤ v ∧ v ≤ z.2
def Btw (v : Int) (l : List Int) : Prop := ∃ p q, p ∈ l ∧ q ∈ l ∧ p ≤ v ∧ v ≤ q

theorem wrap32_word (v : Int) : W32 (wrap32 v) := by unfold W32 wrap32; omega
theorem foldl_min_le (l : List Int) : ∀ a : Int, l.foldl min a ≤ a ∧ ∀ x ∈ l, l.foldl min a ≤ x := by
 induction l with
 | nil => intro a; exact ⟨Int.le_refl _, fun x h => by cases h⟩
 | cons y l ih =>
  intro a
  have h := ih (min a y)
  simp only [List.foldl_cons]
  refine ⟨by omega, fun x hx => ?_⟩
  rcases List.mem_cons.1 hx with rfl | hx
  ·omega
  ·exact h.2 x hx
theorem le_foldl_max (l : List Int) : ∀ a : Int, a ≤ l.foldl max a ∧ ∀ x ∈ l, x ≤ l.foldl max a := by
 induction l with
 | nil => intro a; exact ⟨Int.le_refl _, fun x h => by cases h⟩
 | cons y l ih =>
  intro a
  have h := ih (max a y)
  simp only [List.foldl_cons]
  refine ⟨by omega, fun x hx => ?_⟩
  rcases List.mem_cons.1 hx with rfl | hx
  ·omega
  ·exact h.2 x hx
theorem nth_zero_mem {l : List Int} (h : l ≠ []) : nth l 0 ∈ l := by
 cases l with
 | nil => exact absurd rfl h
 | cons a l => simp [nth]
theorem loL_le {l : List Int} {x : Int} (h : x ∈ l) : loL l ≤ x := (foldl_min_le l _).2 x h
theorem le_hiL {l : List Int} {x : Int} (h : x ∈ l) : x ≤ hiL l := (le_foldl_max l _).2 x h

theorem hull_forms (l : List Int) : hullL l = (-2147483648, 2147483647) ∨ (hullL l = (loL l, hiL l) ∧ -2147483648 ≤ loL l ∧ hiL l ≤ 2147483647) := by
 unfold hullL
 split
 ·exact .inl rfl
 ·exact .inr ⟨rfl, by omega, by omega⟩
theorem Btw.left {v : Int} {l m : List Int} (h : Btw v l) : Btw v (l ++ m) := by
 obtain ⟨p, q, hp, hq, h⟩ := h
 exact ⟨p, q, List.mem_append_left _ hp, List.mem_append_left _ hq, h⟩
theorem Btw.right {v : Int} {l m : List Int} (h : Btw v m) : Btw v (l ++ m) := by
 obtain ⟨p, q, hp, hq, h⟩ := h
 exact ⟨p, q, List.mem_append_right _ hp, List.mem_append_right _ hq, h⟩
theorem pow_pos' (n : Nat) : (0 : Int) < 2 ^ n := by have := (pow_bd n n (Nat.le_refl _)).1; omega
theorem shr_bd (a : Int) (n : Nat) : (0 ≤ a → 0 ≤ a / 2 ^ n ∧ a / 2 ^ n ≤ a) ∧ (a < 0 → a ≤ a / 2 ^ n ∧ a / 2 ^ n < 0) := by
 have hp := pow_pos' n
 constructor
 ·intro h
  exact ⟨Int.ediv_nonneg h (by omega), Int.ediv_le_self _ h⟩
 ·intro h
  refine ⟨?_, Int.ediv_neg_of_neg_of_pos h hp⟩
  rw [Int.le_ediv_iff_mul_le hp]
  have := Int.mul_le_mul_of_nonpos_left (a := a) (b := 2 ^ n) (c := 1) (by omega) (by omega)
  rw [Int.mul_one] at this
  exact this

theorem i32_bits (op : BinOp) (a b : Int) : bits op .i32 a b = wrap32 ((match op with
  | .and => BitVec.ofInt 32 a &&& BitVec.ofInt 32 b
  | .or => BitVec.ofInt 32 a ||| BitVec.ofInt 32 b
  | .xor => BitVec.ofInt 32 a ^^^ BitVec.ofInt 32 b
  | _ => BitVec.ofInt 32 a &&& ~~~(BitVec.ofInt 32 b)).toNat : Nat) := by
 have w : ∀ n : Int, IntKind.i32.wrap n = wrap32 n := fun n => by rw [IntKind.wrap_i32, wrap32]
 rw [← w]
 cases op <;> rfl
theorem lt_two_pow_bitLenAux : ∀ (f x : Nat), x < 2 ^ f → x < 2 ^ Lib.bitLenAux f x := by
 intro f
 induction f with
 | zero => intro x h; simpa [Lib.bitLenAux] using h
 | succ f ih =>
  intro x h
  unfold Lib.bitLenAux
  split
  ·rename_i e; subst e; exact Nat.one_pos
  ·have := ih (x / 2) (by rw [Nat.pow_succ] at h; omega)
   rw [Nat.add_comm, Nat.pow_succ]
   omega
theorem bitLenAux_mono : ∀ (f x y : Nat), x ≤ y → Lib.bitLenAux f x ≤ Lib.bitLenAux f y := by
 intro f
 induction f with
 | zero => intro x y _; exact Nat.le_refl _
 | succ f ih =>
  intro x y h
  unfold Lib.bitLenAux
  by_cases hx : x = 0
  ·rw [if_pos hx]; exact Nat.zero_le _
  ·rw [if_neg hx, if_neg (by omega)]
   have := ih (x / 2) (y / 2) (Nat.div_le_div_right h)
   omega
theorem le_onesI {n : Int} (h0 : 0 ≤ n) (h1 : n ≤ 2147483647) : n ≤ onesI n := by
 have := lt_two_pow_bitLenAux 64 n.toNat (by omega)
 unfold onesI Lib.bitLen
 have e : ((2 ^ Lib.bitLenAux 64 n.toNat : Nat) : Int) = 2 ^ Lib.bitLenAux 64 n.toNat := by simp
 omega
theorem onesI_mono {n m : Int} (h : n ≤ m) : onesI n ≤ onesI m := by
 have := (pow_bd _ _ (bitLenAux_mono 64 n.toNat m.toNat (by omega))).2
 unfold onesI Lib.bitLen
 omega
theorem bits_word (op : BinOp) (a b : Int) : W32 (bits op .i32 a b) := by rw [i32_bits]; exact wrap32_word _

end Go.Proofs.YtebklpnkcicpjaaDoor

namespace Go.Proofs.YtebklpnkcicpjaaDoor
open Go.RowKit
set_option linter.unusedVariables false
set_option linter.unusedSimpArgs false

end Go.Proofs.YtebklpnkcicpjaaDoor

namespace Go.Proofs.YtebklpnkcicpjaaDoor
open Go.RowKit
set_option linter.unusedVariables false
set_option linter.unusedSimpArgs false
set_option linter.unusedSectionVars false

def Sub (x y : Int × Int) : Prop := x.2 < x.1 ∨ (y.1 ≤ x.1 ∧ x.2 ≤ y.2)
section
variable {x y x' y' : Int × Int} (hx : x.1 ≤ x.2) (hy : y.1 ≤ y.2) (sx : x'.1 ≤ x.1 ∧ x.2 ≤ x'.2) (sy : y'.1 ≤ y.1 ∧ y.2 ≤ y'.2)
include hx hy sx sy

end

end Go.Proofs.YtebklpnkcicpjaaDoor


