/-
  What is proved here: what hull returns for a slice of numbers.
-/
import Derived.Test.YtjkjcnamlankoaaIvSets
namespace Go.Proofs.Ytjkjcnamlankoaa
open Go.RowKit

/-- The number with an index. -/
def nth (l : List Int) (i : Nat) : Int := l.getD i 0
def loL (l : List Int) : Int := l.foldl min (nth l 0)
def hiL (l : List Int) : Int := l.foldl max (nth l 0)
/-- From the least to the greatest number; all words, if one of them is no word. -/
def hullL (l : List Int) : Int × Int := if loL l < -2147483648 ∨ 2147483647 < hiL l then (-2147483648, 2147483647) else (loL l, hiL l)

theorem take_succ_getD {l : List Int} {k : Nat} (h : k < l.length) : l.take (k + 1) = l.take k ++ [nth l k] := by
  rw [List.take_succ_eq_append_getElem h]
  simp [nth, List.getD, h]
theorem foldl_step (f : Int → Int → Int) (l : List Int) (a : Int) (k : Nat) (h : k < l.length) : (l.take (k + 1)).foldl f a = f ((l.take k).foldl f a) (nth l k) := by
  rw [take_succ_getD h, List.foldl_append]
  rfl
theorem min_if (a b : Int) : (if b < a then b else a) = min a b := by split <;> omega
theorem max_if (a b : Int) : (if a < b then b else a) = max a b := by split <;> omega
theorem fold_mono (l : List Int) : ∀ a b : Int, a ≤ b → l.foldl min a ≤ l.foldl max b := by
  induction l with
  | nil => intro a b h; exact h
  | cons x l ih => intro a b h; exact ih _ _ (by omega)
theorem loL_le_hiL (l : List Int) : loL l ≤ hiL l := fold_mono l _ _ (Int.le_refl _)
theorem int_eq {k : IntKind} {a b : Int} (h : a = b) : Value.int k a = Value.int k b := by rw [h]

set_option maxHeartbeats 1000000 in
theorem hull_any (g cap : Nat) (l : List Int) (w : World) (hl : 1 ≤ l.length) (hl' : l.length ≤ 1000) (hg : g < w.heap.size) (hc : ∀ i, i < l.length → w.cell? ⟨g, i, none⟩ = some (.int .i64 (nth l i))) :
    Calls Try.prog 51 #[.slice (some ⟨g, 0, none⟩) l.length cap] w fun e w' => e = .returned (.agg #[.int .i32 (hullL l).1, .int .i32 (hullL l).2]) ∧ Below w.heap.size w w' := by
  have c0 := hc 0 (by omega)
  have hlz : ((l.length : Int) == 0) = false := by simpa using (by intro h; subst h; simp at hl : l ≠ [])
  have hl0 : (0 : Int) < (l.length : Int) := by omega
  have HC := Lib.hid hc
  clear hc
  go_enter Try.func51, Try.ntmps51
  go_wp2_with fail
  refine wp_region_ext (by kernel_rfl) (by kernel_rfl) ?_
  repeat (go_big_quiet_step (fail))
  refine wpQuiet_nil ?_
  rintro _ ⟨x1, rfl⟩
  go_wp2_with fail
  go_loop [3, 4, 19] (fun a b i => ∃ k : Nat, k ≤ l.length ∧ i = .int .i64 k ∧ a = .int .i64 ((l.take k).foldl min (nth l 0)) ∧ b = .int .i64 ((l.take k).foldl max (nth l 0))) (fun _ _ i => l.length - (intOf i).toNat)
  case atStart => exact ⟨0, by omega, rfl, rfl, rfl⟩
  case round =>
    obtain ⟨k, hk, rfl, rfl, rfl⟩ := hrel
    by_cases hlt : k < l.length
    · have ck := HC.out k hlt
      have s1 := Lib.hid (foldl_step min l (nth l 0) k hlt)
      have s2 := Lib.hid (foldl_step max l (nth l 0) k hlt)
      have hlt' : (k : Int) < (l.length : Int) := by omega
      go_wp2
      all_goals
        go_round
        case rel => exact ⟨k + 1, by omega, by go_num, int_eq (by rw [s1.out]; exact min_if _ _), int_eq (by rw [s2.out]; exact max_if _ _)⟩
        case measure => simp [intOf]; omega
    · have ek : l.take k = l := List.take_of_length_le (by omega)
      rw [ek]
      have e1 : l.foldl min (nth l 0) = loL l := rfl
      have e2 : l.foldl max (nth l 0) = hiL l := rfl
      rw [e1, e2]
      clear ek e1 e2
      by_cases hlo : loL l < -2147483648
      · have d1 : decide (loL l < -2147483648) = true := by simpa using hlo
        have hf : hullL l = (-2147483648, 2147483647) := by unfold hullL; rw [if_pos (.inl hlo)]
        have HF := Lib.hid hf
        clear hf
        go_wp2_with fail
        refine (Calls.extq (full_any _)).mono ?_
        rintro e _ ⟨rfl, y, rfl⟩
        go_wp2
        refine bodyPost_ret (v := .agg #[.int .i32 (hullL l).1, .int .i32 (hullL l).2]) ?hr rfl ⟨rfl, ?bel⟩
        case hr =>
          simp [results, Try.results51, go_sem]
          rw [HF.out]
          constructor <;> rfl
        case bel =>
          (repeat (first | exact Below.refl _ _ | refine Below.setCell ?_ ?_ _ | refine Ext.below ?_ ?_ _ | refine Below.alloc ?_ ?_ _)) <;> (first | (simp; done) | (simp; omega) | omega)
      · have d1 : decide (loL l < -2147483648) = false := by simpa using hlo
        by_cases hhi : 2147483647 < hiL l
        · have d2 : decide (2147483647 < hiL l) = true := by simpa using hhi
          have hf : hullL l = (-2147483648, 2147483647) := by unfold hullL; rw [if_pos (.inr hhi)]
          have HF := Lib.hid hf
          clear hf
          go_wp2_with fail
          refine (Calls.extq (full_any _)).mono ?_
          rintro e _ ⟨rfl, y, rfl⟩
          go_wp2
          refine bodyPost_ret (v := .agg #[.int .i32 (hullL l).1, .int .i32 (hullL l).2]) ?hr rfl ⟨rfl, ?bel⟩
          case hr =>
            simp [results, Try.results51, go_sem]
            rw [HF.out]
            constructor <;> rfl
          case bel =>
            (repeat (first | exact Below.refl _ _ | refine Below.setCell ?_ ?_ _ | refine Ext.below ?_ ?_ _ | refine Below.alloc ?_ ?_ _)) <;> (first | (simp; done) | (simp; omega) | omega)
        · have d2 : decide (2147483647 < hiL l) = false := by simpa using hhi
          have hf : hullL l = (loL l, hiL l) := by unfold hullL; rw [if_neg (by omega)]
          have hle := loL_le_hiL l
          have HF := Lib.hid hf
          clear hf
          go_wp2
          refine bodyPost_ret (v := .agg #[.int .i32 (hullL l).1, .int .i32 (hullL l).2]) ?hr rfl ⟨rfl, ?bel⟩
          case hr =>
            simp [results, Try.results51, go_sem]
            rw [HF.out]
            constructor <;> rfl
          case bel =>
            (repeat (first | exact Below.refl _ _ | refine Below.setCell ?_ ?_ _ | refine Ext.below ?_ ?_ _ | refine Below.alloc ?_ ?_ _)) <;> (first | (simp; done) | (simp; omega) | omega)

end Go.Proofs.Ytjkjcnamlankoaa
