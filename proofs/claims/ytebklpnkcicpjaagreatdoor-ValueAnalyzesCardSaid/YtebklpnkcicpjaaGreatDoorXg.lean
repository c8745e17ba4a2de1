/-
  What is proved here: parts bIa, bIb.
-/
import Derived.Test.YtebklpnkcicpjaaGreatDoorXa
import Derived.Test.YtebklpnkcicpjaaGreatDoorXb
import Derived.Shelf.Small.Bits
import Derived.Test.YtebklpnkcicpjaaGreatDoorProg
namespace Go.Proofs.YtebklpnkcicpjaaGreatDoor
set_option linter.unusedVariables false
set_option linter.unusedSimpArgs false
set_option maxRecDepth 100000
set_option maxHeartbeats 8000000
section
open Go.RowKit
open Go.RowKit
open Go.RowKit
open Go.RowKit
open Go.RowKit
open Go.RowKit
open Go.RowKit
open Go.RowKit
theorem bK  (w : World) :
  Calls Tryz.prog 37 #[] w fun e w' => e = .returned (.agg #[.int .i32 (-2147483648), .int .i32 2147483647]) ∧ Below w.heap.size w w' := by
 go_enter Tryz.func37, Tryz.ntmps37
 go_wp2
 all_goals
  refine bodyPost_ret (v := .agg #[.int .i32 (-2147483648), .int .i32 2147483647]) ?hr rfl ⟨rfl, ?aF⟩
  case hr =>
   simp [results, Tryz.results37, go_sem]
  case aF =>
   exact acA
theorem aB  (w : World) :
  Calls Tryz.prog 49 #[] w fun e w' => e = .returned (.agg #[.int .i32 1, .int .i32 0]) ∧ Below w.heap.size w w' := by
 go_enter Tryz.func49, Tryz.ntmps49
 go_wp2
 all_goals
  refine bodyPost_ret (v := .agg #[.int .i32 1, .int .i32 0]) ?hr rfl ⟨rfl, ?aF⟩
  case hr =>
   simp [results, Tryz.results49, go_sem]
  case aF =>
   exact acA
theorem cN (n : Int) (w : World) :
  Calls Tryz.prog 34 #[.int .i32 n] w fun e w' => e = .returned (.agg #[.int .i32 n, .int .i32 n]) ∧ Below w.heap.size w w' := by
 go_enter Tryz.func34, Tryz.ntmps34
 go_wp2
 all_goals
  refine bodyPost_ret (v := .agg #[.int .i32 n, .int .i32 n]) ?hr rfl ⟨rfl, ?aF⟩
  case hr =>
   simp [results, Tryz.results34, go_sem]
  case aF =>
   exact acA
theorem af (xl xh : Int) (w : World) :
  Calls Tryz.prog 39 #[.agg #[.int .i32 xl, .int .i32 xh]] w fun e w' => e = .returned (.bool (decide (xh < xl))) ∧ Below w.heap.size w w' := by
 go_enter Tryz.func39, Tryz.ntmps39
 go_wp2
 all_goals
  go_ret
  refine ⟨rfl, ?_⟩
  exact acA
theorem aK (xl xh : Int) (w : World) :
  Calls Tryz.prog 73 #[.agg #[.int .i32 xl, .int .i32 xh]] w fun e w' => e = .returned (.bool (xl == xh)) ∧ Below w.heap.size w w' := by
 go_enter Tryz.func73, Tryz.ntmps73
 go_wp2
 all_goals
  go_ret
  refine ⟨rfl, ?_⟩
  exact acA
theorem cG (xl xh n : Int) (w : World) :
  Calls Tryz.prog 104 #[.agg #[.int .i32 xl, .int .i32 xh], .int .i32 n] w fun e w' => e = .returned (.bool (decide (xl ≤ n) && decide (n ≤ xh))) ∧ Below w.heap.size w w' := by
 by_cases h1 : xl ≤ n
 ·have d1 : decide (xl ≤ n) = true := by simpa using h1
  go_enter Tryz.func104, Tryz.ntmps104
  go_wp2
  all_goals
   go_ret
   refine ⟨by simp [d1], ?_⟩
   exact acA
 ·have d1 : decide (xl ≤ n) = false := by simpa using h1
  go_enter Tryz.func104, Tryz.ntmps104
  go_wp2
  all_goals
   go_ret
   refine ⟨by simp, ?_⟩
   exact acA
def eD (a n : Bool) : Int × Int := if a then (1, 1) else if n then (0, 0) else (0, 1)
theorem pq  (w : World) :
  Calls Tryz.prog 106 #[.bool true, .bool true] w fun e w' => e = .returned (.agg #[.int .i32 (eD true true).1, .int .i32 (eD true true).2]) ∧ Below w.heap.size w w' := by
 go_enter Tryz.func106, Tryz.ntmps106
 go_wp2_with (first | (go_at_call 34; ((first | (with_reducible refine (Calls.ay (cN _ _)).mono ?_) | (refine (Calls.ext (cN _ _)).mono ?_)); rintro e _ ⟨rfl, y, rfl⟩)))
 all_goals
  refine bodyPost_ret (v := .agg #[.int .i32 (eD true true).1, .int .i32 (eD true true).2]) ?hr rfl ⟨rfl, ?aF⟩
  case hr =>
   simp [eD, results, Tryz.results106, go_sem]
  case aF =>
   exact acA
theorem om  (w : World) :
  Calls Tryz.prog 106 #[.bool true, .bool false] w fun e w' => e = .returned (.agg #[.int .i32 (eD true false).1, .int .i32 (eD true false).2]) ∧ Below w.heap.size w w' := by
 go_enter Tryz.func106, Tryz.ntmps106
 go_wp2_with (first | (go_at_call 34; ((first | (with_reducible refine (Calls.ay (cN _ _)).mono ?_) | (refine (Calls.ext (cN _ _)).mono ?_)); rintro e _ ⟨rfl, y, rfl⟩)))
 all_goals
  refine bodyPost_ret (v := .agg #[.int .i32 (eD true false).1, .int .i32 (eD true false).2]) ?hr rfl ⟨rfl, ?aF⟩
  case hr =>
   simp [eD, results, Tryz.results106, go_sem]
  case aF =>
   exact acA
theorem oq  (w : World) :
  Calls Tryz.prog 106 #[.bool false, .bool true] w fun e w' => e = .returned (.agg #[.int .i32 (eD false true).1, .int .i32 (eD false true).2]) ∧ Below w.heap.size w w' := by
 go_enter Tryz.func106, Tryz.ntmps106
 go_wp2_with (first | (go_at_call 34; ((first | (with_reducible refine (Calls.ay (cN _ _)).mono ?_) | (refine (Calls.ext (cN _ _)).mono ?_)); rintro e _ ⟨rfl, y, rfl⟩)))
 all_goals
  refine bodyPost_ret (v := .agg #[.int .i32 (eD false true).1, .int .i32 (eD false true).2]) ?hr rfl ⟨rfl, ?aF⟩
  case hr =>
   simp [eD, results, Tryz.results106, go_sem]
  case aF =>
   exact acA
theorem mV  (w : World) :
  Calls Tryz.prog 106 #[.bool false, .bool false] w fun e w' => e = .returned (.agg #[.int .i32 (eD false false).1, .int .i32 (eD false false).2]) ∧ Below w.heap.size w w' := by
 go_enter Tryz.func106, Tryz.ntmps106
 go_wp2_with (first | (go_at_call 34; ((first | (with_reducible refine (Calls.ay (cN _ _)).mono ?_) | (refine (Calls.ext (cN _ _)).mono ?_)); rintro e _ ⟨rfl, y, rfl⟩)))
 all_goals
  refine bodyPost_ret (v := .agg #[.int .i32 (eD false false).1, .int .i32 (eD false false).2]) ?hr rfl ⟨rfl, ?aF⟩
  case hr =>
   simp [eD, results, Tryz.results106, go_sem]
  case aF =>
   exact acA
theorem mW (a n : Bool) (w : World) : Calls Tryz.prog 106 #[.bool a, .bool n] w fun e w' => e = .returned (.agg #[.int .i32 (eD a n).1, .int .i32 (eD a n).2]) ∧ Below w.heap.size w w' := by
 cases a <;> cases n
 ·exact mV w
 ·exact oq w
 ·exact om w
 ·exact pq w
def emp (x : Int × Int) : Bool := decide (x.2 < x.1)
def bR (x y : Int × Int) : Int × Int := if emp x then (if emp y then (1, 0) else y) else if emp y then x else (min x.1 y.1, max x.2 y.2)
def aJ (x y : Int × Int) : Int × Int := if emp x || emp y || decide (min x.2 y.2 < max x.1 y.1) then (1, 0) else (max x.1 y.1, min x.2 y.2)
def vh (x y : Int × Int) : Bool := emp x || (decide (y.1 ≤ x.1) && decide (x.2 ≤ y.2))
def aO (x y : Int × Int) : Int × Int := if emp x then (if emp y then (1, 0) else y) else if emp y then x else (if y.1 < x.1 then -2147483648 else x.1, if x.2 < y.2 then 2147483647 else x.2)
theorem rS (xl xh yl yh : Int) (w : World) :
  Calls Tryz.prog 64 #[.agg #[.int .i32 xl, .int .i32 xh], .agg #[.int .i32 yl, .int .i32 yh]] w fun e w' => e = .returned (.agg #[.int .i32 (bR (xl, xh) (yl, yh)).1, .int .i32 (bR (xl, xh) (yl, yh)).2]) ∧ Below w.heap.size w w' := by
 by_cases hx : xh < xl
 ·have d1 : decide (xh < xl) = true := by simpa using hx
  by_cases hy : yh < yl
  ·have d2 : decide (yh < yl) = true := by simpa using hy
   have hf : bR (xl, xh) (yl, yh) = (1, 0) := by simp [bR, emp, hx, hy]
   have HF := acD hf
   clear hf
   go_enter Tryz.func64, Tryz.ntmps64
   go_wp2_with (first | (go_at_call 39; ((first | (with_reducible refine (Calls.ay (af _ _ _)).mono ?_) | (refine (Calls.ext (af _ _ _)).mono ?_)); rintro e _ ⟨rfl, y, rfl⟩)) | (go_at_call 49; ((first | (with_reducible refine (Calls.ay (aB _)).mono ?_) | (refine (Calls.ext (aB _)).mono ?_)); rintro e _ ⟨rfl, y, rfl⟩)))
   all_goals
    refine bodyPost_ret (v := .agg #[.int .i32 (bR (xl, xh) (yl, yh)).1, .int .i32 (bR (xl, xh) (yl, yh)).2]) ?hr rfl ⟨rfl, ?aF⟩
    case hr =>
     simp [results, Tryz.results64, go_sem]
     rw [HF.out]
     constructor <;> (try dsimp only) <;> omega
    case aF =>
     exact acA
  ·have d2 : decide (yh < yl) = false := by simpa using hy
   have hf : bR (xl, xh) (yl, yh) = (yl, yh) := by simp [bR, emp, hx, hy]
   have HF := acD hf
   clear hf
   go_enter Tryz.func64, Tryz.ntmps64
   go_wp2_with (first | (go_at_call 39; ((first | (with_reducible refine (Calls.ay (af _ _ _)).mono ?_) | (refine (Calls.ext (af _ _ _)).mono ?_)); rintro e _ ⟨rfl, y, rfl⟩)) | (go_at_call 49; ((first | (with_reducible refine (Calls.ay (aB _)).mono ?_) | (refine (Calls.ext (aB _)).mono ?_)); rintro e _ ⟨rfl, y, rfl⟩)))
   all_goals
    refine bodyPost_ret (v := .agg #[.int .i32 (bR (xl, xh) (yl, yh)).1, .int .i32 (bR (xl, xh) (yl, yh)).2]) ?hr rfl ⟨rfl, ?aF⟩
    case hr =>
     simp [results, Tryz.results64, go_sem]
     rw [HF.out]
     constructor <;> (try dsimp only) <;> omega
    case aF =>
     exact acA
 ·have d1 : decide (xh < xl) = false := by simpa using hx
  by_cases hy : yh < yl
  ·have d2 : decide (yh < yl) = true := by simpa using hy
   have hf : bR (xl, xh) (yl, yh) = (xl, xh) := by simp [bR, emp, hx, hy]
   have HF := acD hf
   clear hf
   go_enter Tryz.func64, Tryz.ntmps64
   go_wp2_with (first | (go_at_call 39; ((first | (with_reducible refine (Calls.ay (af _ _ _)).mono ?_) | (refine (Calls.ext (af _ _ _)).mono ?_)); rintro e _ ⟨rfl, y, rfl⟩)) | (go_at_call 49; ((first | (with_reducible refine (Calls.ay (aB _)).mono ?_) | (refine (Calls.ext (aB _)).mono ?_)); rintro e _ ⟨rfl, y, rfl⟩)))
   all_goals
    refine bodyPost_ret (v := .agg #[.int .i32 (bR (xl, xh) (yl, yh)).1, .int .i32 (bR (xl, xh) (yl, yh)).2]) ?hr rfl ⟨rfl, ?aF⟩
    case hr =>
     simp [results, Tryz.results64, go_sem]
     rw [HF.out]
     constructor <;> (try dsimp only) <;> omega
    case aF =>
     exact acA
  ·have d2 : decide (yh < yl) = false := by simpa using hy
   have hf : bR (xl, xh) (yl, yh) = (min xl yl, max xh yh) := by simp [bR, emp, hx, hy]
   have HF := acD hf
   clear hf
   go_enter Tryz.func64, Tryz.ntmps64
   go_wp2_with (first | (go_at_call 39; ((first | (with_reducible refine (Calls.ay (af _ _ _)).mono ?_) | (refine (Calls.ext (af _ _ _)).mono ?_)); rintro e _ ⟨rfl, y, rfl⟩)) | (go_at_call 49; ((first | (with_reducible refine (Calls.ay (aB _)).mono ?_) | (refine (Calls.ext (aB _)).mono ?_)); rintro e _ ⟨rfl, y, rfl⟩)))
   all_goals
    refine bodyPost_ret (v := .agg #[.int .i32 (bR (xl, xh) (yl, yh)).1, .int .i32 (bR (xl, xh) (yl, yh)).2]) ?hr rfl ⟨rfl, ?aF⟩
    case hr =>
     simp [results, Tryz.results64, go_sem]
     rw [HF.out]
     constructor <;> (try dsimp only) <;> omega
    case aF =>
     exact acA
theorem Fe (xl xh yl yh : Int) (hx : xh < xl) (hy : yh < yl) (w : World) :
  Calls Tryz.prog 65 #[.agg #[.int .i32 xl, .int .i32 xh], .agg #[.int .i32 yl, .int .i32 yh]] w fun e w' => e = .returned (.agg #[.int .i32 (aO (xl, xh) (yl, yh)).1, .int .i32 (aO (xl, xh) (yl, yh)).2]) ∧ Below w.heap.size w w' := by
 have d1 : decide (xh < xl) = true := by simpa using hx
 have d2 : decide (yh < yl) = true := by simpa using hy
 have hf : aO (xl, xh) (yl, yh) = (1, 0) := by simp [aO, emp, hx, hy]
 have HF := acD hf
 clear hf
 go_enter Tryz.func65, Tryz.ntmps65
 go_wp2_with (first | (go_at_call 39; ((first | (with_reducible refine (Calls.ay (af _ _ _)).mono ?_) | (refine (Calls.ext (af _ _ _)).mono ?_)); rintro e _ ⟨rfl, y, rfl⟩)) | (go_at_call 49; ((first | (with_reducible refine (Calls.ay (aB _)).mono ?_) | (refine (Calls.ext (aB _)).mono ?_)); rintro e _ ⟨rfl, y, rfl⟩)))
 all_goals
  refine bodyPost_ret (v := .agg #[.int .i32 (aO (xl, xh) (yl, yh)).1, .int .i32 (aO (xl, xh) (yl, yh)).2]) ?hr rfl ⟨rfl, ?aF⟩
  case hr =>
   simp [results, Tryz.results65, go_sem]
   rw [HF.out]
   constructor <;> (try dsimp only) <;> omega
  case aF =>
   exact acA
theorem Jk (xl xh yl yh : Int) (hx : xh < xl) (hy : ¬ yh < yl) (w : World) :
  Calls Tryz.prog 65 #[.agg #[.int .i32 xl, .int .i32 xh], .agg #[.int .i32 yl, .int .i32 yh]] w fun e w' => e = .returned (.agg #[.int .i32 (aO (xl, xh) (yl, yh)).1, .int .i32 (aO (xl, xh) (yl, yh)).2]) ∧ Below w.heap.size w w' := by
 have d1 : decide (xh < xl) = true := by simpa using hx
 have d2 : decide (yh < yl) = false := by simpa using hy
 have hf : aO (xl, xh) (yl, yh) = (yl, yh) := by simp [aO, emp, hx, hy]
 have HF := acD hf
 clear hf
 go_enter Tryz.func65, Tryz.ntmps65
 go_wp2_with (first | (go_at_call 39; ((first | (with_reducible refine (Calls.ay (af _ _ _)).mono ?_) | (refine (Calls.ext (af _ _ _)).mono ?_)); rintro e _ ⟨rfl, y, rfl⟩)) | (go_at_call 49; ((first | (with_reducible refine (Calls.ay (aB _)).mono ?_) | (refine (Calls.ext (aB _)).mono ?_)); rintro e _ ⟨rfl, y, rfl⟩)))
 all_goals
  refine bodyPost_ret (v := .agg #[.int .i32 (aO (xl, xh) (yl, yh)).1, .int .i32 (aO (xl, xh) (yl, yh)).2]) ?hr rfl ⟨rfl, ?aF⟩
  case hr =>
   simp [results, Tryz.results65, go_sem]
   rw [HF.out]
   constructor <;> (try dsimp only) <;> omega
  case aF =>
   exact acA
theorem Jj (xl xh yl yh : Int) (hx : ¬ xh < xl) (hy : yh < yl) (w : World) :
  Calls Tryz.prog 65 #[.agg #[.int .i32 xl, .int .i32 xh], .agg #[.int .i32 yl, .int .i32 yh]] w fun e w' => e = .returned (.agg #[.int .i32 (aO (xl, xh) (yl, yh)).1, .int .i32 (aO (xl, xh) (yl, yh)).2]) ∧ Below w.heap.size w w' := by
 have d1 : decide (xh < xl) = false := by simpa using hx
 have d2 : decide (yh < yl) = true := by simpa using hy
 have hf : aO (xl, xh) (yl, yh) = (xl, xh) := by simp [aO, emp, hx, hy]
 have HF := acD hf
 clear hf
 go_enter Tryz.func65, Tryz.ntmps65
 go_wp2_with (first | (go_at_call 39; ((first | (with_reducible refine (Calls.ay (af _ _ _)).mono ?_) | (refine (Calls.ext (af _ _ _)).mono ?_)); rintro e _ ⟨rfl, y, rfl⟩)) | (go_at_call 49; ((first | (with_reducible refine (Calls.ay (aB _)).mono ?_) | (refine (Calls.ext (aB _)).mono ?_)); rintro e _ ⟨rfl, y, rfl⟩)))
 all_goals
  refine bodyPost_ret (v := .agg #[.int .i32 (aO (xl, xh) (yl, yh)).1, .int .i32 (aO (xl, xh) (yl, yh)).2]) ?hr rfl ⟨rfl, ?aF⟩
  case hr =>
   simp [results, Tryz.results65, go_sem]
   rw [HF.out]
   constructor <;> (try dsimp only) <;> omega
  case aF =>
   exact acA
theorem Fi (xl xh yl yh : Int) (hx : ¬ xh < xl) (hy : ¬ yh < yl) (hl : yl < xl) (hh : xh < yh) (w : World) :
  Calls Tryz.prog 65 #[.agg #[.int .i32 xl, .int .i32 xh], .agg #[.int .i32 yl, .int .i32 yh]] w fun e w' => e = .returned (.agg #[.int .i32 (aO (xl, xh) (yl, yh)).1, .int .i32 (aO (xl, xh) (yl, yh)).2]) ∧ Below w.heap.size w w' := by
 have d1 : decide (xh < xl) = false := by simpa using hx
 have d2 : decide (yh < yl) = false := by simpa using hy
 have hf : aO (xl, xh) (yl, yh) = (-2147483648, 2147483647) := by simp [aO, emp, hx, hy, hl, hh]
 have HF := acD hf
 clear hf
 go_enter Tryz.func65, Tryz.ntmps65
 go_wp2_with fail
 refine (Calls.ext (af _ _ _)).mono ?_
 rintro e _ ⟨rfl, y1, rfl⟩
 go_wp2_with fail
 refine (Calls.ay (af _ _ _)).mono ?_
 rintro e _ ⟨rfl, y2, rfl⟩
 go_wp2_with fail
 refine (Calls.ay (af _ _ _)).mono ?_
 rintro e _ ⟨rfl, y3, rfl⟩
 have hz1 : w.heap.size < y3.w.heap.size := Nat.lt_of_lt_of_le abH y3.h.size
 have hz2 : w.heap.size + 1 < y3.w.heap.size := Nat.lt_of_lt_of_le abH y3.h.size
 have hz3 : w.heap.size + 1 + 1 < y3.w.heap.size := Nat.lt_of_lt_of_le abH y3.h.size
 go_wp2
 all_goals
  refine bodyPost_ret (v := .agg #[.int .i32 (aO (xl, xh) (yl, yh)).1, .int .i32 (aO (xl, xh) (yl, yh)).2]) ?hr rfl ⟨rfl, ?aF⟩
  case hr =>
   simp [results, Tryz.results65, go_sem]
   rw [HF.out]
   constructor <;> (try dsimp only) <;> omega
  case aF =>
   exact acA
theorem Fh (xl xh yl yh : Int) (hx : ¬ xh < xl) (hy : ¬ yh < yl) (hl : yl < xl) (hh : ¬ xh < yh) (w : World) :
  Calls Tryz.prog 65 #[.agg #[.int .i32 xl, .int .i32 xh], .agg #[.int .i32 yl, .int .i32 yh]] w fun e w' => e = .returned (.agg #[.int .i32 (aO (xl, xh) (yl, yh)).1, .int .i32 (aO (xl, xh) (yl, yh)).2]) ∧ Below w.heap.size w w' := by
 have d1 : decide (xh < xl) = false := by simpa using hx
 have d2 : decide (yh < yl) = false := by simpa using hy
 have hf : aO (xl, xh) (yl, yh) = (-2147483648, xh) := by simp [aO, emp, hx, hy, hl, hh]
 have HF := acD hf
 clear hf
 go_enter Tryz.func65, Tryz.ntmps65
 go_wp2_with fail
 refine (Calls.ext (af _ _ _)).mono ?_
 rintro e _ ⟨rfl, y1, rfl⟩
 go_wp2_with fail
 refine (Calls.ay (af _ _ _)).mono ?_
 rintro e _ ⟨rfl, y2, rfl⟩
 go_wp2_with fail
 refine (Calls.ay (af _ _ _)).mono ?_
 rintro e _ ⟨rfl, y3, rfl⟩
 have hz1 : w.heap.size < y3.w.heap.size := Nat.lt_of_lt_of_le abH y3.h.size
 have hz2 : w.heap.size + 1 < y3.w.heap.size := Nat.lt_of_lt_of_le abH y3.h.size
 have hz3 : w.heap.size + 1 + 1 < y3.w.heap.size := Nat.lt_of_lt_of_le abH y3.h.size
 go_wp2
 all_goals
  refine bodyPost_ret (v := .agg #[.int .i32 (aO (xl, xh) (yl, yh)).1, .int .i32 (aO (xl, xh) (yl, yh)).2]) ?hr rfl ⟨rfl, ?aF⟩
  case hr =>
   simp [results, Tryz.results65, go_sem]
   rw [HF.out]
   constructor <;> (try dsimp only) <;> omega
  case aF =>
   exact acA
theorem Fg (xl xh yl yh : Int) (hx : ¬ xh < xl) (hy : ¬ yh < yl) (hl : ¬ yl < xl) (hh : xh < yh) (w : World) :
  Calls Tryz.prog 65 #[.agg #[.int .i32 xl, .int .i32 xh], .agg #[.int .i32 yl, .int .i32 yh]] w fun e w' => e = .returned (.agg #[.int .i32 (aO (xl, xh) (yl, yh)).1, .int .i32 (aO (xl, xh) (yl, yh)).2]) ∧ Below w.heap.size w w' := by
 have d1 : decide (xh < xl) = false := by simpa using hx
 have d2 : decide (yh < yl) = false := by simpa using hy
 have hf : aO (xl, xh) (yl, yh) = (xl, 2147483647) := by simp [aO, emp, hx, hy, hl, hh]
 have HF := acD hf
 clear hf
 go_enter Tryz.func65, Tryz.ntmps65
 go_wp2_with fail
 refine (Calls.ext (af _ _ _)).mono ?_
 rintro e _ ⟨rfl, y1, rfl⟩
 go_wp2_with fail
 refine (Calls.ay (af _ _ _)).mono ?_
 rintro e _ ⟨rfl, y2, rfl⟩
 go_wp2_with fail
 refine (Calls.ay (af _ _ _)).mono ?_
 rintro e _ ⟨rfl, y3, rfl⟩
 have hz1 : w.heap.size < y3.w.heap.size := Nat.lt_of_lt_of_le abH y3.h.size
 have hz2 : w.heap.size + 1 < y3.w.heap.size := Nat.lt_of_lt_of_le abH y3.h.size
 have hz3 : w.heap.size + 1 + 1 < y3.w.heap.size := Nat.lt_of_lt_of_le abH y3.h.size
 go_wp2
 all_goals
  refine bodyPost_ret (v := .agg #[.int .i32 (aO (xl, xh) (yl, yh)).1, .int .i32 (aO (xl, xh) (yl, yh)).2]) ?hr rfl ⟨rfl, ?aF⟩
  case hr =>
   simp [results, Tryz.results65, go_sem]
   rw [HF.out]
   constructor <;> (try dsimp only) <;> omega
  case aF =>
   exact acA
theorem Ff (xl xh yl yh : Int) (hx : ¬ xh < xl) (hy : ¬ yh < yl) (hl : ¬ yl < xl) (hh : ¬ xh < yh) (w : World) :
  Calls Tryz.prog 65 #[.agg #[.int .i32 xl, .int .i32 xh], .agg #[.int .i32 yl, .int .i32 yh]] w fun e w' => e = .returned (.agg #[.int .i32 (aO (xl, xh) (yl, yh)).1, .int .i32 (aO (xl, xh) (yl, yh)).2]) ∧ Below w.heap.size w w' := by
 have d1 : decide (xh < xl) = false := by simpa using hx
 have d2 : decide (yh < yl) = false := by simpa using hy
 have hf : aO (xl, xh) (yl, yh) = (xl, xh) := by simp [aO, emp, hx, hy, hl, hh]
 have HF := acD hf
 clear hf
 go_enter Tryz.func65, Tryz.ntmps65
 go_wp2_with fail
 refine (Calls.ext (af _ _ _)).mono ?_
 rintro e _ ⟨rfl, y1, rfl⟩
 go_wp2_with fail
 refine (Calls.ay (af _ _ _)).mono ?_
 rintro e _ ⟨rfl, y2, rfl⟩
 go_wp2_with fail
 refine (Calls.ay (af _ _ _)).mono ?_
 rintro e _ ⟨rfl, y3, rfl⟩
 have hz1 : w.heap.size < y3.w.heap.size := Nat.lt_of_lt_of_le abH y3.h.size
 have hz2 : w.heap.size + 1 < y3.w.heap.size := Nat.lt_of_lt_of_le abH y3.h.size
 have hz3 : w.heap.size + 1 + 1 < y3.w.heap.size := Nat.lt_of_lt_of_le abH y3.h.size
 go_wp2
 all_goals
  refine bodyPost_ret (v := .agg #[.int .i32 (aO (xl, xh) (yl, yh)).1, .int .i32 (aO (xl, xh) (yl, yh)).2]) ?hr rfl ⟨rfl, ?aF⟩
  case hr =>
   simp [results, Tryz.results65, go_sem]
   rw [HF.out]
   constructor <;> (try dsimp only) <;> omega
  case aF =>
   exact acA
theorem Ca (xl xh yl yh : Int) (w : World) : Calls Tryz.prog 65 #[.agg #[.int .i32 xl, .int .i32 xh], .agg #[.int .i32 yl, .int .i32 yh]] w fun e w' => e = .returned (.agg #[.int .i32 (aO (xl, xh) (yl, yh)).1, .int .i32 (aO (xl, xh) (yl, yh)).2]) ∧ Below w.heap.size w w' := by
 by_cases hx : xh < xl
 ·by_cases hy : yh < yl
  ·exact Fe xl xh yl yh hx hy w
  ·exact Jk xl xh yl yh hx hy w
 ·by_cases hy : yh < yl
  ·exact Jj xl xh yl yh hx hy w
  ·by_cases hl : yl < xl
   ·by_cases hh : xh < yh
    ·exact Fi xl xh yl yh hx hy hl hh w
    ·exact Fh xl xh yl yh hx hy hl hh w
   ·by_cases hh : xh < yh
    ·exact Fg xl xh yl yh hx hy hl hh w
    ·exact Ff xl xh yl yh hx hy hl hh w
theorem Dq (xl xh yl yh : Int) (hx : xh < xl) (hl : xl < yl) (hh : yh < xh) (w : World) :
  Calls Tryz.prog 38 #[.agg #[.int .i32 xl, .int .i32 xh], .agg #[.int .i32 yl, .int .i32 yh]] w fun e w' => e = .returned (.agg #[.int .i32 (aJ (xl, xh) (yl, yh)).1, .int .i32 (aJ (xl, xh) (yl, yh)).2]) ∧ Below w.heap.size w w' := by
 have d1 : decide (xh < xl) = true := by simpa using hx
 have hf : aJ (xl, xh) (yl, yh) = (1, 0) := by simp [aJ, emp, hx]
 have HF := acD hf
 clear hf
 go_enter Tryz.func38, Tryz.ntmps38
 go_wp2_with (first | (go_at_call 39; ((first | (with_reducible refine (Calls.ay (af _ _ _)).mono ?_) | (refine (Calls.ext (af _ _ _)).mono ?_)); rintro e _ ⟨rfl, y, rfl⟩)) | (go_at_call 49; ((first | (with_reducible refine (Calls.ay (aB _)).mono ?_) | (refine (Calls.ext (aB _)).mono ?_)); rintro e _ ⟨rfl, y, rfl⟩)))
 all_goals
  refine bodyPost_ret (v := .agg #[.int .i32 (aJ (xl, xh) (yl, yh)).1, .int .i32 (aJ (xl, xh) (yl, yh)).2]) ?hr rfl ⟨rfl, ?aF⟩
  case hr =>
   simp [results, Tryz.results38, go_sem]
   rw [HF.out]
   constructor <;> (try dsimp only) <;> omega
  case aF =>
   exact acA
theorem Dl (xl xh yl yh : Int) (hx : ¬ xh < xl) (hy : yh < yl) (hl : xl < yl) (hh : yh < xh) (w : World) :
  Calls Tryz.prog 38 #[.agg #[.int .i32 xl, .int .i32 xh], .agg #[.int .i32 yl, .int .i32 yh]] w fun e w' => e = .returned (.agg #[.int .i32 (aJ (xl, xh) (yl, yh)).1, .int .i32 (aJ (xl, xh) (yl, yh)).2]) ∧ Below w.heap.size w w' := by
 have d1 : decide (xh < xl) = false := by simpa using hx
 have d2 : decide (yh < yl) = true := by simpa using hy
 have hf : aJ (xl, xh) (yl, yh) = (1, 0) := by simp [aJ, emp, hy]
 have HF := acD hf
 clear hf
 go_enter Tryz.func38, Tryz.ntmps38
 go_wp2_with (first | (go_at_call 39; ((first | (with_reducible refine (Calls.ay (af _ _ _)).mono ?_) | (refine (Calls.ext (af _ _ _)).mono ?_)); rintro e _ ⟨rfl, y, rfl⟩)) | (go_at_call 49; ((first | (with_reducible refine (Calls.ay (aB _)).mono ?_) | (refine (Calls.ext (aB _)).mono ?_)); rintro e _ ⟨rfl, y, rfl⟩)))
 all_goals
  refine bodyPost_ret (v := .agg #[.int .i32 (aJ (xl, xh) (yl, yh)).1, .int .i32 (aJ (xl, xh) (yl, yh)).2]) ?hr rfl ⟨rfl, ?aF⟩
  case hr =>
   simp [results, Tryz.results38, go_sem]
   rw [HF.out]
   constructor <;> (try dsimp only) <;> omega
  case aF =>
   exact acA
theorem Di (xl xh yl yh : Int) (hx : ¬ xh < xl) (hy : ¬ yh < yl) (hz : ¬ yh < yl) (hl : xl < yl) (hh : yh < xh) (w : World) :
  Calls Tryz.prog 38 #[.agg #[.int .i32 xl, .int .i32 xh], .agg #[.int .i32 yl, .int .i32 yh]] w fun e w' => e = .returned (.agg #[.int .i32 (aJ (xl, xh) (yl, yh)).1, .int .i32 (aJ (xl, xh) (yl, yh)).2]) ∧ Below w.heap.size w w' := by
 have d1 : decide (xh < xl) = false := by simpa using hx
 have d2 : decide (yh < yl) = false := by simpa using hy
 have d3 : decide (yh < yl) = false := by simpa using hz
 have hf : aJ (xl, xh) (yl, yh) = (yl, yh) := by simp [aJ, emp]; rw [if_neg abo]; congr 1 <;> omega
 have HF := acD hf
 clear hf
 go_enter Tryz.func38, Tryz.ntmps38
 go_wp2_with (first | (go_at_call 39; ((first | (with_reducible refine (Calls.ay (af _ _ _)).mono ?_) | (refine (Calls.ext (af _ _ _)).mono ?_)); rintro e _ ⟨rfl, y, rfl⟩)) | (go_at_call 49; ((first | (with_reducible refine (Calls.ay (aB _)).mono ?_) | (refine (Calls.ext (aB _)).mono ?_)); rintro e _ ⟨rfl, y, rfl⟩)))
 all_goals
  refine bodyPost_ret (v := .agg #[.int .i32 (aJ (xl, xh) (yl, yh)).1, .int .i32 (aJ (xl, xh) (yl, yh)).2]) ?hr rfl ⟨rfl, ?aF⟩
  case hr =>
   simp [results, Tryz.results38, go_sem]
   rw [HF.out]
   constructor <;> (try dsimp only) <;> omega
  case aF =>
   exact acA
theorem Dp (xl xh yl yh : Int) (hx : xh < xl) (hl : xl < yl) (hh : xh ≤ yh) (w : World) :
  Calls Tryz.prog 38 #[.agg #[.int .i32 xl, .int .i32 xh], .agg #[.int .i32 yl, .int .i32 yh]] w fun e w' => e = .returned (.agg #[.int .i32 (aJ (xl, xh) (yl, yh)).1, .int .i32 (aJ (xl, xh) (yl, yh)).2]) ∧ Below w.heap.size w w' := by
 have d1 : decide (xh < xl) = true := by simpa using hx
 have hf : aJ (xl, xh) (yl, yh) = (1, 0) := by simp [aJ, emp, hx]
 have HF := acD hf
 clear hf
 go_enter Tryz.func38, Tryz.ntmps38
 go_wp2_with (first | (go_at_call 39; ((first | (with_reducible refine (Calls.ay (af _ _ _)).mono ?_) | (refine (Calls.ext (af _ _ _)).mono ?_)); rintro e _ ⟨rfl, y, rfl⟩)) | (go_at_call 49; ((first | (with_reducible refine (Calls.ay (aB _)).mono ?_) | (refine (Calls.ext (aB _)).mono ?_)); rintro e _ ⟨rfl, y, rfl⟩)))
 all_goals
  refine bodyPost_ret (v := .agg #[.int .i32 (aJ (xl, xh) (yl, yh)).1, .int .i32 (aJ (xl, xh) (yl, yh)).2]) ?hr rfl ⟨rfl, ?aF⟩
  case hr =>
   simp [results, Tryz.results38, go_sem]
   rw [HF.out]
   constructor <;> (try dsimp only) <;> omega
  case aF =>
   exact acA
theorem Dk (xl xh yl yh : Int) (hx : ¬ xh < xl) (hy : yh < yl) (hl : xl < yl) (hh : xh ≤ yh) (w : World) :
  Calls Tryz.prog 38 #[.agg #[.int .i32 xl, .int .i32 xh], .agg #[.int .i32 yl, .int .i32 yh]] w fun e w' => e = .returned (.agg #[.int .i32 (aJ (xl, xh) (yl, yh)).1, .int .i32 (aJ (xl, xh) (yl, yh)).2]) ∧ Below w.heap.size w w' := by
 have d1 : decide (xh < xl) = false := by simpa using hx
 have d2 : decide (yh < yl) = true := by simpa using hy
 have hf : aJ (xl, xh) (yl, yh) = (1, 0) := by simp [aJ, emp, hy]
 have HF := acD hf
 clear hf
 go_enter Tryz.func38, Tryz.ntmps38
 go_wp2_with (first | (go_at_call 39; ((first | (with_reducible refine (Calls.ay (af _ _ _)).mono ?_) | (refine (Calls.ext (af _ _ _)).mono ?_)); rintro e _ ⟨rfl, y, rfl⟩)) | (go_at_call 49; ((first | (with_reducible refine (Calls.ay (aB _)).mono ?_) | (refine (Calls.ext (aB _)).mono ?_)); rintro e _ ⟨rfl, y, rfl⟩)))
 all_goals
  refine bodyPost_ret (v := .agg #[.int .i32 (aJ (xl, xh) (yl, yh)).1, .int .i32 (aJ (xl, xh) (yl, yh)).2]) ?hr rfl ⟨rfl, ?aF⟩
  case hr =>
   simp [results, Tryz.results38, go_sem]
   rw [HF.out]
   constructor <;> (try dsimp only) <;> omega
  case aF =>
   exact acA
theorem Ds (xl xh yl yh : Int) (hx : ¬ xh < xl) (hy : ¬ yh < yl) (hz : xh < yl) (hl : xl < yl) (hh : xh ≤ yh) (w : World) :
  Calls Tryz.prog 38 #[.agg #[.int .i32 xl, .int .i32 xh], .agg #[.int .i32 yl, .int .i32 yh]] w fun e w' => e = .returned (.agg #[.int .i32 (aJ (xl, xh) (yl, yh)).1, .int .i32 (aJ (xl, xh) (yl, yh)).2]) ∧ Below w.heap.size w w' := by
 have d1 : decide (xh < xl) = false := by simpa using hx
 have d2 : decide (yh < yl) = false := by simpa using hy
 have d3 : decide (xh < yl) = true := by simpa using hz
 have hf : aJ (xl, xh) (yl, yh) = (1, 0) := by simp [aJ, emp]; omega
 have HF := acD hf
 clear hf
 go_enter Tryz.func38, Tryz.ntmps38
 go_wp2_with (first | (go_at_call 39; ((first | (with_reducible refine (Calls.ay (af _ _ _)).mono ?_) | (refine (Calls.ext (af _ _ _)).mono ?_)); rintro e _ ⟨rfl, y, rfl⟩)) | (go_at_call 49; ((first | (with_reducible refine (Calls.ay (aB _)).mono ?_) | (refine (Calls.ext (aB _)).mono ?_)); rintro e _ ⟨rfl, y, rfl⟩)))
 all_goals
  refine bodyPost_ret (v := .agg #[.int .i32 (aJ (xl, xh) (yl, yh)).1, .int .i32 (aJ (xl, xh) (yl, yh)).2]) ?hr rfl ⟨rfl, ?aF⟩
  case hr =>
   simp [results, Tryz.results38, go_sem]
   rw [HF.out]
   constructor <;> (try dsimp only) <;> omega
  case aF =>
   exact acA
theorem Dh (xl xh yl yh : Int) (hx : ¬ xh < xl) (hy : ¬ yh < yl) (hz : ¬ xh < yl) (hl : xl < yl) (hh : xh ≤ yh) (w : World) :
  Calls Tryz.prog 38 #[.agg #[.int .i32 xl, .int .i32 xh], .agg #[.int .i32 yl, .int .i32 yh]] w fun e w' => e = .returned (.agg #[.int .i32 (aJ (xl, xh) (yl, yh)).1, .int .i32 (aJ (xl, xh) (yl, yh)).2]) ∧ Below w.heap.size w w' := by
 have d1 : decide (xh < xl) = false := by simpa using hx
 have d2 : decide (yh < yl) = false := by simpa using hy
 have d3 : decide (xh < yl) = false := by simpa using hz
 have hf : aJ (xl, xh) (yl, yh) = (yl, xh) := by simp [aJ, emp]; rw [if_neg abo]; congr 1 <;> omega
 have HF := acD hf
 clear hf
 go_enter Tryz.func38, Tryz.ntmps38
 go_wp2_with (first | (go_at_call 39; ((first | (with_reducible refine (Calls.ay (af _ _ _)).mono ?_) | (refine (Calls.ext (af _ _ _)).mono ?_)); rintro e _ ⟨rfl, y, rfl⟩)) | (go_at_call 49; ((first | (with_reducible refine (Calls.ay (aB _)).mono ?_) | (refine (Calls.ext (aB _)).mono ?_)); rintro e _ ⟨rfl, y, rfl⟩)))
 all_goals
  refine bodyPost_ret (v := .agg #[.int .i32 (aJ (xl, xh) (yl, yh)).1, .int .i32 (aJ (xl, xh) (yl, yh)).2]) ?hr rfl ⟨rfl, ?aF⟩
  case hr =>
   simp [results, Tryz.results38, go_sem]
   rw [HF.out]
   constructor <;> (try dsimp only) <;> omega
  case aF =>
   exact acA
theorem Dn (xl xh yl yh : Int) (hx : xh < xl) (hl : yl ≤ xl) (hh : yh < xh) (w : World) :
  Calls Tryz.prog 38 #[.agg #[.int .i32 xl, .int .i32 xh], .agg #[.int .i32 yl, .int .i32 yh]] w fun e w' => e = .returned (.agg #[.int .i32 (aJ (xl, xh) (yl, yh)).1, .int .i32 (aJ (xl, xh) (yl, yh)).2]) ∧ Below w.heap.size w w' := by
 have d1 : decide (xh < xl) = true := by simpa using hx
 have hf : aJ (xl, xh) (yl, yh) = (1, 0) := by simp [aJ, emp, hx]
 have HF := acD hf
 clear hf
 go_enter Tryz.func38, Tryz.ntmps38
 go_wp2_with (first | (go_at_call 39; ((first | (with_reducible refine (Calls.ay (af _ _ _)).mono ?_) | (refine (Calls.ext (af _ _ _)).mono ?_)); rintro e _ ⟨rfl, y, rfl⟩)) | (go_at_call 49; ((first | (with_reducible refine (Calls.ay (aB _)).mono ?_) | (refine (Calls.ext (aB _)).mono ?_)); rintro e _ ⟨rfl, y, rfl⟩)))
 all_goals
  refine bodyPost_ret (v := .agg #[.int .i32 (aJ (xl, xh) (yl, yh)).1, .int .i32 (aJ (xl, xh) (yl, yh)).2]) ?hr rfl ⟨rfl, ?aF⟩
  case hr =>
   simp [results, Tryz.results38, go_sem]
   rw [HF.out]
   constructor <;> (try dsimp only) <;> omega
  case aF =>
   exact acA
theorem Dj (xl xh yl yh : Int) (hx : ¬ xh < xl) (hy : yh < yl) (hl : yl ≤ xl) (hh : yh < xh) (w : World) :
  Calls Tryz.prog 38 #[.agg #[.int .i32 xl, .int .i32 xh], .agg #[.int .i32 yl, .int .i32 yh]] w fun e w' => e = .returned (.agg #[.int .i32 (aJ (xl, xh) (yl, yh)).1, .int .i32 (aJ (xl, xh) (yl, yh)).2]) ∧ Below w.heap.size w w' := by
 have d1 : decide (xh < xl) = false := by simpa using hx
 have d2 : decide (yh < yl) = true := by simpa using hy
 have hf : aJ (xl, xh) (yl, yh) = (1, 0) := by simp [aJ, emp, hy]
 have HF := acD hf
 clear hf
 go_enter Tryz.func38, Tryz.ntmps38
 go_wp2_with (first | (go_at_call 39; ((first | (with_reducible refine (Calls.ay (af _ _ _)).mono ?_) | (refine (Calls.ext (af _ _ _)).mono ?_)); rintro e _ ⟨rfl, y, rfl⟩)) | (go_at_call 49; ((first | (with_reducible refine (Calls.ay (aB _)).mono ?_) | (refine (Calls.ext (aB _)).mono ?_)); rintro e _ ⟨rfl, y, rfl⟩)))
 all_goals
  refine bodyPost_ret (v := .agg #[.int .i32 (aJ (xl, xh) (yl, yh)).1, .int .i32 (aJ (xl, xh) (yl, yh)).2]) ?hr rfl ⟨rfl, ?aF⟩
  case hr =>
   simp [results, Tryz.results38, go_sem]
   rw [HF.out]
   constructor <;> (try dsimp only) <;> omega
  case aF =>
   exact acA
theorem Dr (xl xh yl yh : Int) (hx : ¬ xh < xl) (hy : ¬ yh < yl) (hz : yh < xl) (hl : yl ≤ xl) (hh : yh < xh) (w : World) :
  Calls Tryz.prog 38 #[.agg #[.int .i32 xl, .int .i32 xh], .agg #[.int .i32 yl, .int .i32 yh]] w fun e w' => e = .returned (.agg #[.int .i32 (aJ (xl, xh) (yl, yh)).1, .int .i32 (aJ (xl, xh) (yl, yh)).2]) ∧ Below w.heap.size w w' := by
 have d1 : decide (xh < xl) = false := by simpa using hx
 have d2 : decide (yh < yl) = false := by simpa using hy
 have d3 : decide (yh < xl) = true := by simpa using hz
 have hf : aJ (xl, xh) (yl, yh) = (1, 0) := by simp [aJ, emp]; omega
 have HF := acD hf
 clear hf
 go_enter Tryz.func38, Tryz.ntmps38
 go_wp2_with (first | (go_at_call 39; ((first | (with_reducible refine (Calls.ay (af _ _ _)).mono ?_) | (refine (Calls.ext (af _ _ _)).mono ?_)); rintro e _ ⟨rfl, y, rfl⟩)) | (go_at_call 49; ((first | (with_reducible refine (Calls.ay (aB _)).mono ?_) | (refine (Calls.ext (aB _)).mono ?_)); rintro e _ ⟨rfl, y, rfl⟩)))
 all_goals
  refine bodyPost_ret (v := .agg #[.int .i32 (aJ (xl, xh) (yl, yh)).1, .int .i32 (aJ (xl, xh) (yl, yh)).2]) ?hr rfl ⟨rfl, ?aF⟩
  case hr =>
   simp [results, Tryz.results38, go_sem]
   rw [HF.out]
   constructor <;> (try dsimp only) <;> omega
  case aF =>
   exact acA
theorem Dg (xl xh yl yh : Int) (hx : ¬ xh < xl) (hy : ¬ yh < yl) (hz : ¬ yh < xl) (hl : yl ≤ xl) (hh : yh < xh) (w : World) :
  Calls Tryz.prog 38 #[.agg #[.int .i32 xl, .int .i32 xh], .agg #[.int .i32 yl, .int .i32 yh]] w fun e w' => e = .returned (.agg #[.int .i32 (aJ (xl, xh) (yl, yh)).1, .int .i32 (aJ (xl, xh) (yl, yh)).2]) ∧ Below w.heap.size w w' := by
 have d1 : decide (xh < xl) = false := by simpa using hx
 have d2 : decide (yh < yl) = false := by simpa using hy
 have d3 : decide (yh < xl) = false := by simpa using hz
 have hf : aJ (xl, xh) (yl, yh) = (xl, yh) := by simp [aJ, emp]; rw [if_neg abo]; congr 1 <;> omega
 have HF := acD hf
 clear hf
 go_enter Tryz.func38, Tryz.ntmps38
 go_wp2_with (first | (go_at_call 39; ((first | (with_reducible refine (Calls.ay (af _ _ _)).mono ?_) | (refine (Calls.ext (af _ _ _)).mono ?_)); rintro e _ ⟨rfl, y, rfl⟩)) | (go_at_call 49; ((first | (with_reducible refine (Calls.ay (aB _)).mono ?_) | (refine (Calls.ext (aB _)).mono ?_)); rintro e _ ⟨rfl, y, rfl⟩)))
 all_goals
  refine bodyPost_ret (v := .agg #[.int .i32 (aJ (xl, xh) (yl, yh)).1, .int .i32 (aJ (xl, xh) (yl, yh)).2]) ?hr rfl ⟨rfl, ?aF⟩
  case hr =>
   simp [results, Tryz.results38, go_sem]
   rw [HF.out]
   constructor <;> (try dsimp only) <;> omega
  case aF =>
   exact acA
theorem Dm (xl xh yl yh : Int) (hx : xh < xl) (hl : yl ≤ xl) (hh : xh ≤ yh) (w : World) :
  Calls Tryz.prog 38 #[.agg #[.int .i32 xl, .int .i32 xh], .agg #[.int .i32 yl, .int .i32 yh]] w fun e w' => e = .returned (.agg #[.int .i32 (aJ (xl, xh) (yl, yh)).1, .int .i32 (aJ (xl, xh) (yl, yh)).2]) ∧ Below w.heap.size w w' := by
 have d1 : decide (xh < xl) = true := by simpa using hx
 have hf : aJ (xl, xh) (yl, yh) = (1, 0) := by simp [aJ, emp, hx]
 have HF := acD hf
 clear hf
 go_enter Tryz.func38, Tryz.ntmps38
 go_wp2_with (first | (go_at_call 39; ((first | (with_reducible refine (Calls.ay (af _ _ _)).mono ?_) | (refine (Calls.ext (af _ _ _)).mono ?_)); rintro e _ ⟨rfl, y, rfl⟩)) | (go_at_call 49; ((first | (with_reducible refine (Calls.ay (aB _)).mono ?_) | (refine (Calls.ext (aB _)).mono ?_)); rintro e _ ⟨rfl, y, rfl⟩)))
 all_goals
  refine bodyPost_ret (v := .agg #[.int .i32 (aJ (xl, xh) (yl, yh)).1, .int .i32 (aJ (xl, xh) (yl, yh)).2]) ?hr rfl ⟨rfl, ?aF⟩
  case hr =>
   simp [results, Tryz.results38, go_sem]
   rw [HF.out]
   constructor <;> (try dsimp only) <;> omega
  case aF =>
   exact acA
theorem Df (xl xh yl yh : Int) (hx : ¬ xh < xl) (hy : ¬ yh < yl) (hz : ¬ xh < xl) (hl : yl ≤ xl) (hh : xh ≤ yh) (w : World) :
  Calls Tryz.prog 38 #[.agg #[.int .i32 xl, .int .i32 xh], .agg #[.int .i32 yl, .int .i32 yh]] w fun e w' => e = .returned (.agg #[.int .i32 (aJ (xl, xh) (yl, yh)).1, .int .i32 (aJ (xl, xh) (yl, yh)).2]) ∧ Below w.heap.size w w' := by
 have d1 : decide (xh < xl) = false := by simpa using hx
 have d2 : decide (yh < yl) = false := by simpa using hy
 have d3 : decide (xh < xl) = false := by simpa using hz
 have hf : aJ (xl, xh) (yl, yh) = (xl, xh) := by simp [aJ, emp]; rw [if_neg abo]; congr 1 <;> omega
 have HF := acD hf
 clear hf
 go_enter Tryz.func38, Tryz.ntmps38
 go_wp2_with (first | (go_at_call 39; ((first | (with_reducible refine (Calls.ay (af _ _ _)).mono ?_) | (refine (Calls.ext (af _ _ _)).mono ?_)); rintro e _ ⟨rfl, y, rfl⟩)) | (go_at_call 49; ((first | (with_reducible refine (Calls.ay (aB _)).mono ?_) | (refine (Calls.ext (aB _)).mono ?_)); rintro e _ ⟨rfl, y, rfl⟩)))
 all_goals
  refine bodyPost_ret (v := .agg #[.int .i32 (aJ (xl, xh) (yl, yh)).1, .int .i32 (aJ (xl, xh) (yl, yh)).2]) ?hr rfl ⟨rfl, ?aF⟩
  case hr =>
   simp [results, Tryz.results38, go_sem]
   rw [HF.out]
   constructor <;> (try dsimp only) <;> omega
  case aF =>
   exact acA
theorem nY (xl xh yl yh : Int) (w : World) : Calls Tryz.prog 38 #[.agg #[.int .i32 xl, .int .i32 xh], .agg #[.int .i32 yl, .int .i32 yh]] w fun e w' => e = .returned (.agg #[.int .i32 (aJ (xl, xh) (yl, yh)).1, .int .i32 (aJ (xl, xh) (yl, yh)).2]) ∧ Below w.heap.size w w' := by
 by_cases hl : xl < yl
 ·by_cases hh : yh < xh
  ·by_cases hx : xh < xl
   ·exact Dq xl xh yl yh hx hl hh w
   ·by_cases hy : yh < yl
    ·exact Dl xl xh yl yh hx hy hl hh w
    ·by_cases hz : yh < yl
     ·exact absurd hz abo
     ·exact Di xl xh yl yh hx hy hz hl hh w
  ·have hh : xh ≤ yh := by omega
   by_cases hx : xh < xl
   ·exact Dp xl xh yl yh hx hl hh w
   ·by_cases hy : yh < yl
    ·exact Dk xl xh yl yh hx hy hl hh w
    ·by_cases hz : xh < yl
     ·exact Ds xl xh yl yh hx hy hz hl hh w
     ·exact Dh xl xh yl yh hx hy hz hl hh w
 ·have hl : yl ≤ xl := by omega
  by_cases hh : yh < xh
  ·by_cases hx : xh < xl
   ·exact Dn xl xh yl yh hx hl hh w
   ·by_cases hy : yh < yl
    ·exact Dj xl xh yl yh hx hy hl hh w
    ·by_cases hz : yh < xl
     ·exact Dr xl xh yl yh hx hy hz hl hh w
     ·exact Dg xl xh yl yh hx hy hz hl hh w
  ·have hh : xh ≤ yh := by omega
   by_cases hx : xh < xl
   ·exact Dm xl xh yl yh hx hl hh w
   ·by_cases hy : yh < yl
    ·exact absurd hy abo
    ·by_cases hz : xh < xl
     ·exact absurd hz abo
     ·exact Df xl xh yl yh hx hy hz hl hh w
def nth (l : List Int) (i : Nat) : Int := l.getD i 0
def zL (l : List Int) : Int := l.foldl min (nth l 0)
def zS (l : List Int) : Int := l.foldl max (nth l 0)
def aD (l : List Int) : Int × Int := if zL l < -2147483648 ∨ 2147483647 < zS l then (-2147483648, 2147483647) else (zL l, zS l)
theorem qM {l : List Int} {k : Nat} (h : k < l.length) : l.take (k + 1) = l.take k ++ [nth l k] := by
 rw [List.take_succ_eq_append_getElem h]
 simp [nth, List.getD, h]
theorem jT (f : Int → Int → Int) (l : List Int) (a : Int) (k : Nat) (h : k < l.length) : (l.take (k + 1)).foldl f a = f ((l.take k).foldl f a) (nth l k) := by
 rw [qM h, List.foldl_append]
 rfl
theorem Gv (a b : Int) : (if b < a then b else a) = min a b := by split <;> omega
theorem Gx (a b : Int) : (if a < b then b else a) = max a b := by split <;> omega
theorem D6 (l : List Int) : ∀ a b : Int, a ≤ b → l.foldl min a ≤ l.foldl max b := by
 induction l with
 | nil => intro a b h; exact h
 | cons x l ih => intro a b h; exact ih _ _ abo
theorem rK (l : List Int) : zL l ≤ zS l := D6 l _ _ (Int.le_refl _)
theorem int_eq {k : IntKind} {a b : Int} (h : a = b) : Value.int k a = Value.int k b := by rw [h]
theorem iJ (g cap : Nat) (l : List Int) (w : World) (hl : 1 ≤ l.length) (hl' : l.length ≤ 1000) (hg : g < w.heap.size) (hc : ∀ i, i < l.length → w.cell? ⟨g, i, none⟩ = some (.int .i64 (nth l i))) :
  Calls Tryz.prog 103 #[.slice (some ⟨g, 0, none⟩) l.length cap] w fun e w' => e = .returned (.agg #[.int .i32 (aD l).1, .int .i32 (aD l).2]) ∧ Below w.heap.size w w' := by
 have c0 := hc 0 abo
 have hlz : ((l.length : Int) == 0) = false := by simpa using (by intro h; subst h; simp at hl : l ≠ [])
 have hl0 : (0 : Int) < (l.length : Int) := by omega
 have HC := acD hc
 clear hc
 go_enter Tryz.func103, Tryz.ntmps103
 go_wp2_with fail
 refine az abp abp ?_
 repeat (go_big_quiet_step (fail))
 refine wpQuiet_nil ?_
 rintro _ ⟨x1, rfl⟩
 go_wp2_with fail
 go_loop [3, 4, 19] (fun a b i => ∃ k : Nat, k ≤ l.length ∧ i = .int .i64 k ∧ a = .int .i64 ((l.take k).foldl min (nth l 0)) ∧ b = .int .i64 ((l.take k).foldl max (nth l 0))) (fun _ _ i => l.length - (intOf i).toNat)
 case atStart => exact ⟨0, by omega, rfl, rfl, rfl⟩
 case round =>
  obtain ⟨k, hk, rfl, rfl, rfl⟩ := hrel
  by_cases hlt : k < l.length
  ·have ck := HC.out k hlt
   have s1 := acD (jT min l (nth l 0) k hlt)
   have s2 := acD (jT max l (nth l 0) k hlt)
   have hlt' : (k : Int) < (l.length : Int) := by omega
   go_wp2
   all_goals
    go_round
    case rel => exact ⟨k + 1, by omega, by go_num, int_eq (by rw [s1.out]; first | done | exact Gv _ _), int_eq (by rw [s2.out]; first | done | exact Gx _ _)⟩
    case measure => simp [intOf]; omega
  ·have ek : l.take k = l := List.take_of_length_le abo
   rw [ek]
   have e1 : l.foldl min (nth l 0) = zL l := rfl
   have e2 : l.foldl max (nth l 0) = zS l := rfl
   rw [e1, e2]
   clear ek e1 e2
   by_cases hlo : zL l < -2147483648
   ·have d1 : decide (zL l < -2147483648) = true := by simpa using hlo
    have hf : aD l = (-2147483648, 2147483647) := by unfold aD; rw [if_pos (.inl hlo)]
    have HF := acD hf
    clear hf
    go_wp2_with fail
    refine (Calls.ay (bK _)).mono ?_
    rintro e _ ⟨rfl, y, rfl⟩
    go_wp2
    refine bodyPost_ret (v := .agg #[.int .i32 (aD l).1, .int .i32 (aD l).2]) ?hr rfl ⟨rfl, ?aF⟩
    case hr =>
     simp [results, Tryz.results103, go_sem]
     rw [HF.out]
     constructor <;> rfl
    case aF =>
     exact acA
   ·have d1 : decide (zL l < -2147483648) = false := by simpa using hlo
    by_cases hhi : 2147483647 < zS l
    ·have d2 : decide (2147483647 < zS l) = true := by simpa using hhi
     have hf : aD l = (-2147483648, 2147483647) := by unfold aD; rw [if_pos (.inr hhi)]
     have HF := acD hf
     clear hf
     go_wp2_with fail
     refine (Calls.ay (bK _)).mono ?_
     rintro e _ ⟨rfl, y, rfl⟩
     go_wp2
     refine bodyPost_ret (v := .agg #[.int .i32 (aD l).1, .int .i32 (aD l).2]) ?hr rfl ⟨rfl, ?aF⟩
     case hr =>
      simp [results, Tryz.results103, go_sem]
      rw [HF.out]
      constructor <;> rfl
     case aF =>
      exact acA
    ·have d2 : decide (2147483647 < zS l) = false := by simpa using hhi
     have hf : aD l = (zL l, zS l) := by unfold aD; rw [if_neg abo]
     have hle := rK l
     have HF := acD hf
     clear hf
     go_wp2
     refine bodyPost_ret (v := .agg #[.int .i32 (aD l).1, .int .i32 (aD l).2]) ?hr rfl ⟨rfl, ?aF⟩
     case hr =>
      simp [results, Tryz.results103, go_sem]
      rw [HF.out]
      constructor <;> rfl
     case aF =>
      exact acA
theorem mJ : (Tryz.prog.info? 2).map (fun i => (i.zero, i.size, i.bytes)) = some (some (.int .i64 0), 1, 8) := by kernel_rfl
theorem ix0 (a b : Value) (w : World) : (Instr.index 168 (.agg #[a, b]) (.int .i64 0)).run Tryz.prog w = .ok a w := by kernel_rfl
theorem ix1 (a b : Value) (w : World) : (Instr.index 168 (.agg #[a, b]) (.int .i64 1)).run Tryz.prog w = .ok b w := by kernel_rfl
theorem Ext.bS {W0 : World} (y : Ext W0) (o : Obj) : W0.heap.size ≤ (y.w.alloc o).heap.size := Nat.le_trans y.h.size aby
theorem gC {x y : Int} (h1 : -2147483648 ≤ x) (h2 : x ≤ 2147483647) (h3 : -2147483648 ≤ y) (h4 : y ≤ 2147483647) : -4611686018427387904 ≤ x * y ∧ x * y ≤ 4611686018427387904 := by
 have hn : (x * y).natAbs ≤ 2147483648 * 2147483648 := by
  rw [Int.natAbs_mul]
  exact Nat.mul_le_mul abo abo
 omega
theorem fE {w : World} {B Ih : Nat} {v : Value} {l : List Int} (hcap : Ih = l.length) (h : w.ownsRow B 2 1 v Ih (l.map (Value.int .i64))) (hl : 1 ≤ l.length) :
  ∃ g cap, v = .slice (some ⟨g, 0, none⟩) l.length cap ∧ g < w.heap.size ∧ ∀ i, i < l.length → w.cell? ⟨g, i, none⟩ = some (.int .i64 (nth l i)) := by
 subst hcap
 rcases h.2 with ⟨_, h0⟩ | ⟨g, cap, cur, hv, _, hg, hn, _, hsz, ht⟩
 ·omega
 ·refine ⟨g, cap, hv, ?_, fun i hi => ?_⟩
  ·rcases Nat.lt_or_ge g w.heap.size with h' | h'
   ·exact h'
   ·rw [Array.getElem?_eq_none h'] at hg; cases hg
  ·rw [Nat.mul_one] at ht
   have e : cur.toList[i]? = some (.int .i64 (nth l i)) := by
    have := congrArg (fun x => x[i]?) ht
    simp only [List.getElem?_take, hi, if_true] at this
    rw [this]
    simp [nth, List.getD, hi]
   simp [World.cell?, hg]
   simpa using e
theorem dS {W0 : World} (y : Ext W0) {o : Obj} {w' : World} {e : TypeId} {size n : Nat} {v : Value} {xs : List Value} (hown : y.w.ownsRow W0.heap.size e size v n xs) (hg : (y.w.alloc o).grownBy w' v.ownBlock) : ∃ y' : Ext W0, y'.w = w' := by
 refine ⟨⟨w', (y.h.alloc y.h.size o).grown hg ?_ ?_⟩, rfl⟩
 ·have := y.h.size; simp <;> omega
 ·intro k hk
  rcases hown.2 with ⟨rfl, _⟩ | ⟨g, cap, cur, rfl, hb, _⟩
  ·cases hk
  ·cases hk; exact hb
theorem og (xl xh yl yh : Int) (w : World) (hx1 : -2147483648 ≤ xl) (hx2 : xl ≤ 2147483647) (hx3 : -2147483648 ≤ xh) (hx4 : xh ≤ 2147483647) (hy1 : -2147483648 ≤ yl) (hy2 : yl ≤ 2147483647) (hy3 : -2147483648 ≤ yh) (hy4 : yh ≤ 2147483647) :
  Calls Tryz.prog 75 #[.int .u8 6, .agg #[.int .i32 xl, .int .i32 xh], .agg #[.int .i32 yl, .int .i32 yh]] w fun e w' => e = .returned (.agg #[.int .i32 (aD [xl + yl, xl + yh, xh + yl, xh + yh]).1, .int .i32 (aD [xl + yl, xl + yh, xh + yl, xh + yh]).2]) ∧ Below w.heap.size w w' := by
 obtain ⟨i0, hi, hz0, hz1, hz2⟩ := info_parts mJ
 have Pc := ix0
 have Pb := ix1
 go_enter Tryz.func75, Tryz.ntmps75
 go_wp2_with fail
 obtain ⟨y0, hy0⟩ : ∃ y0 : Ext (((w.alloc (Obj.cells #[Value.int IntKind.i32 xl, Value.int IntKind.i32 xh] 54)).alloc (Obj.cells #[Value.int IntKind.i32 yl, Value.int IntKind.i32 yh] 54)).alloc (Obj.cells #[Value.int IntKind.i32 0, Value.int IntKind.i32 0] 54)), (((w.alloc (Obj.cells #[Value.int IntKind.i32 xl, Value.int IntKind.i32 xh] 54)).alloc (Obj.cells #[Value.int IntKind.i32 yl, Value.int IntKind.i32 yh] 54)).alloc (Obj.cells #[Value.int IntKind.i32 0, Value.int IntKind.i32 0] 54)) = y0.w := ⟨⟨_, Below.refl _ _⟩, rfl⟩
 have dw : y0.w.ownsRow (World.heap (((w.alloc (Obj.cells #[Value.int IntKind.i32 xl, Value.int IntKind.i32 xh] 54)).alloc (Obj.cells #[Value.int IntKind.i32 yl, Value.int IntKind.i32 yh] 54)).alloc (Obj.cells #[Value.int IntKind.i32 0, Value.int IntKind.i32 0] 54))).size 2 1 (.slice none 0 0) 0 [] := ⟨rfl, .inl ⟨rfl, rfl⟩⟩
 rw [hy0]
 clear hy0
 refine wp_loop_rounds 3 ?_
 rw [rounds_succ]
 go_wp2_with fail
 refine wp_loop_rounds 3 ?_
 rw [rounds_succ]
 go_wp2_with (at_builtin; refine wpList_append_own _ rfl (.tmp 41) (.tmp 45) 153 rfl (World.heap (((w.alloc (Obj.cells #[Value.int IntKind.i32 xl, Value.int IntKind.i32 xh] 54)).alloc (Obj.cells #[Value.int IntKind.i32 yl, Value.int IntKind.i32 yh] 54)).alloc (Obj.cells #[Value.int IntKind.i32 0, Value.int IntKind.i32 0] 54))).size 2 i0 (.int .i64 0) 1 8 Tryz.underlying153 hi hz0 hz1 hz2 rfl abr _ _ _ rfl (dw.alloc _) ⟨y0.w.heap.size, 0, none⟩ 1 1 [.int .i64 (xl + yl)] rfl rfl (cell_one_new _ _ _) abt abv abo (Ext.bS y0 _) ?_; intro v1 w1 hown1 hgrow _)
 obtain ⟨y1, rfl⟩ := dS y0 dw hgrow
 clear hgrow
 go_wp2_with fail
 rw [rounds_succ]
 go_wp2_with (at_builtin; refine wpList_append_own _ rfl (.tmp 41) (.tmp 45) 153 rfl (World.heap (((w.alloc (Obj.cells #[Value.int IntKind.i32 xl, Value.int IntKind.i32 xh] 54)).alloc (Obj.cells #[Value.int IntKind.i32 yl, Value.int IntKind.i32 yh] 54)).alloc (Obj.cells #[Value.int IntKind.i32 0, Value.int IntKind.i32 0] 54))).size 2 i0 (.int .i64 0) 1 8 Tryz.underlying153 hi hz0 hz1 hz2 rfl abr _ _ _ rfl (hown1.alloc _) ⟨y1.w.heap.size, 0, none⟩ 1 1 [.int .i64 (xl + yh)] rfl rfl (cell_one_new _ _ _) abt abv abo (Ext.bS y1 _) ?_; intro v2 w1 hown2 hgrow _)
 obtain ⟨y2, rfl⟩ := dS y1 hown1 hgrow
 clear hgrow
 go_wp2_with fail
 rw [rounds_succ]
 go_wp2_with fail
 rw [rounds_succ]
 go_wp2_with fail
 refine wp_loop_rounds 3 ?_
 rw [rounds_succ]
 go_wp2_with (at_builtin; refine wpList_append_own _ rfl (.tmp 41) (.tmp 45) 153 rfl (World.heap (((w.alloc (Obj.cells #[Value.int IntKind.i32 xl, Value.int IntKind.i32 xh] 54)).alloc (Obj.cells #[Value.int IntKind.i32 yl, Value.int IntKind.i32 yh] 54)).alloc (Obj.cells #[Value.int IntKind.i32 0, Value.int IntKind.i32 0] 54))).size 2 i0 (.int .i64 0) 1 8 Tryz.underlying153 hi hz0 hz1 hz2 rfl abr _ _ _ rfl (hown2.alloc _) ⟨y2.w.heap.size, 0, none⟩ 1 1 [.int .i64 (xh + yl)] rfl rfl (cell_one_new _ _ _) abt abv abo (Ext.bS y2 _) ?_; intro v3 w1 eY hgrow _)
 obtain ⟨y3, rfl⟩ := dS y2 hown2 hgrow
 clear hgrow
 go_wp2_with fail
 rw [rounds_succ]
 go_wp2_with (at_builtin; refine wpList_append_own _ rfl (.tmp 41) (.tmp 45) 153 rfl (World.heap (((w.alloc (Obj.cells #[Value.int IntKind.i32 xl, Value.int IntKind.i32 xh] 54)).alloc (Obj.cells #[Value.int IntKind.i32 yl, Value.int IntKind.i32 yh] 54)).alloc (Obj.cells #[Value.int IntKind.i32 0, Value.int IntKind.i32 0] 54))).size 2 i0 (.int .i64 0) 1 8 Tryz.underlying153 hi hz0 hz1 hz2 rfl abr _ _ _ rfl (eY.alloc _) ⟨y3.w.heap.size, 0, none⟩ 1 1 [.int .i64 (xh + yh)] rfl rfl (cell_one_new _ _ _) abt abv abo (Ext.bS y3 _) ?_; intro v4 w1 ja hgrow _)
 obtain ⟨y4, rfl⟩ := dS y3 eY hgrow
 clear hgrow
 go_wp2_with fail
 rw [rounds_succ]
 go_wp2_with fail
 rw [rounds_succ]
 go_wp2_with fail
 obtain ⟨g, cap, hv, hg, hc⟩ := fE (l := [xl + yl, xl + yh, xh + yl, xh + yh]) rfl (by simpa using ja) aby
 rw [hv]
 clear hv dw hown1 hown2 eY ja
 refine (Calls.ay (iJ g cap [xl + yl, xl + yh, xh + yl, xh + yh] y4.w aby aby hg hc)).mono ?_
 rintro e _ ⟨rfl, y5, rfl⟩
 clear hc
 go_wp2
 all_goals
  refine bodyPost_ret (v := .agg #[.int .i32 (aD [xl + yl, xl + yh, xh + yl, xh + yh]).1, .int .i32 (aD [xl + yl, xl + yh, xh + yl, xh + yh]).2]) ?hr rfl ⟨rfl, ?aF⟩
  case hr =>
   simp [results, Tryz.results75, go_sem]
  case aF =>
   exact acA
theorem od (xl xh yl yh : Int) (w : World) (hx1 : -2147483648 ≤ xl) (hx2 : xl ≤ 2147483647) (hx3 : -2147483648 ≤ xh) (hx4 : xh ≤ 2147483647) (hy1 : -2147483648 ≤ yl) (hy2 : yl ≤ 2147483647) (hy3 : -2147483648 ≤ yh) (hy4 : yh ≤ 2147483647) :
  Calls Tryz.prog 75 #[.int .u8 7, .agg #[.int .i32 xl, .int .i32 xh], .agg #[.int .i32 yl, .int .i32 yh]] w fun e w' => e = .returned (.agg #[.int .i32 (aD [xl - yl, xl - yh, xh - yl, xh - yh]).1, .int .i32 (aD [xl - yl, xl - yh, xh - yl, xh - yh]).2]) ∧ Below w.heap.size w w' := by
 obtain ⟨i0, hi, hz0, hz1, hz2⟩ := info_parts mJ
 have Pc := ix0
 have Pb := ix1
 go_enter Tryz.func75, Tryz.ntmps75
 go_wp2_with fail
 obtain ⟨y0, hy0⟩ : ∃ y0 : Ext (((w.alloc (Obj.cells #[Value.int IntKind.i32 xl, Value.int IntKind.i32 xh] 54)).alloc (Obj.cells #[Value.int IntKind.i32 yl, Value.int IntKind.i32 yh] 54)).alloc (Obj.cells #[Value.int IntKind.i32 0, Value.int IntKind.i32 0] 54)), (((w.alloc (Obj.cells #[Value.int IntKind.i32 xl, Value.int IntKind.i32 xh] 54)).alloc (Obj.cells #[Value.int IntKind.i32 yl, Value.int IntKind.i32 yh] 54)).alloc (Obj.cells #[Value.int IntKind.i32 0, Value.int IntKind.i32 0] 54)) = y0.w := ⟨⟨_, Below.refl _ _⟩, rfl⟩
 have dw : y0.w.ownsRow (World.heap (((w.alloc (Obj.cells #[Value.int IntKind.i32 xl, Value.int IntKind.i32 xh] 54)).alloc (Obj.cells #[Value.int IntKind.i32 yl, Value.int IntKind.i32 yh] 54)).alloc (Obj.cells #[Value.int IntKind.i32 0, Value.int IntKind.i32 0] 54))).size 2 1 (.slice none 0 0) 0 [] := ⟨rfl, .inl ⟨rfl, rfl⟩⟩
 rw [hy0]
 clear hy0
 refine wp_loop_rounds 3 ?_
 rw [rounds_succ]
 go_wp2_with fail
 refine wp_loop_rounds 3 ?_
 rw [rounds_succ]
 go_wp2_with (at_builtin; refine wpList_append_own _ rfl (.tmp 49) (.tmp 53) 153 rfl (World.heap (((w.alloc (Obj.cells #[Value.int IntKind.i32 xl, Value.int IntKind.i32 xh] 54)).alloc (Obj.cells #[Value.int IntKind.i32 yl, Value.int IntKind.i32 yh] 54)).alloc (Obj.cells #[Value.int IntKind.i32 0, Value.int IntKind.i32 0] 54))).size 2 i0 (.int .i64 0) 1 8 Tryz.underlying153 hi hz0 hz1 hz2 rfl abr _ _ _ rfl (dw.alloc _) ⟨y0.w.heap.size, 0, none⟩ 1 1 [.int .i64 (xl - yl)] rfl rfl (cell_one_new _ _ _) abt abv abo (Ext.bS y0 _) ?_; intro v1 w1 hown1 hgrow _)
 obtain ⟨y1, rfl⟩ := dS y0 dw hgrow
 clear hgrow
 go_wp2_with fail
 rw [rounds_succ]
 go_wp2_with (at_builtin; refine wpList_append_own _ rfl (.tmp 49) (.tmp 53) 153 rfl (World.heap (((w.alloc (Obj.cells #[Value.int IntKind.i32 xl, Value.int IntKind.i32 xh] 54)).alloc (Obj.cells #[Value.int IntKind.i32 yl, Value.int IntKind.i32 yh] 54)).alloc (Obj.cells #[Value.int IntKind.i32 0, Value.int IntKind.i32 0] 54))).size 2 i0 (.int .i64 0) 1 8 Tryz.underlying153 hi hz0 hz1 hz2 rfl abr _ _ _ rfl (hown1.alloc _) ⟨y1.w.heap.size, 0, none⟩ 1 1 [.int .i64 (xl - yh)] rfl rfl (cell_one_new _ _ _) abt abv abo (Ext.bS y1 _) ?_; intro v2 w1 hown2 hgrow _)
 obtain ⟨y2, rfl⟩ := dS y1 hown1 hgrow
 clear hgrow
 go_wp2_with fail
 rw [rounds_succ]
 go_wp2_with fail
 rw [rounds_succ]
 go_wp2_with fail
 refine wp_loop_rounds 3 ?_
 rw [rounds_succ]
 go_wp2_with (at_builtin; refine wpList_append_own _ rfl (.tmp 49) (.tmp 53) 153 rfl (World.heap (((w.alloc (Obj.cells #[Value.int IntKind.i32 xl, Value.int IntKind.i32 xh] 54)).alloc (Obj.cells #[Value.int IntKind.i32 yl, Value.int IntKind.i32 yh] 54)).alloc (Obj.cells #[Value.int IntKind.i32 0, Value.int IntKind.i32 0] 54))).size 2 i0 (.int .i64 0) 1 8 Tryz.underlying153 hi hz0 hz1 hz2 rfl abr _ _ _ rfl (hown2.alloc _) ⟨y2.w.heap.size, 0, none⟩ 1 1 [.int .i64 (xh - yl)] rfl rfl (cell_one_new _ _ _) abt abv abo (Ext.bS y2 _) ?_; intro v3 w1 eY hgrow _)
 obtain ⟨y3, rfl⟩ := dS y2 hown2 hgrow
 clear hgrow
 go_wp2_with fail
 rw [rounds_succ]
 go_wp2_with (at_builtin; refine wpList_append_own _ rfl (.tmp 49) (.tmp 53) 153 rfl (World.heap (((w.alloc (Obj.cells #[Value.int IntKind.i32 xl, Value.int IntKind.i32 xh] 54)).alloc (Obj.cells #[Value.int IntKind.i32 yl, Value.int IntKind.i32 yh] 54)).alloc (Obj.cells #[Value.int IntKind.i32 0, Value.int IntKind.i32 0] 54))).size 2 i0 (.int .i64 0) 1 8 Tryz.underlying153 hi hz0 hz1 hz2 rfl abr _ _ _ rfl (eY.alloc _) ⟨y3.w.heap.size, 0, none⟩ 1 1 [.int .i64 (xh - yh)] rfl rfl (cell_one_new _ _ _) abt abv abo (Ext.bS y3 _) ?_; intro v4 w1 ja hgrow _)
 obtain ⟨y4, rfl⟩ := dS y3 eY hgrow
 clear hgrow
 go_wp2_with fail
 rw [rounds_succ]
 go_wp2_with fail
 rw [rounds_succ]
 go_wp2_with fail
 obtain ⟨g, cap, hv, hg, hc⟩ := fE (l := [xl - yl, xl - yh, xh - yl, xh - yh]) rfl (by simpa using ja) aby
 rw [hv]
 clear hv dw hown1 hown2 eY ja
 refine (Calls.ay (iJ g cap [xl - yl, xl - yh, xh - yl, xh - yh] y4.w aby aby hg hc)).mono ?_
 rintro e _ ⟨rfl, y5, rfl⟩
 clear hc
 go_wp2
 all_goals
  refine bodyPost_ret (v := .agg #[.int .i32 (aD [xl - yl, xl - yh, xh - yl, xh - yh]).1, .int .i32 (aD [xl - yl, xl - yh, xh - yl, xh - yh]).2]) ?hr rfl ⟨rfl, ?aF⟩
  case hr =>
   simp [results, Tryz.results75, go_sem]
  case aF =>
   exact acA
theorem oa (xl xh yl yh : Int) (w : World) (hx1 : -2147483648 ≤ xl) (hx2 : xl ≤ 2147483647) (hx3 : -2147483648 ≤ xh) (hx4 : xh ≤ 2147483647) (hy1 : -2147483648 ≤ yl) (hy2 : yl ≤ 2147483647) (hy3 : -2147483648 ≤ yh) (hy4 : yh ≤ 2147483647) :
  Calls Tryz.prog 75 #[.int .u8 8, .agg #[.int .i32 xl, .int .i32 xh], .agg #[.int .i32 yl, .int .i32 yh]] w fun e w' => e = .returned (.agg #[.int .i32 (aD [xl * yl, xl * yh, xh * yl, xh * yh]).1, .int .i32 (aD [xl * yl, xl * yh, xh * yl, xh * yh]).2]) ∧ Below w.heap.size w w' := by
 obtain ⟨i0, hi, hz0, hz1, hz2⟩ := info_parts mJ
 have Pc := ix0
 have Pb := ix1
 obtain ⟨p0, q0⟩ := gC (x := xl) (y := yl) abo abo abo abo
 obtain ⟨p1, q1⟩ := gC (x := xl) (y := yh) abo abo abo abo
 obtain ⟨p2, q2⟩ := gC (x := xh) (y := yl) abo abo abo abo
 obtain ⟨p3, q3⟩ := gC (x := xh) (y := yh) abo abo abo abo
 go_enter Tryz.func75, Tryz.ntmps75
 go_wp2_with fail
 obtain ⟨y0, hy0⟩ : ∃ y0 : Ext (((w.alloc (Obj.cells #[Value.int IntKind.i32 xl, Value.int IntKind.i32 xh] 54)).alloc (Obj.cells #[Value.int IntKind.i32 yl, Value.int IntKind.i32 yh] 54)).alloc (Obj.cells #[Value.int IntKind.i32 0, Value.int IntKind.i32 0] 54)), (((w.alloc (Obj.cells #[Value.int IntKind.i32 xl, Value.int IntKind.i32 xh] 54)).alloc (Obj.cells #[Value.int IntKind.i32 yl, Value.int IntKind.i32 yh] 54)).alloc (Obj.cells #[Value.int IntKind.i32 0, Value.int IntKind.i32 0] 54)) = y0.w := ⟨⟨_, Below.refl _ _⟩, rfl⟩
 have dw : y0.w.ownsRow (World.heap (((w.alloc (Obj.cells #[Value.int IntKind.i32 xl, Value.int IntKind.i32 xh] 54)).alloc (Obj.cells #[Value.int IntKind.i32 yl, Value.int IntKind.i32 yh] 54)).alloc (Obj.cells #[Value.int IntKind.i32 0, Value.int IntKind.i32 0] 54))).size 2 1 (.slice none 0 0) 0 [] := ⟨rfl, .inl ⟨rfl, rfl⟩⟩
 rw [hy0]
 clear hy0
 refine wp_loop_rounds 3 ?_
 rw [rounds_succ]
 go_wp2_with fail
 refine wp_loop_rounds 3 ?_
 rw [rounds_succ]
 go_wp2_with (at_builtin; refine wpList_append_own _ rfl (.tmp 33) (.tmp 37) 153 rfl (World.heap (((w.alloc (Obj.cells #[Value.int IntKind.i32 xl, Value.int IntKind.i32 xh] 54)).alloc (Obj.cells #[Value.int IntKind.i32 yl, Value.int IntKind.i32 yh] 54)).alloc (Obj.cells #[Value.int IntKind.i32 0, Value.int IntKind.i32 0] 54))).size 2 i0 (.int .i64 0) 1 8 Tryz.underlying153 hi hz0 hz1 hz2 rfl abr _ _ _ rfl (dw.alloc _) ⟨y0.w.heap.size, 0, none⟩ 1 1 [.int .i64 (xl * yl)] rfl rfl (cell_one_new _ _ _) abt abv abo (Ext.bS y0 _) ?_; intro v1 w1 hown1 hgrow _)
 obtain ⟨y1, rfl⟩ := dS y0 dw hgrow
 clear hgrow
 go_wp2_with fail
 rw [rounds_succ]
 go_wp2_with (at_builtin; refine wpList_append_own _ rfl (.tmp 33) (.tmp 37) 153 rfl (World.heap (((w.alloc (Obj.cells #[Value.int IntKind.i32 xl, Value.int IntKind.i32 xh] 54)).alloc (Obj.cells #[Value.int IntKind.i32 yl, Value.int IntKind.i32 yh] 54)).alloc (Obj.cells #[Value.int IntKind.i32 0, Value.int IntKind.i32 0] 54))).size 2 i0 (.int .i64 0) 1 8 Tryz.underlying153 hi hz0 hz1 hz2 rfl abr _ _ _ rfl (hown1.alloc _) ⟨y1.w.heap.size, 0, none⟩ 1 1 [.int .i64 (xl * yh)] rfl rfl (cell_one_new _ _ _) abt abv abo (Ext.bS y1 _) ?_; intro v2 w1 hown2 hgrow _)
 obtain ⟨y2, rfl⟩ := dS y1 hown1 hgrow
 clear hgrow
 go_wp2_with fail
 rw [rounds_succ]
 go_wp2_with fail
 rw [rounds_succ]
 go_wp2_with fail
 refine wp_loop_rounds 3 ?_
 rw [rounds_succ]
 go_wp2_with (at_builtin; refine wpList_append_own _ rfl (.tmp 33) (.tmp 37) 153 rfl (World.heap (((w.alloc (Obj.cells #[Value.int IntKind.i32 xl, Value.int IntKind.i32 xh] 54)).alloc (Obj.cells #[Value.int IntKind.i32 yl, Value.int IntKind.i32 yh] 54)).alloc (Obj.cells #[Value.int IntKind.i32 0, Value.int IntKind.i32 0] 54))).size 2 i0 (.int .i64 0) 1 8 Tryz.underlying153 hi hz0 hz1 hz2 rfl abr _ _ _ rfl (hown2.alloc _) ⟨y2.w.heap.size, 0, none⟩ 1 1 [.int .i64 (xh * yl)] rfl rfl (cell_one_new _ _ _) abt abv abo (Ext.bS y2 _) ?_; intro v3 w1 eY hgrow _)
 obtain ⟨y3, rfl⟩ := dS y2 hown2 hgrow
 clear hgrow
 go_wp2_with fail
 rw [rounds_succ]
 go_wp2_with (at_builtin; refine wpList_append_own _ rfl (.tmp 33) (.tmp 37) 153 rfl (World.heap (((w.alloc (Obj.cells #[Value.int IntKind.i32 xl, Value.int IntKind.i32 xh] 54)).alloc (Obj.cells #[Value.int IntKind.i32 yl, Value.int IntKind.i32 yh] 54)).alloc (Obj.cells #[Value.int IntKind.i32 0, Value.int IntKind.i32 0] 54))).size 2 i0 (.int .i64 0) 1 8 Tryz.underlying153 hi hz0 hz1 hz2 rfl abr _ _ _ rfl (eY.alloc _) ⟨y3.w.heap.size, 0, none⟩ 1 1 [.int .i64 (xh * yh)] rfl rfl (cell_one_new _ _ _) abt abv abo (Ext.bS y3 _) ?_; intro v4 w1 ja hgrow _)
 obtain ⟨y4, rfl⟩ := dS y3 eY hgrow
 clear hgrow
 go_wp2_with fail
 rw [rounds_succ]
 go_wp2_with fail
 rw [rounds_succ]
 go_wp2_with fail
 obtain ⟨g, cap, hv, hg, hc⟩ := fE (l := [xl * yl, xl * yh, xh * yl, xh * yh]) rfl (by simpa using ja) aby
 rw [hv]
 clear hv dw hown1 hown2 eY ja
 refine (Calls.ay (iJ g cap [xl * yl, xl * yh, xh * yl, xh * yh] y4.w aby aby hg hc)).mono ?_
 rintro e _ ⟨rfl, y5, rfl⟩
 clear hc
 go_wp2
 all_goals
  refine bodyPost_ret (v := .agg #[.int .i32 (aD [xl * yl, xl * yh, xh * yl, xh * yh]).1, .int .i32 (aD [xl * yl, xl * yh, xh * yl, xh * yh]).2]) ?hr rfl ⟨rfl, ?aF⟩
  case hr =>
   simp [results, Tryz.results75, go_sem]
  case aF =>
   exact acA
theorem ox {P : Program} (d : Nat) {t : TypeId} {k : IntKind} (h : P.underlying t = some (.int k)) (a b : Int) (w : World) : (Op.equalIn (d + 1) t (.int k a) (.int k b)).run P w = .ok (a == b) w := by
 simp [Op.equalIn, run_underlying h]
theorem Li (a b : Int) (w : World) : (part 21 #[.int .i32 a, .int .i32 b] 0).run Tryz.prog w = .ok (.int .i32 a) w := by kernel_rfl
theorem Lh (a b : Int) (w : World) : (part 21 #[.int .i32 a, .int .i32 b] 1).run Tryz.prog w = .ok (.int .i32 b) w := by kernel_rfl
theorem Bx (d : Nat) (a b c e : Int) (w : World) : (Op.equalIn (d + 1 + 1) 54 (.agg #[.int .i32 a, .int .i32 b]) (.agg #[.int .i32 c, .int .i32 e])).run Tryz.prog w = .ok (a == c && b == e) w := by
 rw [Op.equalIn]
 simp [run_underlying Tryz.underlying54, ox d Tryz.underlying21, Li, Lh, Sem.run_bind]
 by_cases h1 : a = c <;> by_cases h2 : b = e <;> simp [h1, h2]
theorem iO (a b c d : Int) (w : World) : (binOp .eql 54 (.agg #[.int .i32 a, .int .i32 b]) (.agg #[.int .i32 c, .int .i32 d])).run Tryz.prog w = .ok (.bool (a == c && b == d)) w := by
 simp only [binOp]
 simp [Op.equal, Op.maxDepth, Bx 9998]
def o7 (y : Int × Int) : Int := max (max (max (-y.1) y.1) (-y.2)) y.2 - 1
def eV (x y : Int × Int) : Int × Int := if y.1 = 0 ∧ y.2 = 0 then (1, 0) else (if x.1 < 0 then max x.1 (-o7 y) else 0, if 0 < x.2 then min x.2 (o7 y) else 0)
theorem Ti (a b c d : Int) (w : World) : (Builtin.max_ #[2, 2, 2, 2] 2 #[.int .i64 a, .int .i64 b, .int .i64 c, .int .i64 d]).run Tryz.prog w = .ok (.int .i64 (max (max (max a b) c) d)) w := by
 have m2 : ∀ (x y : Int) (w : World), (Builtin.max2 (.int .i64 x) (.int .i64 y)).run Tryz.prog w = .ok (.int .i64 (max x y)) w := by
  intro x y w
  simp only [Builtin.max2]
  by_cases h : x < y
  ·simp [h]; omega
  ·simp [h]; omega
 simp [Builtin.max_, m2]
theorem xA (xl xh : Int) (w : World) :
  Calls Tryz.prog 77 #[.agg #[.int .i32 xl, .int .i32 xh], .agg #[.int .i32 0, .int .i32 0]] w fun e w' => e = .returned (.agg #[.int .i32 (eV (xl, xh) (0, 0)).1, .int .i32 (eV (xl, xh) (0, 0)).2]) ∧ Below w.heap.size w w' := by
 have HF := acD (show eV (xl, xh) (0, 0) = (1, 0) from rfl)
 have he := iO
 go_enter Tryz.func77, Tryz.ntmps77
 go_wp2_with fail
 refine az abp abp ?_
 repeat (go_big_quiet_step (exact Calls.ay (cN _ _)))
 refine wpQuiet_nil ?_
 rintro _ ⟨x1, rfl⟩
 go_wp2_with fail
 refine (Calls.ay (aB _)).mono ?_
 rintro e _ ⟨rfl, y, rfl⟩
 go_wp2
 all_goals
  refine bodyPost_ret (v := .agg #[.int .i32 (eV (xl, xh) (0, 0)).1, .int .i32 (eV (xl, xh) (0, 0)).2]) ?hr rfl ⟨rfl, ?aF⟩
  case hr =>
   simp [results, Tryz.results77, go_sem]
   rw [HF.out]
   constructor <;> rfl
  case aF =>
   exact acA
theorem xB (xl xh yl yh : Int) (w : World) (hx1 : -2147483648 ≤ xl) (hx2 : xl ≤ 2147483647) (hx3 : -2147483648 ≤ xh) (hx4 : xh ≤ 2147483647) (hy1 : -2147483648 ≤ yl) (hy2 : yl ≤ 2147483647) (hy3 : -2147483648 ≤ yh) (hy4 : yh ≤ 2147483647) (hy0 : yl ≤ yh) (hne : (yl == 0 && yh == 0) = false) :
  Calls Tryz.prog 77 #[.agg #[.int .i32 xl, .int .i32 xh], .agg #[.int .i32 yl, .int .i32 yh]] w fun e w' => e = .returned (.agg #[.int .i32 (eV (xl, xh) (yl, yh)).1, .int .i32 (eV (xl, xh) (yl, yh)).2]) ∧ Below w.heap.size w w' := by
 have hz : ¬ (yl = 0 ∧ yh = 0) := by simpa using hne
 have hf : eV (xl, xh) (yl, yh) = (if xl < 0 then max xl (-o7 (yl, yh)) else 0, if 0 < xh then min xh (o7 (yl, yh)) else 0) := by unfold eV; rw [if_neg hz]
 have hm : max (max (max (-yl) yl) (-yh)) yh - 1 = o7 (yl, yh) := rfl
 have HF := acD hf
 have hM0 : 0 ≤ o7 (yl, yh) := by rw [← hm]; omega
 have PR : o7 (yl, yh) ≤ 2147483647 := by rw [← hm]; omega
 have he := iO
 have h4 := Ti
 have HM := acD hm
 clear hz hf hm
 go_enter Tryz.func77, Tryz.ntmps77
 go_wp2_with fail
 refine az abp abp ?_
 repeat (go_big_quiet_step (exact Calls.ay (cN _ _)))
 refine wpQuiet_nil ?_
 rintro _ ⟨x1, rfl⟩
 go_wp2_with fail
 all_goals
  refine bodyPost_ret (v := .agg #[.int .i32 (eV (xl, xh) (yl, yh)).1, .int .i32 (eV (xl, xh) (yl, yh)).2]) ?hr rfl ⟨rfl, ?aF⟩
  case hr =>
   simp [results, Tryz.results77, go_sem]
   rw [HF.out]
   have hm := HM.out
   constructor <;> dsimp only <;> split <;> omega
  case aF =>
   exact acA
theorem jQ (xl xh yl yh : Int) (w : World) (hx1 : -2147483648 ≤ xl) (hx2 : xl ≤ 2147483647) (hx3 : -2147483648 ≤ xh) (hx4 : xh ≤ 2147483647) (hy1 : -2147483648 ≤ yl) (hy2 : yl ≤ 2147483647) (hy3 : -2147483648 ≤ yh) (hy4 : yh ≤ 2147483647) (hy0 : yl ≤ yh) :
  Calls Tryz.prog 77 #[.agg #[.int .i32 xl, .int .i32 xh], .agg #[.int .i32 yl, .int .i32 yh]] w fun e w' => e = .returned (.agg #[.int .i32 (eV (xl, xh) (yl, yh)).1, .int .i32 (eV (xl, xh) (yl, yh)).2]) ∧ Below w.heap.size w w' := by
 by_cases h0 : yl = 0 ∧ yh = 0
 ·obtain ⟨rfl, rfl⟩ := h0
  exact xA xl xh w
 ·exact xB xl xh yl yh w hx1 hx2 hx3 hx4 hy1 hy2 hy3 hy4 hy0 (by simpa using h0)
theorem EI (xl xh yl yh : Int) (w : World) (hx1 : -2147483648 ≤ xl) (hx2 : xl ≤ 2147483647) (hx3 : -2147483648 ≤ xh) (hx4 : xh ≤ 2147483647) (hy1 : -2147483648 ≤ yl) (hy2 : yl ≤ 2147483647) (hy3 : -2147483648 ≤ yh) (hy4 : yh ≤ 2147483647) (gY : xl ≤ xh) (gL : yl ≤ yh) (hs : (xl == xh) = false) :
  Calls Tryz.prog 35 #[.int .u8 6, .agg #[.int .i32 xl, .int .i32 xh], .agg #[.int .i32 yl, .int .i32 yh]] w fun e w' => e = .returned (.agg #[.int .i32 (aD [xl + yl, xl + yh, xh + yl, xh + yh]).1, .int .i32 (aD [xl + yl, xl + yh, xh + yl, xh + yh]).2]) ∧ Below w.heap.size w w' := by
 have d1 : decide (xh < xl) = false := by simp; omega
 have d2 : decide (yh < yl) = false := by simp; omega
 go_enter Tryz.func35, Tryz.ntmps35
 go_wp2_with (first | (go_at_call 39; ((first | (with_reducible refine (Calls.ay (af _ _ _)).mono ?_) | (refine (Calls.ext (af _ _ _)).mono ?_)); rintro e _ ⟨rfl, y, rfl⟩)) | (go_at_call 73; ((first | (with_reducible refine (Calls.ay (aK _ _ _)).mono ?_) | (refine (Calls.ext (aK _ _ _)).mono ?_)); rintro e _ ⟨rfl, y, rfl⟩)) | (go_at_call 75; ((first | (with_reducible refine (Calls.ay (og _ _ _ _ _ hx1 hx2 hx3 hx4 hy1 hy2 hy3 hy4)).mono ?_) | (refine (Calls.ext (og _ _ _ _ _ hx1 hx2 hx3 hx4 hy1 hy2 hy3 hy4)).mono ?_)); rintro e _ ⟨rfl, y, rfl⟩)))
 all_goals
  refine bodyPost_ret (v := .agg #[.int .i32 (aD [xl + yl, xl + yh, xh + yl, xh + yh]).1, .int .i32 (aD [xl + yl, xl + yh, xh + yl, xh + yh]).2]) ?hr rfl ⟨rfl, ?aF⟩
  case hr =>
   simp [results, Tryz.results35, go_sem]
  case aF =>
   exact acA
theorem EH (xl xh yl yh : Int) (w : World) (hx1 : -2147483648 ≤ xl) (hx2 : xl ≤ 2147483647) (hx3 : -2147483648 ≤ xh) (hx4 : xh ≤ 2147483647) (hy1 : -2147483648 ≤ yl) (hy2 : yl ≤ 2147483647) (hy3 : -2147483648 ≤ yh) (hy4 : yh ≤ 2147483647) (gY : xl ≤ xh) (gL : yl ≤ yh) (hs : (xl == xh) = true) (hs' : (yl == yh) = false) :
  Calls Tryz.prog 35 #[.int .u8 6, .agg #[.int .i32 xl, .int .i32 xh], .agg #[.int .i32 yl, .int .i32 yh]] w fun e w' => e = .returned (.agg #[.int .i32 (aD [xl + yl, xl + yh, xh + yl, xh + yh]).1, .int .i32 (aD [xl + yl, xl + yh, xh + yl, xh + yh]).2]) ∧ Below w.heap.size w w' := by
 have d1 : decide (xh < xl) = false := by simp; omega
 have d2 : decide (yh < yl) = false := by simp; omega
 go_enter Tryz.func35, Tryz.ntmps35
 go_wp2_with (first | (go_at_call 39; ((first | (with_reducible refine (Calls.ay (af _ _ _)).mono ?_) | (refine (Calls.ext (af _ _ _)).mono ?_)); rintro e _ ⟨rfl, y, rfl⟩)) | (go_at_call 73; ((first | (with_reducible refine (Calls.ay (aK _ _ _)).mono ?_) | (refine (Calls.ext (aK _ _ _)).mono ?_)); rintro e _ ⟨rfl, y, rfl⟩)) | (go_at_call 75; ((first | (with_reducible refine (Calls.ay (og _ _ _ _ _ hx1 hx2 hx3 hx4 hy1 hy2 hy3 hy4)).mono ?_) | (refine (Calls.ext (og _ _ _ _ _ hx1 hx2 hx3 hx4 hy1 hy2 hy3 hy4)).mono ?_)); rintro e _ ⟨rfl, y, rfl⟩)))
 all_goals
  refine bodyPost_ret (v := .agg #[.int .i32 (aD [xl + yl, xl + yh, xh + yl, xh + yh]).1, .int .i32 (aD [xl + yl, xl + yh, xh + yl, xh + yh]).2]) ?hr rfl ⟨rfl, ?aF⟩
  case hr =>
   simp [results, Tryz.results35, go_sem]
  case aF =>
   exact acA
theorem KA (xl xh yl yh : Int) (w : World) (hx1 : -2147483648 ≤ xl) (hx2 : xl ≤ 2147483647) (hx3 : -2147483648 ≤ xh) (hx4 : xh ≤ 2147483647) (hy1 : -2147483648 ≤ yl) (hy2 : yl ≤ 2147483647) (hy3 : -2147483648 ≤ yh) (hy4 : yh ≤ 2147483647) (gY : xl ≤ xh) (gL : yl ≤ yh) (hs : ¬ (xl = xh ∧ yl = yh)) :
  Calls Tryz.prog 35 #[.int .u8 6, .agg #[.int .i32 xl, .int .i32 xh], .agg #[.int .i32 yl, .int .i32 yh]] w fun e w' => e = .returned (.agg #[.int .i32 (aD [xl + yl, xl + yh, xh + yl, xh + yh]).1, .int .i32 (aD [xl + yl, xl + yh, xh + yl, xh + yh]).2]) ∧ Below w.heap.size w w' := by
 by_cases h : xl = xh
 ·exact EH xl xh yl yh w hx1 hx2 hx3 hx4 hy1 hy2 hy3 hy4 gY gL abS abA
 ·exact EI xl xh yl yh w hx1 hx2 hx3 hx4 hy1 hy2 hy3 hy4 gY gL abS
theorem EG (xl xh yl yh : Int) (w : World) (hx1 : -2147483648 ≤ xl) (hx2 : xl ≤ 2147483647) (hx3 : -2147483648 ≤ xh) (hx4 : xh ≤ 2147483647) (hy1 : -2147483648 ≤ yl) (hy2 : yl ≤ 2147483647) (hy3 : -2147483648 ≤ yh) (hy4 : yh ≤ 2147483647) (gY : xl ≤ xh) (gL : yl ≤ yh) (hs : (xl == xh) = false) :
  Calls Tryz.prog 35 #[.int .u8 7, .agg #[.int .i32 xl, .int .i32 xh], .agg #[.int .i32 yl, .int .i32 yh]] w fun e w' => e = .returned (.agg #[.int .i32 (aD [xl - yl, xl - yh, xh - yl, xh - yh]).1, .int .i32 (aD [xl - yl, xl - yh, xh - yl, xh - yh]).2]) ∧ Below w.heap.size w w' := by
 have d1 : decide (xh < xl) = false := by simp; omega
 have d2 : decide (yh < yl) = false := by simp; omega
 go_enter Tryz.func35, Tryz.ntmps35
 go_wp2_with (first | (go_at_call 39; ((first | (with_reducible refine (Calls.ay (af _ _ _)).mono ?_) | (refine (Calls.ext (af _ _ _)).mono ?_)); rintro e _ ⟨rfl, y, rfl⟩)) | (go_at_call 73; ((first | (with_reducible refine (Calls.ay (aK _ _ _)).mono ?_) | (refine (Calls.ext (aK _ _ _)).mono ?_)); rintro e _ ⟨rfl, y, rfl⟩)) | (go_at_call 75; ((first | (with_reducible refine (Calls.ay (od _ _ _ _ _ hx1 hx2 hx3 hx4 hy1 hy2 hy3 hy4)).mono ?_) | (refine (Calls.ext (od _ _ _ _ _ hx1 hx2 hx3 hx4 hy1 hy2 hy3 hy4)).mono ?_)); rintro e _ ⟨rfl, y, rfl⟩)))
 all_goals
  refine bodyPost_ret (v := .agg #[.int .i32 (aD [xl - yl, xl - yh, xh - yl, xh - yh]).1, .int .i32 (aD [xl - yl, xl - yh, xh - yl, xh - yh]).2]) ?hr rfl ⟨rfl, ?aF⟩
  case hr =>
   simp [results, Tryz.results35, go_sem]
  case aF =>
   exact acA
theorem EF (xl xh yl yh : Int) (w : World) (hx1 : -2147483648 ≤ xl) (hx2 : xl ≤ 2147483647) (hx3 : -2147483648 ≤ xh) (hx4 : xh ≤ 2147483647) (hy1 : -2147483648 ≤ yl) (hy2 : yl ≤ 2147483647) (hy3 : -2147483648 ≤ yh) (hy4 : yh ≤ 2147483647) (gY : xl ≤ xh) (gL : yl ≤ yh) (hs : (xl == xh) = true) (hs' : (yl == yh) = false) :
  Calls Tryz.prog 35 #[.int .u8 7, .agg #[.int .i32 xl, .int .i32 xh], .agg #[.int .i32 yl, .int .i32 yh]] w fun e w' => e = .returned (.agg #[.int .i32 (aD [xl - yl, xl - yh, xh - yl, xh - yh]).1, .int .i32 (aD [xl - yl, xl - yh, xh - yl, xh - yh]).2]) ∧ Below w.heap.size w w' := by
 have d1 : decide (xh < xl) = false := by simp; omega
 have d2 : decide (yh < yl) = false := by simp; omega
 go_enter Tryz.func35, Tryz.ntmps35
 go_wp2_with (first | (go_at_call 39; ((first | (with_reducible refine (Calls.ay (af _ _ _)).mono ?_) | (refine (Calls.ext (af _ _ _)).mono ?_)); rintro e _ ⟨rfl, y, rfl⟩)) | (go_at_call 73; ((first | (with_reducible refine (Calls.ay (aK _ _ _)).mono ?_) | (refine (Calls.ext (aK _ _ _)).mono ?_)); rintro e _ ⟨rfl, y, rfl⟩)) | (go_at_call 75; ((first | (with_reducible refine (Calls.ay (od _ _ _ _ _ hx1 hx2 hx3 hx4 hy1 hy2 hy3 hy4)).mono ?_) | (refine (Calls.ext (od _ _ _ _ _ hx1 hx2 hx3 hx4 hy1 hy2 hy3 hy4)).mono ?_)); rintro e _ ⟨rfl, y, rfl⟩)))
 all_goals
  refine bodyPost_ret (v := .agg #[.int .i32 (aD [xl - yl, xl - yh, xh - yl, xh - yh]).1, .int .i32 (aD [xl - yl, xl - yh, xh - yl, xh - yh]).2]) ?hr rfl ⟨rfl, ?aF⟩
  case hr =>
   simp [results, Tryz.results35, go_sem]
  case aF =>
   exact acA
theorem Kz (xl xh yl yh : Int) (w : World) (hx1 : -2147483648 ≤ xl) (hx2 : xl ≤ 2147483647) (hx3 : -2147483648 ≤ xh) (hx4 : xh ≤ 2147483647) (hy1 : -2147483648 ≤ yl) (hy2 : yl ≤ 2147483647) (hy3 : -2147483648 ≤ yh) (hy4 : yh ≤ 2147483647) (gY : xl ≤ xh) (gL : yl ≤ yh) (hs : ¬ (xl = xh ∧ yl = yh)) :
  Calls Tryz.prog 35 #[.int .u8 7, .agg #[.int .i32 xl, .int .i32 xh], .agg #[.int .i32 yl, .int .i32 yh]] w fun e w' => e = .returned (.agg #[.int .i32 (aD [xl - yl, xl - yh, xh - yl, xh - yh]).1, .int .i32 (aD [xl - yl, xl - yh, xh - yl, xh - yh]).2]) ∧ Below w.heap.size w w' := by
 by_cases h : xl = xh
 ·exact EF xl xh yl yh w hx1 hx2 hx3 hx4 hy1 hy2 hy3 hy4 gY gL abS abA
 ·exact EG xl xh yl yh w hx1 hx2 hx3 hx4 hy1 hy2 hy3 hy4 gY gL abS
theorem EE (xl xh yl yh : Int) (w : World) (hx1 : -2147483648 ≤ xl) (hx2 : xl ≤ 2147483647) (hx3 : -2147483648 ≤ xh) (hx4 : xh ≤ 2147483647) (hy1 : -2147483648 ≤ yl) (hy2 : yl ≤ 2147483647) (hy3 : -2147483648 ≤ yh) (hy4 : yh ≤ 2147483647) (gY : xl ≤ xh) (gL : yl ≤ yh) (hs : (xl == xh) = false) :
  Calls Tryz.prog 35 #[.int .u8 8, .agg #[.int .i32 xl, .int .i32 xh], .agg #[.int .i32 yl, .int .i32 yh]] w fun e w' => e = .returned (.agg #[.int .i32 (aD [xl * yl, xl * yh, xh * yl, xh * yh]).1, .int .i32 (aD [xl * yl, xl * yh, xh * yl, xh * yh]).2]) ∧ Below w.heap.size w w' := by
 have d1 : decide (xh < xl) = false := by simp; omega
 have d2 : decide (yh < yl) = false := by simp; omega
 go_enter Tryz.func35, Tryz.ntmps35
 go_wp2_with (first | (go_at_call 39; ((first | (with_reducible refine (Calls.ay (af _ _ _)).mono ?_) | (refine (Calls.ext (af _ _ _)).mono ?_)); rintro e _ ⟨rfl, y, rfl⟩)) | (go_at_call 73; ((first | (with_reducible refine (Calls.ay (aK _ _ _)).mono ?_) | (refine (Calls.ext (aK _ _ _)).mono ?_)); rintro e _ ⟨rfl, y, rfl⟩)) | (go_at_call 75; ((first | (with_reducible refine (Calls.ay (oa _ _ _ _ _ hx1 hx2 hx3 hx4 hy1 hy2 hy3 hy4)).mono ?_) | (refine (Calls.ext (oa _ _ _ _ _ hx1 hx2 hx3 hx4 hy1 hy2 hy3 hy4)).mono ?_)); rintro e _ ⟨rfl, y, rfl⟩)))
 all_goals
  refine bodyPost_ret (v := .agg #[.int .i32 (aD [xl * yl, xl * yh, xh * yl, xh * yh]).1, .int .i32 (aD [xl * yl, xl * yh, xh * yl, xh * yh]).2]) ?hr rfl ⟨rfl, ?aF⟩
  case hr =>
   simp [results, Tryz.results35, go_sem]
  case aF =>
   exact acA
theorem ED (xl xh yl yh : Int) (w : World) (hx1 : -2147483648 ≤ xl) (hx2 : xl ≤ 2147483647) (hx3 : -2147483648 ≤ xh) (hx4 : xh ≤ 2147483647) (hy1 : -2147483648 ≤ yl) (hy2 : yl ≤ 2147483647) (hy3 : -2147483648 ≤ yh) (hy4 : yh ≤ 2147483647) (gY : xl ≤ xh) (gL : yl ≤ yh) (hs : (xl == xh) = true) (hs' : (yl == yh) = false) :
  Calls Tryz.prog 35 #[.int .u8 8, .agg #[.int .i32 xl, .int .i32 xh], .agg #[.int .i32 yl, .int .i32 yh]] w fun e w' => e = .returned (.agg #[.int .i32 (aD [xl * yl, xl * yh, xh * yl, xh * yh]).1, .int .i32 (aD [xl * yl, xl * yh, xh * yl, xh * yh]).2]) ∧ Below w.heap.size w w' := by
 have d1 : decide (xh < xl) = false := by simp; omega
 have d2 : decide (yh < yl) = false := by simp; omega
 go_enter Tryz.func35, Tryz.ntmps35
 go_wp2_with (first | (go_at_call 39; ((first | (with_reducible refine (Calls.ay (af _ _ _)).mono ?_) | (refine (Calls.ext (af _ _ _)).mono ?_)); rintro e _ ⟨rfl, y, rfl⟩)) | (go_at_call 73; ((first | (with_reducible refine (Calls.ay (aK _ _ _)).mono ?_) | (refine (Calls.ext (aK _ _ _)).mono ?_)); rintro e _ ⟨rfl, y, rfl⟩)) | (go_at_call 75; ((first | (with_reducible refine (Calls.ay (oa _ _ _ _ _ hx1 hx2 hx3 hx4 hy1 hy2 hy3 hy4)).mono ?_) | (refine (Calls.ext (oa _ _ _ _ _ hx1 hx2 hx3 hx4 hy1 hy2 hy3 hy4)).mono ?_)); rintro e _ ⟨rfl, y, rfl⟩)))
 all_goals
  refine bodyPost_ret (v := .agg #[.int .i32 (aD [xl * yl, xl * yh, xh * yl, xh * yh]).1, .int .i32 (aD [xl * yl, xl * yh, xh * yl, xh * yh]).2]) ?hr rfl ⟨rfl, ?aF⟩
  case hr =>
   simp [results, Tryz.results35, go_sem]
  case aF =>
   exact acA
theorem Ky (xl xh yl yh : Int) (w : World) (hx1 : -2147483648 ≤ xl) (hx2 : xl ≤ 2147483647) (hx3 : -2147483648 ≤ xh) (hx4 : xh ≤ 2147483647) (hy1 : -2147483648 ≤ yl) (hy2 : yl ≤ 2147483647) (hy3 : -2147483648 ≤ yh) (hy4 : yh ≤ 2147483647) (gY : xl ≤ xh) (gL : yl ≤ yh) (hs : ¬ (xl = xh ∧ yl = yh)) :
  Calls Tryz.prog 35 #[.int .u8 8, .agg #[.int .i32 xl, .int .i32 xh], .agg #[.int .i32 yl, .int .i32 yh]] w fun e w' => e = .returned (.agg #[.int .i32 (aD [xl * yl, xl * yh, xh * yl, xh * yh]).1, .int .i32 (aD [xl * yl, xl * yh, xh * yl, xh * yh]).2]) ∧ Below w.heap.size w w' := by
 by_cases h : xl = xh
 ·exact ED xl xh yl yh w hx1 hx2 hx3 hx4 hy1 hy2 hy3 hy4 gY gL abS abA
 ·exact EE xl xh yl yh w hx1 hx2 hx3 hx4 hy1 hy2 hy3 hy4 gY gL abS
theorem AG (xl xh yl yh : Int) (w : World) (hx1 : -2147483648 ≤ xl) (hx2 : xl ≤ 2147483647) (hx3 : -2147483648 ≤ xh) (hx4 : xh ≤ 2147483647) (hy1 : -2147483648 ≤ yl) (hy2 : yl ≤ 2147483647) (hy3 : -2147483648 ≤ yh) (hy4 : yh ≤ 2147483647) (gY : xl ≤ xh) (gL : yl ≤ yh) (hs : (xl == xh) = false) :
  Calls Tryz.prog 35 #[.int .u8 10, .agg #[.int .i32 xl, .int .i32 xh], .agg #[.int .i32 yl, .int .i32 yh]] w fun e w' => e = .returned (.agg #[.int .i32 (eV (xl, xh) (yl, yh)).1, .int .i32 (eV (xl, xh) (yl, yh)).2]) ∧ Below w.heap.size w w' := by
 have d1 : decide (xh < xl) = false := by simp; omega
 have d2 : decide (yh < yl) = false := by simp; omega
 go_enter Tryz.func35, Tryz.ntmps35
 go_wp2_with (first | (go_at_call 39; ((first | (with_reducible refine (Calls.ay (af _ _ _)).mono ?_) | (refine (Calls.ext (af _ _ _)).mono ?_)); rintro e _ ⟨rfl, y, rfl⟩)) | (go_at_call 73; ((first | (with_reducible refine (Calls.ay (aK _ _ _)).mono ?_) | (refine (Calls.ext (aK _ _ _)).mono ?_)); rintro e _ ⟨rfl, y, rfl⟩)) | (go_at_call 77; ((first | (with_reducible refine (Calls.ay (jQ _ _ _ _ _ hx1 hx2 hx3 hx4 hy1 hy2 hy3 hy4 gL)).mono ?_) | (refine (Calls.ext (jQ _ _ _ _ _ hx1 hx2 hx3 hx4 hy1 hy2 hy3 hy4 gL)).mono ?_)); rintro e _ ⟨rfl, y, rfl⟩)))
 all_goals
  refine bodyPost_ret (v := .agg #[.int .i32 (eV (xl, xh) (yl, yh)).1, .int .i32 (eV (xl, xh) (yl, yh)).2]) ?hr rfl ⟨rfl, ?aF⟩
  case hr =>
   simp [results, Tryz.results35, go_sem]
  case aF =>
   exact acA
theorem AE (xl xh yl yh : Int) (w : World) (hx1 : -2147483648 ≤ xl) (hx2 : xl ≤ 2147483647) (hx3 : -2147483648 ≤ xh) (hx4 : xh ≤ 2147483647) (hy1 : -2147483648 ≤ yl) (hy2 : yl ≤ 2147483647) (hy3 : -2147483648 ≤ yh) (hy4 : yh ≤ 2147483647) (gY : xl ≤ xh) (gL : yl ≤ yh) (hs : (xl == xh) = true) (hs' : (yl == yh) = false) :
  Calls Tryz.prog 35 #[.int .u8 10, .agg #[.int .i32 xl, .int .i32 xh], .agg #[.int .i32 yl, .int .i32 yh]] w fun e w' => e = .returned (.agg #[.int .i32 (eV (xl, xh) (yl, yh)).1, .int .i32 (eV (xl, xh) (yl, yh)).2]) ∧ Below w.heap.size w w' := by
 have d1 : decide (xh < xl) = false := by simp; omega
 have d2 : decide (yh < yl) = false := by simp; omega
 go_enter Tryz.func35, Tryz.ntmps35
 go_wp2_with (first | (go_at_call 39; ((first | (with_reducible refine (Calls.ay (af _ _ _)).mono ?_) | (refine (Calls.ext (af _ _ _)).mono ?_)); rintro e _ ⟨rfl, y, rfl⟩)) | (go_at_call 73; ((first | (with_reducible refine (Calls.ay (aK _ _ _)).mono ?_) | (refine (Calls.ext (aK _ _ _)).mono ?_)); rintro e _ ⟨rfl, y, rfl⟩)) | (go_at_call 77; ((first | (with_reducible refine (Calls.ay (jQ _ _ _ _ _ hx1 hx2 hx3 hx4 hy1 hy2 hy3 hy4 gL)).mono ?_) | (refine (Calls.ext (jQ _ _ _ _ _ hx1 hx2 hx3 hx4 hy1 hy2 hy3 hy4 gL)).mono ?_)); rintro e _ ⟨rfl, y, rfl⟩)))
 all_goals
  refine bodyPost_ret (v := .agg #[.int .i32 (eV (xl, xh) (yl, yh)).1, .int .i32 (eV (xl, xh) (yl, yh)).2]) ?hr rfl ⟨rfl, ?aF⟩
  case hr =>
   simp [results, Tryz.results35, go_sem]
  case aF =>
   exact acA
theorem Iu (xl xh yl yh : Int) (w : World) (hx1 : -2147483648 ≤ xl) (hx2 : xl ≤ 2147483647) (hx3 : -2147483648 ≤ xh) (hx4 : xh ≤ 2147483647) (hy1 : -2147483648 ≤ yl) (hy2 : yl ≤ 2147483647) (hy3 : -2147483648 ≤ yh) (hy4 : yh ≤ 2147483647) (gY : xl ≤ xh) (gL : yl ≤ yh) (hs : ¬ (xl = xh ∧ yl = yh)) :
  Calls Tryz.prog 35 #[.int .u8 10, .agg #[.int .i32 xl, .int .i32 xh], .agg #[.int .i32 yl, .int .i32 yh]] w fun e w' => e = .returned (.agg #[.int .i32 (eV (xl, xh) (yl, yh)).1, .int .i32 (eV (xl, xh) (yl, yh)).2]) ∧ Below w.heap.size w w' := by
 by_cases h : xl = xh
 ·exact AE xl xh yl yh w hx1 hx2 hx3 hx4 hy1 hy2 hy3 hy4 gY gL abS abA
 ·exact AG xl xh yl yh w hx1 hx2 hx3 hx4 hy1 hy2 hy3 hy4 gY gL abS
theorem jw {q p : Int × Int} (h : q = p) : Ending.returned (.agg #[.int .i32 q.1, .int .i32 q.2]) = .returned (.agg #[.int .i32 p.1, .int .i32 p.2]) := by rw [h]
theorem Ext.ne1 {w0 : World} (x : Ext w0) (b : Nat) (hb : b < w0.heap.size) : (b = x.w.heap.size) = False := by have := x.h.size; simp; omega
theorem Ext.ne2 {w0 : World} (x : Ext w0) (b : Nat) (hb : b < w0.heap.size) : (x.w.heap.size = b) = False := by have := x.h.size; simp; omega
theorem Ext.ge {w0 : World} {o : Obj} (x : Ext (w0.alloc o)) : w0.heap.size + 1 ≤ x.w.heap.size := by simp
attribute [simp] Ext.ne1 Ext.ne2
def bO (W0 w' : World) : Prop := Below W0.heap.size W0 w'
theorem bO.cell {W0 w' : World} (h : bO W0 w') (b o : Nat) (hb : b < W0.heap.size) : w'.cell? ⟨b, o, none⟩ = W0.cell? ⟨b, o, none⟩ := Below.cell (p := ⟨b, o, none⟩) h hb
theorem bO.alloc {W0 w' : World} (h : bO W0 w') (o : Obj) : bO W0 (w'.alloc o) := Below.alloc h h.size o
theorem bO.ext {W0 w' : World} (h : bO W0 w') (y : Ext w') : bO W0 y.w := Ext.below h h.size y
theorem bO.set {W0 w' : World} (h : bO W0 w') {g j : Nat} (hg : W0.heap.size ≤ g) (v : Value) : bO W0 (w'.setCell ⟨g, j, none⟩ v) := Below.setCell h hg v
theorem bO.drew {W0 w' : World} (h : bO W0 w') : bO W0 w'.drew := Below.drew h
theorem GL {w w' : World} {a b c : Obj} (h : bO (((w.alloc a).alloc b).alloc c) w') : w.heap.size + 1 + 1 + 1 ≤ w'.heap.size := by
 have := h.size
 simpa using this
theorem rN {n : Nat} {W0 w' : World} (hn : n = W0.heap.size) (h : bO W0 w') : (∀ b o, b < n → w'.cell? ⟨b, o, none⟩ = W0.cell? ⟨b, o, none⟩) ∧ bO W0 w' :=
 ⟨fun b o hb => h.cell b o abo, h⟩
theorem cK {P : Program} {f : FuncId} {args : Array Value} {w : World} {b c : Bool} (h : Calls P f args w fun e w' => e = .returned (.bool b) ∧ Below w.heap.size w w') (hb : b = c) :
  Calls P f args w fun e w' => e = .returned (.bool c) ∧ Below w.heap.size w w' := hb ▸ h
end
section
open Go.RowKit
open Go.Shelf
open Go.RowKit
open Go.RowKit
def sF (op : Int) (x y : Int × Int) : Int × Int :=
 if op = 16 then eD false (emp (aJ x y)) else if op = 17 then eD (emp (aJ x y)) false
 else if op = 18 then eD (decide (x.2 < y.1)) (decide (y.2 ≤ x.1)) else if op = 19 then eD (decide (x.2 ≤ y.1)) (decide (y.2 < x.1))
 else if op = 20 then eD (decide (y.2 < x.1)) (decide (x.2 ≤ y.1)) else eD (decide (y.2 ≤ x.1)) (decide (x.2 < y.1))
def qc (x : Int × Int) : Bool := decide (x.1 ≤ 0) && decide (0 ≤ x.2)
def is0 (x : Int × Int) : Bool := x.1 == 0 && x.2 == 0
def vP (op : Int) (x y : Int × Int) : Int × Int :=
 if op = 22 then eD (!qc x && !qc y) (is0 x || is0 y) else eD (!qc x || !qc y) (is0 x && is0 y)
theorem vp (xl xh yl yh zl zh : Int) (w : World) (y : Ext (((w.alloc (Obj.cells #[Value.int IntKind.i32 xl, Value.int IntKind.i32 xh] 54)).alloc (Obj.cells #[Value.int IntKind.i32 yl, Value.int IntKind.i32 yh] 54)).alloc (Obj.cells #[Value.int IntKind.i32 0, Value.int IntKind.i32 0] 54))) :
  ∃ (W : World) (g : Nat), y.w.alloc (Obj.cells #[Value.int IntKind.i32 zl, Value.int IntKind.i32 zh] 54) = W ∧ y.w.heap.size = g ∧ Below w.heap.size w W ∧ w.heap.size < W.heap.size ∧ w.heap.size + 1 < W.heap.size ∧ w.heap.size + 1 + 1 < W.heap.size ∧ w.heap.size + 1 + 1 < g ∧ g < W.heap.size ∧ W.cell? ⟨w.heap.size, 0, none⟩ = some (.int .i32 xl) ∧ W.frozen? ⟨w.heap.size, 0, none⟩ = false ∧ W.cell? ⟨w.heap.size, 1, none⟩ = some (.int .i32 xh) ∧ W.frozen? ⟨w.heap.size, 1, none⟩ = false ∧ W.cell? ⟨w.heap.size + 1, 0, none⟩ = some (.int .i32 yl) ∧ W.frozen? ⟨w.heap.size + 1, 0, none⟩ = false ∧ W.cell? ⟨w.heap.size + 1, 1, none⟩ = some (.int .i32 yh) ∧ W.frozen? ⟨w.heap.size + 1, 1, none⟩ = false ∧ W.cell? ⟨w.heap.size + 1 + 1, 0, none⟩ = some (.int .i32 0) ∧ W.frozen? ⟨w.heap.size + 1 + 1, 0, none⟩ = false ∧ W.cell? ⟨w.heap.size + 1 + 1, 1, none⟩ = some (.int .i32 0) ∧ W.frozen? ⟨w.heap.size + 1 + 1, 1, none⟩ = false ∧ W.cell? ⟨g, 0, none⟩ = some (.int .i32 zl) ∧ W.frozen? ⟨g, 0, none⟩ = false ∧ W.cell? ⟨g, 1, none⟩ = some (.int .i32 zh) ∧ W.frozen? ⟨g, 1, none⟩ = false := by
 have hs : w.heap.size + 1 + 1 + 1 ≤ y.w.heap.size := GL y.h
 have s0 : w.heap.size < y.w.heap.size := by omega
 have s1 : w.heap.size + 1 < y.w.heap.size := by omega
 have s2 : w.heap.size + 1 + 1 < y.w.heap.size := by omega
 refine ⟨_, _, rfl, rfl, ?_, ?_, ?_, ?_, s2, by simp, ?_⟩
 ·(repeat (first | exact Below.refl _ _ | refine Below.setCell ?_ ?_ _ | refine Ext.below ?_ ?_ _ | refine Below.alloc ?_ ?_ _)) <;> (first | (simp; done) | (simp; omega) | omega | (simp only [World.size_setCell, World.size_alloc]; refine Nat.le_trans ?_ (Below.size (Ext.h _)); simp only [World.size_setCell, World.size_alloc]; omega))
 ·rw [World.size_alloc]; omega
 ·rw [World.size_alloc]; omega
 ·rw [World.size_alloc]; omega
 ·refine ⟨?_, ?_, ?_, ?_, ?_, ?_, ?_, ?_, ?_, ?_, ?_, ?_, ?_, ?_, ?_, ?_⟩
  all_goals (go_simp; done)
theorem fM (op xl xh yl yh : Int) (A N : Bool) (w : World) (hop : (op = 16 ∧ A = false ∧ N = emp (aJ (xl, xh) (yl, yh))) ∨ (op = 17 ∧ A = emp (aJ (xl, xh) (yl, yh)) ∧ N = false) ∨ (op = 18 ∧ A = decide (xh < yl) ∧ N = decide (yh ≤ xl)) ∨ (op = 19 ∧ A = decide (xh ≤ yl) ∧ N = decide (yh < xl)) ∨ (op = 20 ∧ A = decide (yh < xl) ∧ N = decide (xh ≤ yl)) ∨ (op = 21 ∧ A = decide (yh ≤ xl) ∧ N = decide (xh < yl))) :
  Calls Tryz.prog 81 #[.int .u8 op, .agg #[.int .i32 xl, .int .i32 xh], .agg #[.int .i32 yl, .int .i32 yh]] w fun e w' => e = .returned (.agg #[.int .i32 (eD A N).1, .int .i32 (eD A N).2]) ∧ Below w.heap.size w w' := by
 rcases hop with ⟨rfl, rfl, rfl⟩ | ⟨rfl, rfl, rfl⟩ | ⟨rfl, rfl, rfl⟩ | ⟨rfl, rfl, rfl⟩ | ⟨rfl, rfl, rfl⟩ | ⟨rfl, rfl, rfl⟩
 all_goals
  go_enter Tryz.func81, Tryz.ntmps81
  go_wp2_with (first | (go_at_call 38; ((first | (with_reducible refine (Calls.ay (nY _ _ _ _ _)).mono ?_) | (refine (Calls.ext (nY _ _ _ _ _)).mono ?_)); rintro e _ ⟨rfl, y, rfl⟩)) | (go_at_call 39; ((first | (with_reducible refine (Calls.ay (af _ _ _)).mono ?_) | (refine (Calls.ext (af _ _ _)).mono ?_)); rintro e _ ⟨rfl, y, rfl⟩)) | (go_at_call 106; ((first | (with_reducible refine (Calls.ay (mW _ _ _)).mono ?_) | (refine (Calls.ext (mW _ _ _)).mono ?_)); rintro e _ ⟨rfl, y, rfl⟩)))
  all_goals
   refine bodyPost_ret (v := _) ?hr rfl ⟨rfl, ?aF⟩
   case hr =>
    simp [results, Tryz.results81, go_sem]
    first | done | exact ⟨rfl, rfl⟩
   case aF =>
    exact acB
theorem yg (op xl xh yl yh : Int) (w : World) (h1 : 16 ≤ op) (h2 : op ≤ 21) :
  Calls Tryz.prog 81 #[.int .u8 op, .agg #[.int .i32 xl, .int .i32 xh], .agg #[.int .i32 yl, .int .i32 yh]] w fun e w' => e = .returned (.agg #[.int .i32 (sF op (xl, xh) (yl, yh)).1, .int .i32 (sF op (xl, xh) (yl, yh)).2]) ∧ Below w.heap.size w w' := by
 have h : op = 16 ∨ op = 17 ∨ op = 18 ∨ op = 19 ∨ op = 20 ∨ op = 21 := by omega
 rcases h with rfl | rfl | rfl | rfl | rfl | rfl
 ·exact fM _ xl xh yl yh _ _ w (.inl ⟨rfl, rfl, rfl⟩)
 ·exact fM _ xl xh yl yh _ _ w (.inr (.inl ⟨rfl, rfl, rfl⟩))
 ·exact fM _ xl xh yl yh _ _ w (.inr (.inr (.inl ⟨rfl, rfl, rfl⟩)))
 ·exact fM _ xl xh yl yh _ _ w (.inr (.inr (.inr (.inl ⟨rfl, rfl, rfl⟩))))
 ·exact fM _ xl xh yl yh _ _ w (.inr (.inr (.inr (.inr (.inl ⟨rfl, rfl, rfl⟩)))))
 ·exact fM _ xl xh yl yh _ _ w (.inr (.inr (.inr (.inr (.inr (⟨rfl, rfl, rfl⟩))))))
theorem uH (op xl xh yl yh : Int) (w : World) (A N b1 z1 b2 z2 : Bool) (hop : (op = 22 ∧ A = (!b1 && !b2) ∧ N = (z1 || z2)) ∨ (op = 23 ∧ A = (!b1 || !b2) ∧ N = (z1 && z2))) (BX : Hid ((decide (xl ≤ 0) && decide (0 ≤ xh)) = b1)) (BY : Hid ((decide (yl ≤ 0) && decide (0 ≤ yh)) = b2)) (zx : (xl == 0 && xh == 0) = z1) (zy : (yl == 0 && yh == 0) = z2) :
  Calls Tryz.prog 80 #[.int .u8 op, .agg #[.int .i32 xl, .int .i32 xh], .agg #[.int .i32 yl, .int .i32 yh]] w fun e w' => e = .returned (.agg #[.int .i32 (eD A N).1, .int .i32 (eD A N).2]) ∧ Below w.heap.size w w' := by
 have e2 := iO
 rcases hop with ⟨rfl, rfl, rfl⟩ | ⟨rfl, rfl, rfl⟩ <;> cases b1 <;> cases z1
 all_goals
  have _k : True := by have _ := BX; have _ := BY; have _ := zx; have _ := zy; trivial
  go_enter Tryz.func80, Tryz.ntmps80
  go_wp2_with fail
  refine (Calls.ext (cN _ _)).mono ?_
  rintro e _ ⟨rfl, y, rfl⟩
  go_wp2_with fail
  obtain ⟨W, g, hW, hg, kB, z0, z1, S4, z3, z4, c1, f1, c2, f2, c3, f3, c4, f4, c5, f5, c6, f6, c7, f7, c8, f8⟩ := vp xl xh yl yh 0 0 w y
  rw [hW, hg]
  clear hW hg y
  refine aG 17 abp abp ?_
  simp only [acK, List.take_zero, acL, List.drop_zero]
  repeat (go_big_quiet_step (first | (go_at_call 104; (first | (with_reducible exact Calls.ay (cK (cG _ _ _ _) BX.out)) | (with_reducible exact Calls.ay (cK (cG _ _ _ _) BY.out)))) | (go_at_call 106; exact Calls.ay (mW _ _ _))))
  refine wpQuiet_nil ?_
  rintro _ ⟨x1, rfl⟩
  go_wp2_with fail
  refine bodyPost_ret (v := _) ?hr rfl ⟨rfl, ?aF⟩
  case hr =>
   simp [results, Tryz.results80, go_sem, c5, c6, S4]
  case aF =>
   exact acC
theorem Dv (op xl xh yl yh : Int) (w : World) (h1 : 22 ≤ op) (h2 : op ≤ 23) :
  Calls Tryz.prog 80 #[.int .u8 op, .agg #[.int .i32 xl, .int .i32 xh], .agg #[.int .i32 yl, .int .i32 yh]] w fun e w' => e = .returned (.agg #[.int .i32 (vP op (xl, xh) (yl, yh)).1, .int .i32 (vP op (xl, xh) (yl, yh)).2]) ∧ Below w.heap.size w w' := by
 have h : op = 22 ∨ op = 23 := by omega
 rcases h with rfl | rfl
 ·exact uH 22 xl xh yl yh w _ _ _ _ _ _ (.inl ⟨rfl, rfl, rfl⟩) (acD rfl) (acD rfl) rfl rfl
 ·exact uH 23 xl xh yl yh w _ _ _ _ _ _ (.inr ⟨rfl, rfl, rfl⟩) (acD rfl) (acD rfl) rfl rfl
def xE : Go.Shelf.Ren := ⟨fun | 128 => 117 | n => n, fun | 51 => 96 | 3 => 3 | 4 => 4 | 46 => 164 | 5 => 5 | 9 => 9 | n => n, fun | n => n⟩
theorem JU : Go.Proofs.Lays.n128 Tryz.prog xE := {
 mixed := by kernel_rfl
 f128 := Tryz.func117.trans (congrArg some abp)
 t3 := Tryz.underlying3
 a3 := Tryz.isAgg3
 z3 := Tryz.sizeOf3
 v3 := Tryz.zeroValue3
 t4 := Tryz.underlying4
 a4 := Tryz.isAgg4
 z4 := Tryz.sizeOf4
 v4 := Tryz.zeroValue4
 t5 := Tryz.underlying5
 a5 := Tryz.isAgg5
 z5 := Tryz.sizeOf5
 v5 := Tryz.zeroValue5
 t9 := Tryz.underlying9
 a9 := Tryz.isAgg9
 z9 := Tryz.sizeOf9
 v9 := Tryz.zeroValue9
 t46 := Tryz.underlying164
 a46 := Tryz.isAgg164
 z46 := Tryz.sizeOf164
 v46 := Tryz.zeroValue164
 t51 := Tryz.underlying96
 a51 := Tryz.isAgg96
 z51 := Tryz.sizeOf96
 v51 := Tryz.zeroValue96 }
theorem Ax (x : Int) (w : World) (h0 : 0 ≤ x) (h1 : x ≤ 4294967295) :
  Calls Tryz.prog 117 #[.int .u32 x] w fun e w' => e = .returned (.int .i64 (Lib.bitLen x.toNat)) ∧ w' = w := Any.bits_Len32 JU x w h0 h1
def eK (n : Int) : Int := 2 ^ Lib.bitLen n.toNat - 1
theorem bitLenAux_le : ∀ (f k x : Nat), x < 2 ^ k → Lib.bitLenAux f x ≤ k := by
 intro f
 induction f with
 | zero => intro k x _; simp [Lib.bitLenAux]
 | succ f ih =>
  intro k x hx
  unfold Lib.bitLenAux
  split
  ·omega
  ·cases k with
   | zero => simp at hx; omega
   | succ k =>
    have := ih k (x / 2) (by rw [Nat.pow_succ] at hx; omega)
    omega
theorem bitLen_le {n : Int} (h0 : 0 ≤ n) (h1 : n ≤ 2147483647) : Lib.bitLen n.toNat ≤ 31 := bitLenAux_le 64 31 _ abo
theorem jl (k m : Nat) (h : k ≤ m) : (1 : Int) ≤ 2 ^ k ∧ (2 : Int) ^ k ≤ 2 ^ m := by
 have h1 := Nat.pow_le_pow_right (n := 2) abo h
 have h2 := Nat.pow_le_pow_right (n := 2) abo (Nat.zero_le k)
 constructor
 ·have : ((1 : Nat) : Int) ≤ ((2 ^ k : Nat) : Int) := by omega
  simpa using this
 ·have : ((2 ^ k : Nat) : Int) ≤ ((2 ^ m : Nat) : Int) := by omega
  simpa using this
theorem Gl {n : Int} (h0 : 0 ≤ n) (h1 : n ≤ 2147483647) : 0 ≤ eK n ∧ eK n ≤ 2147483647 := by
 have := jl _ 31 (bitLen_le h0 h1)
 unfold eK
 omega
theorem xy (n : Int) (w : World) (h0 : 0 ≤ n) (h1 : n ≤ 2147483647) :
  Calls Tryz.prog 105 #[.int .i32 n] w fun e w' => e = .returned (.int .i32 (eK n)) ∧ w = w' := by
 have hl := bitLen_le h0 h1
 have e0 : Go.IntKind.u32.wrap n = n := by rw [IntKind.wrap_u32]; omega
 go_enter Tryz.func105, Tryz.ntmps105
 go_wp2_with fail
 refine (Ax _ _ abo abo).mono ?_
 rintro e w' ⟨rfl, rfl⟩
 go_wp2_with fail
 go_ret
 refine ⟨eu ?_, rfl⟩
 have hp := jl _ 31 hl
 unfold eK
 generalize (2 : Int) ^ Lib.bitLen n.toNat = p at *
 unfold wrap32
 omega
def kG (op : Int) (x y : Int × Int) : Int × Int :=
 if op = 11 ∧ 0 ≤ x.1 ∧ 0 ≤ y.1 then (0, min x.2 y.2) else if op = 11 ∧ 0 ≤ x.1 then (0, x.2) else if op = 11 ∧ 0 ≤ y.1 then (0, y.2)
 else if op = 12 ∧ 0 ≤ x.1 ∧ 0 ≤ y.1 then (max x.1 y.1, eK (max x.2 y.2)) else if op = 12 ∧ x.2 < 0 ∧ y.2 < 0 then (max x.1 y.1, -1)
 else if op = 13 ∧ 0 ≤ x.1 ∧ 0 ≤ y.1 then (0, eK (max x.2 y.2)) else (-2147483648, 2147483647)
theorem Ku (op xl xh yl yh zl zh : Int) (w : World) (hx3 : -2147483648 ≤ xh) (hx4 : xh ≤ 2147483647) (hy3 : -2147483648 ≤ yh) (hy4 : yh ≤ 2147483647) (he : xl ≤ xh) (he' : yl ≤ yh) (hop : (op = 11 ∧ (0 ≤ xl) ∧ (0 ≤ yl) ∧ zl = 0 ∧ zh = min xh yh) ∨ (op = 11 ∧ (0 ≤ xl) ∧ (¬ 0 ≤ yl) ∧ zl = 0 ∧ zh = xh) ∨ (op = 11 ∧ (¬ 0 ≤ xl) ∧ (0 ≤ yl) ∧ zl = 0 ∧ zh = yh) ∨ (op = 11 ∧ (¬ 0 ≤ xl) ∧ (¬ 0 ≤ yl) ∧ zl = -2147483648 ∧ zh = 2147483647) ∨ (op = 12 ∧ (¬ 0 ≤ xl) ∧ (xh < 0) ∧ (yh < 0) ∧ zl = max xl yl ∧ zh = -1) ∨ (op = 12 ∧ (¬ 0 ≤ xl) ∧ (¬ xh < 0) ∧ zl = -2147483648 ∧ zh = 2147483647) ∨ (op = 12 ∧ (¬ 0 ≤ xl) ∧ (xh < 0) ∧ (¬ yh < 0) ∧ zl = -2147483648 ∧ zh = 2147483647) ∨ (op = 12 ∧ (0 ≤ xl) ∧ (¬ 0 ≤ yl) ∧ (¬ xh < 0) ∧ zl = -2147483648 ∧ zh = 2147483647) ∨ (op = 13 ∧ (0 ≤ xl) ∧ (0 ≤ yl) ∧ zl = 0 ∧ zh = eK (max xh yh)) ∨ (op = 13 ∧ (¬ 0 ≤ xl) ∧ zl = -2147483648 ∧ zh = 2147483647) ∨ (op = 13 ∧ (0 ≤ xl) ∧ (¬ 0 ≤ yl) ∧ zl = -2147483648 ∧ zh = 2147483647) ∨ (op = 12 ∧ (0 ≤ xl) ∧ (0 ≤ yl) ∧ zl = max xl yl ∧ zh = eK (max xh yh))) :
  Calls Tryz.prog 78 #[.int .u8 op, .agg #[.int .i32 xl, .int .i32 xh], .agg #[.int .i32 yl, .int .i32 yh]] w fun e w' => e = .returned (.agg #[.int .i32 zl, .int .i32 zh]) ∧ Below w.heap.size w w' := by
 rcases hop with ⟨rfl, k0, k1, rfl, rfl⟩ | ⟨rfl, k0, k1, rfl, rfl⟩ | ⟨rfl, k0, k1, rfl, rfl⟩ | ⟨rfl, k0, k1, rfl, rfl⟩ | ⟨rfl, k0, k1, k2, rfl, rfl⟩ | ⟨rfl, k0, k1, rfl, rfl⟩ | ⟨rfl, k0, k1, k2, rfl, rfl⟩ | ⟨rfl, k0, k1, k2, rfl, rfl⟩ | ⟨rfl, k0, k1, rfl, rfl⟩ | ⟨rfl, k0, rfl, rfl⟩ | ⟨rfl, k0, k1, rfl, rfl⟩ | ⟨rfl, k0, k1, rfl, rfl⟩
 all_goals
  (first | have p0 := decide_eq_true k0 | have p0 := decide_eq_false k0)
  (try (first | have p1 := decide_eq_true k1 | have p1 := decide_eq_false k1))
  (try (first | have p2 := decide_eq_true k2 | have p2 := decide_eq_false k2))
  go_enter Tryz.func78, Tryz.ntmps78
 iterate 11
  focus
   go_wp2_with (first | (go_at_call 37; ((first | (with_reducible refine (Calls.ay (bK _)).mono ?_) | (refine (Calls.ext (bK _)).mono ?_)); rintro e _ ⟨rfl, y, rfl⟩)) | (go_at_call 105; refine (xy _ _ acw acw).mono ?_; rintro e _ ⟨rfl, rfl⟩))
  rotate_left 1
 focus
  go_wp2_with fail
  refine aG 12 abp abp ?_
  simp only [acK, List.take_zero, acL, List.drop_zero]
  repeat (go_big_quiet_step ((go_at_call 105; exact Calls.cV (xy _ _ acw acw))))
  refine wpQuiet_nil ?_
  rintro _ ⟨x1, rfl⟩
  go_wp2_with fail
 all_goals
  refine bodyPost_ret (v := _) ?hr rfl ⟨rfl, ?aF⟩
  case hr =>
   simp [results, Tryz.results78, go_sem, Gv, Gx]
  case aF =>
   exact acB
theorem uW (op xl xh yl yh : Int) (h1 : 11 ≤ op) (h2 : op ≤ 13) (he : xl ≤ xh) (he' : yl ≤ yh) : ∃ zl zh, kG op (xl, xh) (yl, yh) = (zl, zh) ∧ ((op = 11 ∧ (0 ≤ xl) ∧ (0 ≤ yl) ∧ zl = 0 ∧ zh = min xh yh) ∨ (op = 11 ∧ (0 ≤ xl) ∧ (¬ 0 ≤ yl) ∧ zl = 0 ∧ zh = xh) ∨ (op = 11 ∧ (¬ 0 ≤ xl) ∧ (0 ≤ yl) ∧ zl = 0 ∧ zh = yh) ∨ (op = 11 ∧ (¬ 0 ≤ xl) ∧ (¬ 0 ≤ yl) ∧ zl = -2147483648 ∧ zh = 2147483647) ∨ (op = 12 ∧ (¬ 0 ≤ xl) ∧ (xh < 0) ∧ (yh < 0) ∧ zl = max xl yl ∧ zh = -1) ∨ (op = 12 ∧ (¬ 0 ≤ xl) ∧ (¬ xh < 0) ∧ zl = -2147483648 ∧ zh = 2147483647) ∨ (op = 12 ∧ (¬ 0 ≤ xl) ∧ (xh < 0) ∧ (¬ yh < 0) ∧ zl = -2147483648 ∧ zh = 2147483647) ∨ (op = 12 ∧ (0 ≤ xl) ∧ (¬ 0 ≤ yl) ∧ (¬ xh < 0) ∧ zl = -2147483648 ∧ zh = 2147483647) ∨ (op = 13 ∧ (0 ≤ xl) ∧ (0 ≤ yl) ∧ zl = 0 ∧ zh = eK (max xh yh)) ∨ (op = 13 ∧ (¬ 0 ≤ xl) ∧ zl = -2147483648 ∧ zh = 2147483647) ∨ (op = 13 ∧ (0 ≤ xl) ∧ (¬ 0 ≤ yl) ∧ zl = -2147483648 ∧ zh = 2147483647) ∨ (op = 12 ∧ (0 ≤ xl) ∧ (0 ≤ yl) ∧ zl = max xl yl ∧ zh = eK (max xh yh))) := by
 refine ⟨(kG op (xl, xh) (yl, yh)).1, (kG op (xl, xh) (yl, yh)).2, rfl, ?_⟩
 have h : op = 11 ∨ op = 12 ∨ op = 13 := by omega
 rcases h with rfl | rfl | rfl
 ·by_cases a : 0 ≤ xl <;> by_cases b : 0 ≤ yl <;> simp [kG, a, b]
 ·by_cases a : 0 ≤ xl <;> by_cases b : 0 ≤ yl <;> by_cases c : xh < 0 <;> by_cases d : yh < 0
  all_goals first | (exfalso; omega) | simp [kG, a, b, c, d]
 ·by_cases a : 0 ≤ xl <;> by_cases b : 0 ≤ yl <;> simp [kG, a, b]
theorem yq (op xl xh yl yh : Int) (w : World) (hx3 : -2147483648 ≤ xh) (hx4 : xh ≤ 2147483647) (hy3 : -2147483648 ≤ yh) (hy4 : yh ≤ 2147483647) (h1 : 11 ≤ op) (h2 : op ≤ 13) (he : xl ≤ xh) (he' : yl ≤ yh) :
  Calls Tryz.prog 78 #[.int .u8 op, .agg #[.int .i32 xl, .int .i32 xh], .agg #[.int .i32 yl, .int .i32 yh]] w fun e w' => e = .returned (.agg #[.int .i32 (kG op (xl, xh) (yl, yh)).1, .int .i32 (kG op (xl, xh) (yl, yh)).2]) ∧ Below w.heap.size w w' := by
 obtain ⟨zl, zh, e, h⟩ := uW op xl xh yl yh h1 h2 he he'
 rw [e]
 exact Ku op xl xh yl yh zl zh w hx3 hx4 hy3 hy4 he he' h
def tE (op : Int) (x y : Int × Int) : Int × Int :=
 if op = 14 then (if y.1 = y.2 then aD [x.1 * 2 ^ (y.1 % 32).toNat, x.2 * 2 ^ (y.1 % 32).toNat] else (-2147483648, 2147483647))
 else if y.1 = y.2 then (x.1 / 2 ^ (y.1 % 32).toNat, x.2 / 2 ^ (y.1 % 32).toNat) else (if 0 ≤ x.1 then 0 else x.1, if x.2 < 0 then -1 else x.2)
theorem Ext.merge {w0 : World} (y : Ext w0) (o : Obj) (y2 : Ext (y.w.alloc o)) : ∃ y3 : Ext w0, y2.w = y3.w :=
 ⟨⟨y2.w, Ext.below (Below.alloc y.h y.h.size o) (by have := y.h.size; simp only [World.size_alloc]; omega) y2⟩, rfl⟩
theorem sP (y : Int) : bits .and .u32 (y % 4294967296) 31 = y % 32 := by
 have h := bits_mask .u32 32 abr (fun n h0 h1 => by rw [IntKind.wrap_u32]; omega) 5 abr (y % 4294967296) abo abo
 have e : (2 : Int) ^ 5 - 1 = 31 := by decide
 rw [e] at h
 rw [h]
 omega
theorem qu (x y : Int) (h1 : -2147483648 ≤ x) (h2 : x ≤ 2147483647) : wrap64 (x * 2 ^ (y % 32).toNat) = x * 2 ^ (y % 32).toNat := by
 have hp := jl (y % 32).toNat 31 abo
 have e : (2 : Int) ^ 31 = 2147483648 := by decide
 rw [e] at hp
 have h3 : (x * 2 ^ (y % 32).toNat).natAbs ≤ 2147483648 * 2147483648 := by
  rw [Int.natAbs_mul]
  exact Nat.mul_le_mul abo abo
 generalize x * 2 ^ (y % 32).toNat = p at *
 unfold wrap64
 omega
theorem ze (xl xh yl yh : Int) (w : World) (hx1 : -2147483648 ≤ xl) (hx2 : xl ≤ 2147483647) (hx3 : -2147483648 ≤ xh) (hx4 : xh ≤ 2147483647) (hy1 : -2147483648 ≤ yl) (hy2 : yl ≤ 2147483647) (hs : (yl == yh) = true) :
  Calls Tryz.prog 79 #[.int .u8 14, .agg #[.int .i32 xl, .int .i32 xh], .agg #[.int .i32 yl, .int .i32 yh]] w fun e w' => e = .returned (.agg #[.int .i32 (aD [xl * 2 ^ (yl % 32).toNat, xh * 2 ^ (yl % 32).toNat]).1, .int .i32 (aD [xl * 2 ^ (yl % 32).toNat, xh * 2 ^ (yl % 32).toNat]).2]) ∧ Below w.heap.size w w' := by
 have e31 := sP yl
 go_enter Tryz.func79, Tryz.ntmps79
 go_wp2_with (first | (go_at_call 73; ((first | (with_reducible refine (Calls.ay (aK _ _ _)).mono ?_) | (refine (Calls.ext (aK _ _ _)).mono ?_)); rintro e _ ⟨rfl, y, rfl⟩)))
 rw [qu xl yl hx1 hx2, qu xh yl hx3 hx4]
 refine (Calls.ext (iJ _ 2 [xl * 2 ^ (yl % 32).toNat, xh * 2 ^ (yl % 32).toNat] _ aby aby aby ?_)).mono ?_
 ·intro i hi
  simp only [List.length_cons, List.length_nil] at hi
  have : i = 0 ∨ i = 1 := by omega
  rcases this with rfl | rfl <;> (simp [nth, go_sem])
 rintro e _ ⟨rfl, y2, rfl⟩
 obtain ⟨y3, h3⟩ := Ext.merge y _ y2
 rw [h3]
 clear h3 y2
 go_wp2
 all_goals
  refine bodyPost_ret (v := .agg #[.int .i32 (aD [xl * 2 ^ (yl % 32).toNat, xh * 2 ^ (yl % 32).toNat]).1, .int .i32 (aD [xl * 2 ^ (yl % 32).toNat, xh * 2 ^ (yl % 32).toNat]).2]) ?hr rfl ⟨rfl, ?aF⟩
  case hr =>
   simp [results, Tryz.results79, go_sem]
  case aF =>
   exact acB
theorem zf (xl xh yl yh : Int) (w : World) (hx1 : -2147483648 ≤ xl) (hx2 : xl ≤ 2147483647) (hx3 : -2147483648 ≤ xh) (hx4 : xh ≤ 2147483647) (hy1 : -2147483648 ≤ yl) (hy2 : yl ≤ 2147483647) (hs : (yl == yh) = false) :
  Calls Tryz.prog 79 #[.int .u8 14, .agg #[.int .i32 xl, .int .i32 xh], .agg #[.int .i32 yl, .int .i32 yh]] w fun e w' => e = .returned (.agg #[.int .i32 (-2147483648), .int .i32 (2147483647)]) ∧ Below w.heap.size w w' := by
 have e31 := sP yl
 go_enter Tryz.func79, Tryz.ntmps79
 go_wp2_with (first | (go_at_call 73; ((first | (with_reducible refine (Calls.ay (aK _ _ _)).mono ?_) | (refine (Calls.ext (aK _ _ _)).mono ?_)); rintro e _ ⟨rfl, y, rfl⟩)) | (go_at_call 37; ((first | (with_reducible refine (Calls.ay (bK _)).mono ?_) | (refine (Calls.ext (bK _)).mono ?_)); rintro e _ ⟨rfl, y, rfl⟩)))
 all_goals
  refine bodyPost_ret (v := .agg #[.int .i32 (-2147483648), .int .i32 (2147483647)]) ?hr rfl ⟨rfl, ?aF⟩
  case hr =>
   simp [results, Tryz.results79, go_sem]
  case aF =>
   exact acB
theorem y9 (xl xh yl yh : Int) (w : World) (hx1 : -2147483648 ≤ xl) (hx2 : xl ≤ 2147483647) (hx3 : -2147483648 ≤ xh) (hx4 : xh ≤ 2147483647) (hy1 : -2147483648 ≤ yl) (hy2 : yl ≤ 2147483647) (hs : (yl == yh) = true) :
  Calls Tryz.prog 79 #[.int .u8 15, .agg #[.int .i32 xl, .int .i32 xh], .agg #[.int .i32 yl, .int .i32 yh]] w fun e w' => e = .returned (.agg #[.int .i32 (xl / 2 ^ (yl % 32).toNat), .int .i32 (xh / 2 ^ (yl % 32).toNat)]) ∧ Below w.heap.size w w' := by
 have e31 := sP yl
 go_enter Tryz.func79, Tryz.ntmps79
 go_wp2_with (first | (go_at_call 73; ((first | (with_reducible refine (Calls.ay (aK _ _ _)).mono ?_) | (refine (Calls.ext (aK _ _ _)).mono ?_)); rintro e _ ⟨rfl, y, rfl⟩)) | (go_at_call 37; ((first | (with_reducible refine (Calls.ay (bK _)).mono ?_) | (refine (Calls.ext (bK _)).mono ?_)); rintro e _ ⟨rfl, y, rfl⟩)))
 all_goals
  refine bodyPost_ret (v := .agg #[.int .i32 (xl / 2 ^ (yl % 32).toNat), .int .i32 (xh / 2 ^ (yl % 32).toNat)]) ?hr rfl ⟨rfl, ?aF⟩
  case hr =>
   simp [results, Tryz.results79, go_sem]
  case aF =>
   exact acB
theorem wS (xl xh yl yh : Int) (w : World) (hx1 : -2147483648 ≤ xl) (hx2 : xl ≤ 2147483647) (hx3 : -2147483648 ≤ xh) (hx4 : xh ≤ 2147483647) (hy1 : -2147483648 ≤ yl) (hy2 : yl ≤ 2147483647) (hs : (yl == yh) = false) (ha : 0 ≤ xl) (hb : xh < 0) :
  Calls Tryz.prog 79 #[.int .u8 15, .agg #[.int .i32 xl, .int .i32 xh], .agg #[.int .i32 yl, .int .i32 yh]] w fun e w' => e = .returned (.agg #[.int .i32 (0), .int .i32 (-1)]) ∧ Below w.heap.size w w' := by
 have e31 := sP yl
 have d1 : decide (0 ≤ xl) = true := by simp; omega
 have d2 : decide (xh < 0) = true := by simp; omega
 go_enter Tryz.func79, Tryz.ntmps79
 go_wp2_with (first | (go_at_call 73; ((first | (with_reducible refine (Calls.ay (aK _ _ _)).mono ?_) | (refine (Calls.ext (aK _ _ _)).mono ?_)); rintro e _ ⟨rfl, y, rfl⟩)) | (go_at_call 37; ((first | (with_reducible refine (Calls.ay (bK _)).mono ?_) | (refine (Calls.ext (bK _)).mono ?_)); rintro e _ ⟨rfl, y, rfl⟩)))
 all_goals
  refine bodyPost_ret (v := .agg #[.int .i32 (0), .int .i32 (-1)]) ?hr rfl ⟨rfl, ?aF⟩
  case hr =>
   simp [results, Tryz.results79, go_sem]
  case aF =>
   exact acB
theorem wR (xl xh yl yh : Int) (w : World) (hx1 : -2147483648 ≤ xl) (hx2 : xl ≤ 2147483647) (hx3 : -2147483648 ≤ xh) (hx4 : xh ≤ 2147483647) (hy1 : -2147483648 ≤ yl) (hy2 : yl ≤ 2147483647) (hs : (yl == yh) = false) (ha : 0 ≤ xl) (hb : ¬ xh < 0) :
  Calls Tryz.prog 79 #[.int .u8 15, .agg #[.int .i32 xl, .int .i32 xh], .agg #[.int .i32 yl, .int .i32 yh]] w fun e w' => e = .returned (.agg #[.int .i32 (0), .int .i32 (xh)]) ∧ Below w.heap.size w w' := by
 have e31 := sP yl
 have d1 : decide (0 ≤ xl) = true := by simp; omega
 have d2 : decide (xh < 0) = false := by simp; omega
 go_enter Tryz.func79, Tryz.ntmps79
 go_wp2_with (first | (go_at_call 73; ((first | (with_reducible refine (Calls.ay (aK _ _ _)).mono ?_) | (refine (Calls.ext (aK _ _ _)).mono ?_)); rintro e _ ⟨rfl, y, rfl⟩)) | (go_at_call 37; ((first | (with_reducible refine (Calls.ay (bK _)).mono ?_) | (refine (Calls.ext (bK _)).mono ?_)); rintro e _ ⟨rfl, y, rfl⟩)))
 all_goals
  refine bodyPost_ret (v := .agg #[.int .i32 (0), .int .i32 (xh)]) ?hr rfl ⟨rfl, ?aF⟩
  case hr =>
   simp [results, Tryz.results79, go_sem]
  case aF =>
   exact acB
theorem wU (xl xh yl yh : Int) (w : World) (hx1 : -2147483648 ≤ xl) (hx2 : xl ≤ 2147483647) (hx3 : -2147483648 ≤ xh) (hx4 : xh ≤ 2147483647) (hy1 : -2147483648 ≤ yl) (hy2 : yl ≤ 2147483647) (hs : (yl == yh) = false) (ha : ¬ 0 ≤ xl) (hb : xh < 0) :
  Calls Tryz.prog 79 #[.int .u8 15, .agg #[.int .i32 xl, .int .i32 xh], .agg #[.int .i32 yl, .int .i32 yh]] w fun e w' => e = .returned (.agg #[.int .i32 (xl), .int .i32 (-1)]) ∧ Below w.heap.size w w' := by
 have e31 := sP yl
 have d1 : decide (0 ≤ xl) = false := by simp; omega
 have d2 : decide (xh < 0) = true := by simp; omega
 go_enter Tryz.func79, Tryz.ntmps79
 go_wp2_with (first | (go_at_call 73; ((first | (with_reducible refine (Calls.ay (aK _ _ _)).mono ?_) | (refine (Calls.ext (aK _ _ _)).mono ?_)); rintro e _ ⟨rfl, y, rfl⟩)) | (go_at_call 37; ((first | (with_reducible refine (Calls.ay (bK _)).mono ?_) | (refine (Calls.ext (bK _)).mono ?_)); rintro e _ ⟨rfl, y, rfl⟩)))
 all_goals
  refine bodyPost_ret (v := .agg #[.int .i32 (xl), .int .i32 (-1)]) ?hr rfl ⟨rfl, ?aF⟩
  case hr =>
   simp [results, Tryz.results79, go_sem]
  case aF =>
   exact acB
theorem wT (xl xh yl yh : Int) (w : World) (hx1 : -2147483648 ≤ xl) (hx2 : xl ≤ 2147483647) (hx3 : -2147483648 ≤ xh) (hx4 : xh ≤ 2147483647) (hy1 : -2147483648 ≤ yl) (hy2 : yl ≤ 2147483647) (hs : (yl == yh) = false) (ha : ¬ 0 ≤ xl) (hb : ¬ xh < 0) :
  Calls Tryz.prog 79 #[.int .u8 15, .agg #[.int .i32 xl, .int .i32 xh], .agg #[.int .i32 yl, .int .i32 yh]] w fun e w' => e = .returned (.agg #[.int .i32 (xl), .int .i32 (xh)]) ∧ Below w.heap.size w w' := by
 have e31 := sP yl
 have d1 : decide (0 ≤ xl) = false := by simp; omega
 have d2 : decide (xh < 0) = false := by simp; omega
 go_enter Tryz.func79, Tryz.ntmps79
 go_wp2_with (first | (go_at_call 73; ((first | (with_reducible refine (Calls.ay (aK _ _ _)).mono ?_) | (refine (Calls.ext (aK _ _ _)).mono ?_)); rintro e _ ⟨rfl, y, rfl⟩)) | (go_at_call 37; ((first | (with_reducible refine (Calls.ay (bK _)).mono ?_) | (refine (Calls.ext (bK _)).mono ?_)); rintro e _ ⟨rfl, y, rfl⟩)))
 all_goals
  refine bodyPost_ret (v := .agg #[.int .i32 (xl), .int .i32 (xh)]) ?hr rfl ⟨rfl, ?aF⟩
  case hr =>
   simp [results, Tryz.results79, go_sem]
  case aF =>
   exact acB
theorem Cy (op xl xh yl yh : Int) (w : World) (hx1 : -2147483648 ≤ xl) (hx2 : xl ≤ 2147483647) (hx3 : -2147483648 ≤ xh) (hx4 : xh ≤ 2147483647) (hy1 : -2147483648 ≤ yl) (hy2 : yl ≤ 2147483647) (h1 : 14 ≤ op) (h2 : op ≤ 15) :
  Calls Tryz.prog 79 #[.int .u8 op, .agg #[.int .i32 xl, .int .i32 xh], .agg #[.int .i32 yl, .int .i32 yh]] w fun e w' => e = .returned (.agg #[.int .i32 (tE op (xl, xh) (yl, yh)).1, .int .i32 (tE op (xl, xh) (yl, yh)).2]) ∧ Below w.heap.size w w' := by
 have h : op = 14 ∨ op = 15 := by omega
 by_cases e : yl = yh
 ·rcases h with rfl | rfl
  ·refine (ze xl xh yl yh w hx1 hx2 hx3 hx4 hy1 hy2 (by simpa using e)).mono fun e' w' ⟨q, hb⟩ => ⟨q.trans ?_, hb⟩
   simp [tE, e]
  ·refine (y9 xl xh yl yh w hx1 hx2 hx3 hx4 hy1 hy2 (by simpa using e)).mono fun e' w' ⟨q, hb⟩ => ⟨q.trans ?_, hb⟩
   simp [tE, e]
 ·have hs : (yl == yh) = false := by simpa using e
  rcases h with rfl | rfl
  ·refine (zf xl xh yl yh w hx1 hx2 hx3 hx4 hy1 hy2 hs).mono fun e' w' ⟨q, hb⟩ => ⟨q.trans ?_, hb⟩
   simp [tE, e]
  ·by_cases ha : 0 ≤ xl <;> by_cases hb : xh < 0
   ·refine (wS xl xh yl yh w hx1 hx2 hx3 hx4 hy1 hy2 hs ha hb).mono fun e' w' ⟨q, hb⟩ => ⟨q.trans ?_, hb⟩
    simp [tE, e, *]
   ·refine (wR xl xh yl yh w hx1 hx2 hx3 hx4 hy1 hy2 hs ha hb).mono fun e' w' ⟨q, hb⟩ => ⟨q.trans ?_, hb⟩
    simp [tE, e, *]
   ·refine (wU xl xh yl yh w hx1 hx2 hx3 hx4 hy1 hy2 hs ha hb).mono fun e' w' ⟨q, hb⟩ => ⟨q.trans ?_, hb⟩
    simp [tE, e, *]
   ·refine (wT xl xh yl yh w hx1 hx2 hx3 hx4 hy1 hy2 hs ha hb).mono fun e' w' ⟨q, hb⟩ => ⟨q.trans ?_, hb⟩
    simp [tE, e, *]
end
end Go.Proofs.YtebklpnkcicpjaaGreatDoor
