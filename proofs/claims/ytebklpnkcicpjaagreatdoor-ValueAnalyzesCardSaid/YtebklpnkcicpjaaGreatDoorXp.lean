/-
  What is proved here: parts vRef5, rJn, vRef6, vRef7, vRef8.
-/
import Derived.Test.YtebklpnkcicpjaaGreatDoorXa
import Derived.Test.YtebklpnkcicpjaaGreatDoorXo
import Derived.Test.YtebklpnkcicpjaaGreatDoorXh
import Derived.Test.YtebklpnkcicpjaaGreatDoorXb
import Derived.Test.YtebklpnkcicpjaaGreatDoorXi
namespace Go.Proofs.YtebklpnkcicpjaaGreatDoor
set_option linter.unusedVariables false
set_option linter.unusedSimpArgs false
set_option maxRecDepth 100000
set_option maxHeartbeats 8000000
section
open Go.RowKit
theorem cu  (w : World) :
  Calls Tryz.prog 46 #[] w fun e w' => e = .returned (.agg #[.int .i32 (-2147483648), .int .i32 2147483647]) ∧ Below w.heap.size w w' := by
 go_enter Tryz.func46, Tryz.ntmps46
 go_wp2
 all_goals
  refine bodyPost_ret (v := .agg #[.int .i32 (-2147483648), .int .i32 2147483647]) ?hr rfl ⟨rfl, ?aF⟩
  case hr =>
   simp [results, Tryz.results46, go_sem]
  case aF =>
   exact acB
theorem fJ  (w : World) :
  Calls Tryz.prog 51 #[] w fun e w' => e = .returned (.agg #[.int .i32 1, .int .i32 0]) ∧ Below w.heap.size w w' := by
 go_enter Tryz.func51, Tryz.ntmps51
 go_wp2
 all_goals
  refine bodyPost_ret (v := .agg #[.int .i32 1, .int .i32 0]) ?hr rfl ⟨rfl, ?aF⟩
  case hr =>
   simp [results, Tryz.results51, go_sem]
  case aF =>
   exact acB
theorem bP (xl xh : Int) (w : World) :
  Calls Tryz.prog 83 #[.agg #[.int .i32 xl, .int .i32 xh]] w fun e w' => e = .returned (.bool (decide (xh < xl))) ∧ Below w.heap.size w w' := by
 go_enter Tryz.func83, Tryz.ntmps83
 go_wp2
 all_goals
  go_ret
  refine ⟨rfl, ?_⟩
  exact acB
theorem aY (xl xh : Int) (w : World) :
  Calls Tryz.prog 84 #[.agg #[.int .i32 xl, .int .i32 xh]] w fun e w' => e = .returned (.bool (xl == xh)) ∧ Below w.heap.size w w' := by
 go_enter Tryz.func84, Tryz.ntmps84
 go_wp2
 all_goals
  go_ret
  refine ⟨rfl, ?_⟩
  exact acB
theorem ew (xl xh n : Int) (w : World) :
  Calls Tryz.prog 93 #[.agg #[.int .i32 xl, .int .i32 xh], .int .i32 n] w fun e w' => e = .returned (.bool (decide (xl ≤ n) && decide (n ≤ xh))) ∧ Below w.heap.size w w' := by
 by_cases h1 : xl ≤ n
 ·have d1 : decide (xl ≤ n) = true := by simpa using h1
  go_enter Tryz.func93, Tryz.ntmps93
  go_wp2
  all_goals
   go_ret
   refine ⟨by simp [d1], ?_⟩
   exact acB
 ·have d1 : decide (xl ≤ n) = false := by simpa using h1
  go_enter Tryz.func93, Tryz.ntmps93
  go_wp2
  all_goals
   go_ret
   refine ⟨by simp, ?_⟩
   exact acB
theorem iF (a b : Int) (w : World) : Calls Tryz.prog 112 #[.int .i64 a, .int .i64 b] w fun e w' => e = .returned (.int .i64 (min a b)) ∧ w = w' := by
 go_enter Tryz.func112, Tryz.ntmps112
 go_wp2
 all_goals
  go_ret
  exact ⟨eu abo, rfl⟩
theorem ju (a b : Int) (w : World) : Calls Tryz.prog 113 #[.int .i64 a, .int .i64 b] w fun e w' => e = .returned (.int .i64 (max a b)) ∧ w = w' := by
 go_enter Tryz.func113, Tryz.ntmps113
 go_wp2
 all_goals
  go_ret
  exact ⟨eu abo, rfl⟩
theorem tO  (w : World) :
  Calls Tryz.prog 92 #[.bool true, .bool true] w fun e w' => e = .returned (.agg #[.int .i32 (eD true true).1, .int .i32 (eD true true).2]) ∧ Below w.heap.size w w' := by
 go_enter Tryz.func92, Tryz.ntmps92
 go_wp2
 all_goals
  refine bodyPost_ret (v := .agg #[.int .i32 (eD true true).1, .int .i32 (eD true true).2]) ?hr rfl ⟨rfl, ?aF⟩
  case hr =>
   simp [eD, results, Tryz.results92, go_sem]
  case aF =>
   exact acB
theorem qV  (w : World) :
  Calls Tryz.prog 92 #[.bool true, .bool false] w fun e w' => e = .returned (.agg #[.int .i32 (eD true false).1, .int .i32 (eD true false).2]) ∧ Below w.heap.size w w' := by
 go_enter Tryz.func92, Tryz.ntmps92
 go_wp2
 all_goals
  refine bodyPost_ret (v := .agg #[.int .i32 (eD true false).1, .int .i32 (eD true false).2]) ?hr rfl ⟨rfl, ?aF⟩
  case hr =>
   simp [eD, results, Tryz.results92, go_sem]
  case aF =>
   exact acB
theorem qW  (w : World) :
  Calls Tryz.prog 92 #[.bool false, .bool true] w fun e w' => e = .returned (.agg #[.int .i32 (eD false true).1, .int .i32 (eD false true).2]) ∧ Below w.heap.size w w' := by
 go_enter Tryz.func92, Tryz.ntmps92
 go_wp2
 all_goals
  refine bodyPost_ret (v := .agg #[.int .i32 (eD false true).1, .int .i32 (eD false true).2]) ?hr rfl ⟨rfl, ?aF⟩
  case hr =>
   simp [eD, results, Tryz.results92, go_sem]
  case aF =>
   exact acB
theorem p9  (w : World) :
  Calls Tryz.prog 92 #[.bool false, .bool false] w fun e w' => e = .returned (.agg #[.int .i32 (eD false false).1, .int .i32 (eD false false).2]) ∧ Below w.heap.size w w' := by
 go_enter Tryz.func92, Tryz.ntmps92
 go_wp2
 all_goals
  refine bodyPost_ret (v := .agg #[.int .i32 (eD false false).1, .int .i32 (eD false false).2]) ?hr rfl ⟨rfl, ?aF⟩
  case hr =>
   simp [eD, results, Tryz.results92, go_sem]
  case aF =>
   exact acB
theorem qw (a n : Bool) (w : World) : Calls Tryz.prog 92 #[.bool a, .bool n] w fun e w' => e = .returned (.agg #[.int .i32 (eD a n).1, .int .i32 (eD a n).2]) ∧ Below w.heap.size w w' := by
 cases a <;> cases n
 ·exact p9 w
 ·exact qW w
 ·exact qV w
 ·exact tO w
theorem F0 (a b : Int) (w : World) (ha1 : -2147483648 ≤ a) (ha2 : a ≤ 2147483647) (hb1 : -2147483648 ≤ b) (hb2 : b ≤ 2147483647) : Calls Tryz.prog 114 #[.int .u8 6, .int .i64 a, .int .i64 b] w fun e w' => e = .returned (.int .i64 (a + b)) ∧ w = w' := by
 go_enter Tryz.func114, Tryz.ntmps114
 go_wp2
 all_goals
  go_ret
  exact ⟨rfl, rfl⟩
theorem FZ (a b : Int) (w : World) (ha1 : -2147483648 ≤ a) (ha2 : a ≤ 2147483647) (hb1 : -2147483648 ≤ b) (hb2 : b ≤ 2147483647) : Calls Tryz.prog 114 #[.int .u8 7, .int .i64 a, .int .i64 b] w fun e w' => e = .returned (.int .i64 (a - b)) ∧ w = w' := by
 go_enter Tryz.func114, Tryz.ntmps114
 go_wp2
 all_goals
  go_ret
  exact ⟨rfl, rfl⟩
theorem FY (a b : Int) (w : World) (ha1 : -2147483648 ≤ a) (ha2 : a ≤ 2147483647) (hb1 : -2147483648 ≤ b) (hb2 : b ≤ 2147483647) : Calls Tryz.prog 114 #[.int .u8 8, .int .i64 a, .int .i64 b] w fun e w' => e = .returned (.int .i64 (a * b)) ∧ w = w' := by
 have hm := gC ha1 ha2 hb1 hb2
 obtain ⟨m1, m2⟩ := hm
 go_enter Tryz.func114, Tryz.ntmps114
 go_wp2
 all_goals
  go_ret
  exact ⟨rfl, rfl⟩
theorem FX (a b : Int) (w : World) (ha1 : -2147483648 ≤ a) (ha2 : a ≤ 2147483647) (hb1 : -2147483648 ≤ b) (hb2 : b ≤ 2147483647) (h0 : ¬ b = 0) : Calls Tryz.prog 114 #[.int .u8 9, .int .i64 a, .int .i64 b] w fun e w' => e = .returned (.int .i64 (a.tdiv b)) ∧ w = w' := by
 have z : (b == 0) = false := by simpa using h0
 have tb := dy a b ha1 ha2
 obtain ⟨t1, t2⟩ := tb
 go_enter Tryz.func114, Tryz.ntmps114
 go_wp2
 all_goals
  go_ret
  exact ⟨rfl, rfl⟩
theorem jv (g cap : Nat) (l : List Int) (w : World) (hl : 1 ≤ l.length) (hl' : l.length ≤ 1000) (hg : g < w.heap.size) (hc : ∀ i, i < l.length → w.cell? ⟨g, i, none⟩ = some (.int .i64 (nth l i))) :
  Calls Tryz.prog 86 #[.slice (some ⟨g, 0, none⟩) l.length cap] w fun e w' => e = .returned (.agg #[.int .i32 (aD l).1, .int .i32 (aD l).2]) ∧ Below w.heap.size w w' := by
 have c0 := hc 0 abo
 have hl0 : (0 : Int) < (l.length : Int) := by omega
 have HC := acD hc
 clear hc
 go_enter Tryz.func86, Tryz.ntmps86
 go_wp2_with fail
 go_loop [3, 4, 5] (fun a b i => ∃ k : Nat, k ≤ l.length ∧ i = .int .i64 k ∧ a = .int .i64 ((l.take k).foldl min (nth l 0)) ∧ b = .int .i64 ((l.take k).foldl max (nth l 0))) (fun _ _ i => l.length - (intOf i).toNat)
 case atStart => exact ⟨0, by omega, rfl, rfl, rfl⟩
 case round =>
  obtain ⟨k, hk, rfl, rfl, rfl⟩ := hrel
  by_cases hlt : k < l.length
  ·have ck := HC.out k hlt
   have s1 := acD (jT min l (nth l 0) k hlt)
   have s2 := acD (jT max l (nth l 0) k hlt)
   have hlt' : (k : Int) < (l.length : Int) := by omega
   go_wp2_with (first | (go_at_call 112; refine (iF _ _ _).mono ?_; rintro e _ ⟨rfl, rfl⟩) | (go_at_call 113; refine (ju _ _ _).mono ?_; rintro e _ ⟨rfl, rfl⟩))
   all_goals
    go_round
    case rel => exact ⟨k + 1, by omega, by go_num, int_eq (by rw [s1.out]), int_eq (by rw [s2.out])⟩
    case measure => simp [intOf]; omega
  ·have ek : l.take k = l := List.take_of_length_le abo
   rw [ek]
   have hge : ¬ ((k : Int) < (l.length : Int)) := by omega
   clear HC
   have e1 : l.foldl min (nth l 0) = zL l := rfl
   have e2 : l.foldl max (nth l 0) = zS l := rfl
   rw [e1, e2]
   have hle := rK l
   by_cases h1 : zL l < -2147483648
   ·have d1 := decide_eq_true h1
    have HV := acD (show aD l = (-2147483648, 2147483647) by unfold aD; rw [if_pos (.inl h1)])
    clear ek e1 e2
    go_wp2_with (go_at_call 46; ((first | (with_reducible refine (Calls.ay (cu _)).mono ?_) | (refine (Calls.ext (cu _)).mono ?_)); rintro e _ ⟨rfl, y, rfl⟩))
    all_goals
     refine bodyPost_ret (v := .agg #[.int .i32 (aD l).1, .int .i32 (aD l).2]) ?hr rfl ⟨rfl, ?aF⟩
     case hr =>
      rw [HV.out]
      simp [results, Tryz.results86, go_sem]
     case aF =>
      exact acB
   ·by_cases h2 : 2147483647 < zS l
    ·have d1 := decide_eq_false h1
     have d2 := decide_eq_true h2
     have HV := acD (show aD l = (-2147483648, 2147483647) by unfold aD; rw [if_pos (.inr h2)])
     clear ek e1 e2
     go_wp2_with (go_at_call 46; ((first | (with_reducible refine (Calls.ay (cu _)).mono ?_) | (refine (Calls.ext (cu _)).mono ?_)); rintro e _ ⟨rfl, y, rfl⟩))
     all_goals
      refine bodyPost_ret (v := .agg #[.int .i32 (aD l).1, .int .i32 (aD l).2]) ?hr rfl ⟨rfl, ?aF⟩
      case hr =>
       rw [HV.out]
       simp [results, Tryz.results86, go_sem]
      case aF =>
       exact acB
    ·have d1 := decide_eq_false h1
     have d2 := decide_eq_false h2
     have HV := acD (show aD l = (zL l, zS l) by unfold aD; rw [if_neg abo])
     clear ek e1 e2
     go_wp2
     all_goals
      refine bodyPost_ret (v := .agg #[.int .i32 (aD l).1, .int .i32 (aD l).2]) ?hr rfl ⟨rfl, ?aF⟩
      case hr =>
       rw [HV.out]
       simp [results, Tryz.results86, go_sem]
      case aF =>
       exact acB
end
section
open Go.RowKit
theorem A8 (a b : Int) (w : World) : (Instr.field 58 (.agg #[.int .i32 a, .int .i32 b]) 0).run Tryz.prog w = .ok (.int .i32 a) w := by kernel_rfl
theorem A7 (a b : Int) (w : World) : (Instr.field 58 (.agg #[.int .i32 a, .int .i32 b]) 1).run Tryz.prog w = .ok (.int .i32 b) w := by kernel_rfl
structure BP (w U : World) (z y : RG) : Prop where
 aF : Below w.heap.size w U
 ka : aH U w.heap.size 61 z
 kb : aH U (w.heap.size + 1) 61 y
 ko : U.heap[w.heap.size + 1 + 1]? = some (.cells (aa aq).toArray 61 (0, 0))
theorem BP.keep {w U W : World} {z y : RG} (h : BP w U z y) (b : Below U.heap.size U W) : BP w W z y :=
 ⟨h.aF.trans (b.mono h.aF.size), h.ka.keep b, h.kb.keep b, (b.block _ (ag h.ko)).trans h.ko⟩
theorem uS {r : RG} {k : Nat} (hk : k < r.length) (v : Int) : (aa r).set (k * 2) (.int .i32 v) = aa (r.set k (v, (rg r (k : Int)).2)) := by
 rw [← jV]
 apply List.ext_getElem?
 intro i
 have h := ig r k 1 _ (eZ hk) abo
 by_cases e : i = k * 2 + 1
 ·subst e
  rw [List.getElem?_set, if_neg abo, h, List.getElem?_set, if_pos rfl, if_pos (by rw [List.length_set, ax]; omega)]
  rfl
 ·rw [List.getElem?_set (i := k * 2 + 1), if_neg (Ne.symm e)]
theorem uT {r : RG} {k : Nat} (hk : k < r.length) (v : Int) : (aa r).set (k * 2 + 1) (.int .i32 v) = aa (r.set k ((rg r (k : Int)).1, v)) := by
 rw [← jV]
 apply List.ext_getElem?
 intro i
 have h := ig r k 0 _ (eZ hk) abo
 by_cases e : i = k * 2
 ·subst e
  rw [List.getElem?_set, if_neg abo, List.getElem?_set, if_neg abo, List.getElem?_set, if_pos rfl, if_pos (by rw [ax]; omega)]
  simpa using h
 ·rw [List.getElem?_set, List.getElem?_set, List.length_set]
  by_cases e2 : k * 2 + 1 = i
  ·rw [if_pos e2, if_pos e2]
  ·rw [if_neg e2, if_neg e2, List.getElem?_set, if_neg (Ne.symm e)]
theorem BP.set {w U : World} {z z' y : RG} (h : BP w U z y) (o : Nat) (v : Value) (e : (aa z).set o v = aa z') : BP w (U.setCell ⟨w.heap.size, o, none⟩ v) z' y := by
 refine ⟨Below.setCell h.aF (Nat.le_refl _) _, ?_, (Below.heap_setCell _ _ _ _ (by show w.heap.size + 1 ≠ w.heap.size; omega)).trans h.kb, (Below.heap_setCell _ _ _ _ acf).trans h.ko⟩
 have h1 := h.ka
 unfold aH at h1 ⊢
 rw [heap_setCell_same _ _ _ _ _ _ h1, ← e]
 simp
theorem uu (x y : RG) (hx : x.length = 16) (hy : y.length = 16) (w : World) : Calls Tryz.prog 66 #[.agg (aa x).toArray, .agg (aa y).toArray] w fun e w' => e = .returned (.agg (aa (List.zipWith Dz x y)).toArray) ∧ Below w.heap.size w w' := by
 obtain ⟨V, hV, k0, k1, k2, bV, sV⟩ := cm w (aa x).toArray (aa y).toArray acM.toArray 61 61 61
 have HC := acD (show BP w V x y from ⟨bV, k0, k1, k2⟩)
 have q0 := A8
 have q1 := A7
 have HX := acD hx
 have HY := acD hy
 clear k0 k1 k2 bV hx hy sV
 go_enter Tryz.func66, Tryz.ntmps66
 go_wp2_with fail
 clear hV
 go_loopw [5] (fun a5 wr => ∃ k : Nat, ∃ z : RG, k ≤ 16 ∧ a5 = .int .i64 (k : Int) ∧ z.length = 16 ∧ (∀ j : Nat, j < k → rg z (j : Int) = Dz (rg x (j : Int)) (rg y (j : Int))) ∧ (∀ j : Nat, k ≤ j → rg z (j : Int) = rg x (j : Int)) ∧ BP w wr z y) (fun a5 _ => 16 - (intOf a5).toNat)
 case atStart => exact ⟨0, x, by omega, rfl, HX.out, fun j hj => by omega, fun j hj => rfl, HC.out⟩
 case round =>
  obtain ⟨k, z, hk, rfl, hz, hall, xK, hj⟩ := hrel
  have HA := acD hall
  have NC := acD xK
  have HZ := acD hz
  have HJ := acD hj
  clear hall xK hz hj HC
  by_cases hlt : k < 16
  ·have dl : decide ((k : Int) < 16) = true := decide_eq_true abo
   have ik : (k : Int) < 16 := by omega
   have HE := acD (NC.out k (Nat.le_refl _))
   obtain ⟨c0, c1, d0, d1⟩ : wr.cell? ⟨w.heap.size, k * 2, none⟩ = some (.int .i32 (rg z (k : Int)).1) ∧ wr.cell? ⟨w.heap.size, k * 2 + 1, none⟩ = some (.int .i32 (rg z (k : Int)).2) ∧ wr.cell? ⟨w.heap.size + 1, k * 2, none⟩ = some (.int .i32 (rg y (k : Int)).1) ∧ wr.cell? ⟨w.heap.size + 1, k * 2 + 1, none⟩ = some (.int .i32 (rg y (k : Int)).2) := ⟨HJ.out.ka.lo abJ, HJ.out.ka.hi abJ, HJ.out.kb.lo abR, HJ.out.kb.hi abR⟩
   have f0 := HJ.out.ka.fz (k * 2)
   have f1 := HJ.out.ka.fz (k * 2 + 1)
   have s0 := HJ.out.ka.lt
   have s1 := HJ.out.kb.lt
   rw [HE.out] at c0 c1
   obtain ⟨xl, hxl⟩ : ∃ v, (rg x (k : Int)).1 = v := ⟨_, rfl⟩
   obtain ⟨xh, DI⟩ : ∃ v, (rg x (k : Int)).2 = v := ⟨_, rfl⟩
   obtain ⟨yl, DF⟩ : ∃ v, (rg y (k : Int)).1 = v := ⟨_, rfl⟩
   obtain ⟨yh, DG⟩ : ∃ v, (rg y (k : Int)).2 = v := ⟨_, rfl⟩
   have Q1 := acD (show Dz (rg x (k : Int)) (rg y (k : Int)) = Dz (xl, xh) (yl, yh) by rw [← hxl, ← DI, ← DF, ← DG])
   have QB := acD (show rg z (k : Int) = (xl, xh) by rw [HE.out, ← hxl, ← DI])
   have KH := acD (show rg y (k : Int) = (yl, yh) by rw [← DF, ← DG])
   rw [hxl] at c0
   rw [DI] at c1
   rw [DF] at d0
   rw [DG] at d1
   clear hxl DI DF DG
   by_cases h1 : yl < xl
   all_goals
    (first | have e1 := decide_eq_false h1 | have e1 := decide_eq_true h1)
    go_wp2_with fail
    refine az abp abp ?_
    repeat (go_big_quiet_step (fail))
    refine wpQuiet_nil ?_
    rintro _ ⟨x1, rfl⟩
    go_upto_region 6 with fail
   focus
    obtain ⟨W1, hW1⟩ : ∃ W1, x1.w.setCell ⟨w.heap.size, k * 2, none⟩ (.int .i32 (yl)) = W1 := ⟨_, rfl⟩
    obtain ⟨z1, hz1⟩ : ∃ z1, z.set k (yl, (rg z (k : Int)).2) = z1 := ⟨_, rfl⟩
    have tu := acD (show BP w W1 z1 y by rw [← hW1, ← hz1]; exact (HJ.out.keep (x1.h)).set _ _ (uS abJ _))
    have HP := acD (show rg z1 (k : Int) = (yl, xh) by rw [← hz1, dH, bL abJ, QB.out])
    have HO := acD (show ∀ j : Nat, j ≠ k → rg z1 (j : Int) = rg z (j : Int) from fun j hj => by rw [← hz1, dH, aT hj, ← dH])
    have HL := acD (show z1.length = 16 by rw [← hz1, List.length_set]; exact HZ.out)
    obtain ⟨p, hp⟩ : ∃ p : Int, yl = p := ⟨_, rfl⟩
    have NF := acD (show (Dz (xl, xh) (yl, yh)).1 = p by rw [← hp]; unfold Dz; exact if_pos abo)
    rw [hp] at HP
    rw [hW1]
    clear hW1 hz1 hp
   rotate_left 1
   focus
    obtain ⟨W1, hW1⟩ : ∃ W1, x1.w = W1 := ⟨_, rfl⟩
    obtain ⟨z1, hz1⟩ : ∃ z1, z = z1 := ⟨_, rfl⟩
    have tu := acD (show BP w W1 z1 y by rw [← hW1, ← hz1]; exact HJ.out.keep x1.h)
    have HP := acD (show rg z1 (k : Int) = (xl, xh) by rw [← hz1, QB.out])
    have HO := acD (show ∀ j : Nat, j ≠ k → rg z1 (j : Int) = rg z (j : Int) from fun j hj => by rw [← hz1])
    have HL := acD (show z1.length = 16 by rw [← hz1]; exact HZ.out)
    obtain ⟨p, hp⟩ : ∃ p : Int, xl = p := ⟨_, rfl⟩
    have NF := acD (show (Dz (xl, xh) (yl, yh)).1 = p by rw [← hp]; unfold Dz; exact if_neg abo)
    have NG := acD (show rg z1 (k : Int) = (p, xh) by rw [HP.out, hp])
    clear HP
    have HP := NG
    rw [hW1]
    clear hW1 hz1 hp NG
   all_goals
    clear c0 c1 d0 d1 f0 f1 s0 s1 e1
    obtain ⟨c0, c1, d0, d1⟩ : W1.cell? ⟨w.heap.size, k * 2, none⟩ = some (.int .i32 (rg z1 (k : Int)).1) ∧ W1.cell? ⟨w.heap.size, k * 2 + 1, none⟩ = some (.int .i32 (rg z1 (k : Int)).2) ∧ W1.cell? ⟨w.heap.size + 1, k * 2, none⟩ = some (.int .i32 (rg y (k : Int)).1) ∧ W1.cell? ⟨w.heap.size + 1, k * 2 + 1, none⟩ = some (.int .i32 (rg y (k : Int)).2) := ⟨tu.out.ka.lo abV, tu.out.ka.hi abV, tu.out.kb.lo abR, tu.out.kb.hi abR⟩
    have f0 := tu.out.ka.fz (k * 2)
    have f1 := tu.out.ka.fz (k * 2 + 1)
    have s0 := tu.out.ka.lt
    have s1 := tu.out.kb.lt
    rw [HP.out] at c0 c1
    rw [KH.out] at d0 d1
    by_cases h2 : xh < yh
    all_goals
     (first | have e2 := decide_eq_false h2 | have e2 := decide_eq_true h2)
     refine az abp abp ?_
     repeat (go_big_quiet_step (fail))
     refine wpQuiet_nil ?_
     rintro _ ⟨x2, rfl⟩
     go_wp2_with fail
     go_roundw
     case measure => simp [intOf]; omega
   iterate 2
    focus
     refine ⟨k + 1, z1.set k ((rg z1 (k : Int)).1, yh), by omega, by go_num, by rw [List.length_set]; exact HL.out, fun j hj => ?_, fun j hj => ?_, (tu.out.keep (x2.h)).set _ _ (uT abV _)⟩
     ·by_cases hjk : j = k
      ·subst hjk
       rw [dH, bL abV, HP.out, Q1.out]
       exact Prod.ext NF.out.symm (by unfold Dz; exact (if_pos abo).symm)
      ·rw [dH, aT hjk, ← dH, HO.out j hjk]
       exact HA.out j abo
     ·rw [dH, aT abo, ← dH, HO.out j abo]
      exact NC.out j abo
    focus
     refine ⟨k + 1, z1, by omega, by go_num, HL.out, fun j hj => ?_, fun j hj => ?_, tu.out.keep x2.h⟩
     ·by_cases hjk : j = k
      ·subst hjk
       rw [HP.out, Q1.out]
       exact Prod.ext NF.out.symm (by unfold Dz; exact (if_neg abo).symm)
      ·rw [HO.out j hjk]
       exact HA.out j abo
     ·rw [HO.out j abo]
      exact NC.out j abo
  ·obtain rfl : k = 16 := by omega
   have HR := acD (rQ HX.out HY.out HZ.out HA.out)
   go_wp2_with (first | (refine wpList_load_mid rfl _ _ rfl _ _ rfl (aa z) _ HJ.out.ka.range Tryz.underlying61 rfl (rn aI HZ.out) ?_) | (refine wpList_store_row rfl 61 (.tmp 4) (.tmp 50) rfl (w.heap.size + 1 + 1) (aa z).toArray rfl rfl 61 _ HJ.out.ko (ra aI HZ.out) (hi6 HZ.out ak) (aj z) ?_))
   refine bodyPost_ret (eH (P := Tryz.prog) Tryz.results66 _ _ (w.heap.size + 1 + 1) (aa z) _ rfl (au (setRow_heap _ _ _ _ _ _ HJ.out.ko)) Tryz.underlying61 rfl (rn aI HZ.out)) rfl ⟨?_, below_setRow HJ.out.aF abo _⟩
   rw [HR.out]
theorem zg (x y : RG) (hx : x.length = 16) (hy : y.length = 16) (w : World) : Calls Tryz.prog 67 #[.agg (aa x).toArray, .agg (aa y).toArray] w fun e w' => e = .returned (.agg (aa (List.zipWith A0 x y)).toArray) ∧ Below w.heap.size w w' := by
 obtain ⟨V, hV, k0, k1, k2, bV, sV⟩ := cm w (aa x).toArray (aa y).toArray acM.toArray 61 61 61
 have HC := acD (show BP w V x y from ⟨bV, k0, k1, k2⟩)
 have q0 := A8
 have q1 := A7
 have HX := acD hx
 have HY := acD hy
 clear k0 k1 k2 bV hx hy sV
 go_enter Tryz.func67, Tryz.ntmps67
 go_wp2_with fail
 clear hV
 go_loopw [5] (fun a5 wr => ∃ k : Nat, ∃ z : RG, k ≤ 16 ∧ a5 = .int .i64 (k : Int) ∧ z.length = 16 ∧ (∀ j : Nat, j < k → rg z (j : Int) = A0 (rg x (j : Int)) (rg y (j : Int))) ∧ (∀ j : Nat, k ≤ j → rg z (j : Int) = rg x (j : Int)) ∧ BP w wr z y) (fun a5 _ => 16 - (intOf a5).toNat)
 case atStart => exact ⟨0, x, by omega, rfl, HX.out, fun j hj => by omega, fun j hj => rfl, HC.out⟩
 case round =>
  obtain ⟨k, z, hk, rfl, hz, hall, xK, hj⟩ := hrel
  have HA := acD hall
  have NC := acD xK
  have HZ := acD hz
  have HJ := acD hj
  clear hall xK hz hj HC
  by_cases hlt : k < 16
  ·have dl : decide ((k : Int) < 16) = true := decide_eq_true abo
   have ik : (k : Int) < 16 := by omega
   have HE := acD (NC.out k (Nat.le_refl _))
   obtain ⟨c0, c1, d0, d1⟩ : wr.cell? ⟨w.heap.size, k * 2, none⟩ = some (.int .i32 (rg z (k : Int)).1) ∧ wr.cell? ⟨w.heap.size, k * 2 + 1, none⟩ = some (.int .i32 (rg z (k : Int)).2) ∧ wr.cell? ⟨w.heap.size + 1, k * 2, none⟩ = some (.int .i32 (rg y (k : Int)).1) ∧ wr.cell? ⟨w.heap.size + 1, k * 2 + 1, none⟩ = some (.int .i32 (rg y (k : Int)).2) := ⟨HJ.out.ka.lo abJ, HJ.out.ka.hi abJ, HJ.out.kb.lo abR, HJ.out.kb.hi abR⟩
   have f0 := HJ.out.ka.fz (k * 2)
   have f1 := HJ.out.ka.fz (k * 2 + 1)
   have s0 := HJ.out.ka.lt
   have s1 := HJ.out.kb.lt
   rw [HE.out] at c0 c1
   obtain ⟨xl, hxl⟩ : ∃ v, (rg x (k : Int)).1 = v := ⟨_, rfl⟩
   obtain ⟨xh, DI⟩ : ∃ v, (rg x (k : Int)).2 = v := ⟨_, rfl⟩
   obtain ⟨yl, DF⟩ : ∃ v, (rg y (k : Int)).1 = v := ⟨_, rfl⟩
   obtain ⟨yh, DG⟩ : ∃ v, (rg y (k : Int)).2 = v := ⟨_, rfl⟩
   have Q1 := acD (show A0 (rg x (k : Int)) (rg y (k : Int)) = A0 (xl, xh) (yl, yh) by rw [← hxl, ← DI, ← DF, ← DG])
   have QB := acD (show rg z (k : Int) = (xl, xh) by rw [HE.out, ← hxl, ← DI])
   have KH := acD (show rg y (k : Int) = (yl, yh) by rw [← DF, ← DG])
   rw [hxl] at c0
   rw [DI] at c1
   rw [DF] at d0
   rw [DG] at d1
   clear hxl DI DF DG
   by_cases h1 : yl < xl
   all_goals
    (first | have e1 := decide_eq_false h1 | have e1 := decide_eq_true h1)
    go_wp2_with fail
    refine az abp abp ?_
    repeat (go_big_quiet_step (fail))
    refine wpQuiet_nil ?_
    rintro _ ⟨x1, rfl⟩
    go_upto_region 6 with (go_at_call 46; ((first | (with_reducible refine (Calls.ay (cu _)).mono ?_) | (refine (Calls.ext (cu _)).mono ?_)); rintro e _ ⟨rfl, y1, rfl⟩))
   focus
    obtain ⟨W1, hW1⟩ : ∃ W1, y1.w.setCell ⟨w.heap.size, k * 2, none⟩ (.int .i32 (-2147483648)) = W1 := ⟨_, rfl⟩
    obtain ⟨z1, hz1⟩ : ∃ z1, z.set k (-2147483648, (rg z (k : Int)).2) = z1 := ⟨_, rfl⟩
    have tu := acD (show BP w W1 z1 y by rw [← hW1, ← hz1]; exact (HJ.out.keep (y1.h)).set _ _ (uS abJ _))
    have HP := acD (show rg z1 (k : Int) = (-2147483648, xh) by rw [← hz1, dH, bL abJ, QB.out])
    have HO := acD (show ∀ j : Nat, j ≠ k → rg z1 (j : Int) = rg z (j : Int) from fun j hj => by rw [← hz1, dH, aT hj, ← dH])
    have HL := acD (show z1.length = 16 by rw [← hz1, List.length_set]; exact HZ.out)
    obtain ⟨p, hp⟩ : ∃ p : Int, -2147483648 = p := ⟨_, rfl⟩
    have NF := acD (show (A0 (xl, xh) (yl, yh)).1 = p by rw [← hp]; unfold A0; exact if_pos abo)
    rw [hp] at HP
    rw [hW1]
    clear hW1 hz1 hp
   rotate_left 1
   focus
    obtain ⟨W1, hW1⟩ : ∃ W1, x1.w = W1 := ⟨_, rfl⟩
    obtain ⟨z1, hz1⟩ : ∃ z1, z = z1 := ⟨_, rfl⟩
    have tu := acD (show BP w W1 z1 y by rw [← hW1, ← hz1]; exact HJ.out.keep x1.h)
    have HP := acD (show rg z1 (k : Int) = (xl, xh) by rw [← hz1, QB.out])
    have HO := acD (show ∀ j : Nat, j ≠ k → rg z1 (j : Int) = rg z (j : Int) from fun j hj => by rw [← hz1])
    have HL := acD (show z1.length = 16 by rw [← hz1]; exact HZ.out)
    obtain ⟨p, hp⟩ : ∃ p : Int, xl = p := ⟨_, rfl⟩
    have NF := acD (show (A0 (xl, xh) (yl, yh)).1 = p by rw [← hp]; unfold A0; exact if_neg abo)
    have NG := acD (show rg z1 (k : Int) = (p, xh) by rw [HP.out, hp])
    clear HP
    have HP := NG
    rw [hW1]
    clear hW1 hz1 hp NG
   all_goals
    clear c0 c1 d0 d1 f0 f1 s0 s1 e1
    obtain ⟨c0, c1, d0, d1⟩ : W1.cell? ⟨w.heap.size, k * 2, none⟩ = some (.int .i32 (rg z1 (k : Int)).1) ∧ W1.cell? ⟨w.heap.size, k * 2 + 1, none⟩ = some (.int .i32 (rg z1 (k : Int)).2) ∧ W1.cell? ⟨w.heap.size + 1, k * 2, none⟩ = some (.int .i32 (rg y (k : Int)).1) ∧ W1.cell? ⟨w.heap.size + 1, k * 2 + 1, none⟩ = some (.int .i32 (rg y (k : Int)).2) := ⟨tu.out.ka.lo abV, tu.out.ka.hi abV, tu.out.kb.lo abR, tu.out.kb.hi abR⟩
    have f0 := tu.out.ka.fz (k * 2)
    have f1 := tu.out.ka.fz (k * 2 + 1)
    have s0 := tu.out.ka.lt
    have s1 := tu.out.kb.lt
    rw [HP.out] at c0 c1
    rw [KH.out] at d0 d1
    by_cases h2 : xh < yh
    all_goals
     (first | have e2 := decide_eq_false h2 | have e2 := decide_eq_true h2)
     refine az abp abp ?_
     repeat (go_big_quiet_step (fail))
     refine wpQuiet_nil ?_
     rintro _ ⟨x2, rfl⟩
     go_wp2_with (go_at_call 46; ((first | (with_reducible refine (Calls.ay (cu _)).mono ?_) | (refine (Calls.ext (cu _)).mono ?_)); rintro e _ ⟨rfl, y2, rfl⟩))
     go_roundw
     case measure => simp [intOf]; omega
   iterate 2
    focus
     refine ⟨k + 1, z1.set k ((rg z1 (k : Int)).1, 2147483647), by omega, by go_num, by rw [List.length_set]; exact HL.out, fun j hj => ?_, fun j hj => ?_, (tu.out.keep (y2.h)).set _ _ (uT abV _)⟩
     ·by_cases hjk : j = k
      ·subst hjk
       rw [dH, bL abV, HP.out, Q1.out]
       exact Prod.ext NF.out.symm (by unfold A0; exact (if_pos abo).symm)
      ·rw [dH, aT hjk, ← dH, HO.out j hjk]
       exact HA.out j abo
     ·rw [dH, aT abo, ← dH, HO.out j abo]
      exact NC.out j abo
    focus
     refine ⟨k + 1, z1, by omega, by go_num, HL.out, fun j hj => ?_, fun j hj => ?_, tu.out.keep x2.h⟩
     ·by_cases hjk : j = k
      ·subst hjk
       rw [HP.out, Q1.out]
       exact Prod.ext NF.out.symm (by unfold A0; exact (if_neg abo).symm)
      ·rw [HO.out j hjk]
       exact HA.out j abo
     ·rw [HO.out j abo]
      exact NC.out j abo
  ·obtain rfl : k = 16 := by omega
   have HR := acD (rQ HX.out HY.out HZ.out HA.out)
   go_wp2_with (first | (refine wpList_load_mid rfl _ _ rfl _ _ rfl (aa z) _ HJ.out.ka.range Tryz.underlying61 rfl (rn aI HZ.out) ?_) | (refine wpList_store_row rfl 61 (.tmp 4) (.tmp 44) rfl (w.heap.size + 1 + 1) (aa z).toArray rfl rfl 61 _ HJ.out.ko (ra aI HZ.out) (hi6 HZ.out ak) (aj z) ?_))
   refine bodyPost_ret (eH (P := Tryz.prog) Tryz.results67 _ _ (w.heap.size + 1 + 1) (aa z) _ rfl (au (setRow_heap _ _ _ _ _ _ HJ.out.ko)) Tryz.underlying61 rfl (rn aI HZ.out)) rfl ⟨?_, below_setRow HJ.out.aF abo _⟩
   rw [HR.out]
end
section
open Go.RowKit
def mA (l : List Int) (w : World) (e : Ending) (w' : World) : Prop :=
 ∃ g cap, e = .returned (.slice (some ⟨g, 0, none⟩) l.length cap) ∧ w.heap.size ≤ g ∧ g < w'.heap.size ∧ (∀ i, i < l.length → w'.cell? ⟨g, i, none⟩ = some (.int .i64 (nth l i))) ∧ Below w.heap.size w w'
theorem jF {V W : World} (h : Below V.heap.size V W) {n m : Nat} {a b c d : Value} (z1 : n < V.heap.size) (z2 : m < V.heap.size) (c1 : V.cell? ⟨n, 0, none⟩ = some a) (c2 : V.cell? ⟨n, 1, none⟩ = some b) (c3 : V.cell? ⟨m, 0, none⟩ = some c) (c4 : V.cell? ⟨m, 1, none⟩ = some d) :
  W.cell? ⟨n, 0, none⟩ = some a ∧ W.cell? ⟨n, 1, none⟩ = some b ∧ W.cell? ⟨m, 0, none⟩ = some c ∧ W.cell? ⟨m, 1, none⟩ = some d ∧ n < W.heap.size ∧ m < W.heap.size := by
 have e : ∀ k j, k < V.heap.size → W.cell? ⟨k, j, none⟩ = V.cell? ⟨k, j, none⟩ := fun k j hk => h.cell (p := ⟨k, j, none⟩) hk
 refine ⟨(e _ _ z1).trans c1, (e _ _ z1).trans c2, (e _ _ z2).trans c3, (e _ _ z2).trans c4, Nat.lt_of_lt_of_le z1 h.size, Nat.lt_of_lt_of_le z2 h.size⟩
theorem mj {V W W' : World} (x : Ext W) (h : Below V.heap.size V W) {e : TypeId} {size n : Nat} {v : Value} {xs : List Value} {o : Obj} (hown : x.w.ownsRow V.heap.size e size v n xs) (hg : (x.w.alloc o).grownBy W' v.ownBlock) : Below V.heap.size V W' := by
 have hs := h.size
 have hx := x.h.size
 refine ((h.trans (x.h.mono hs)).alloc abo o).grown hg abD ?_
 intro k hk
 rcases hown.2 with ⟨rfl, _⟩ | ⟨g, cap, cur, rfl, hb, _⟩
 ·cases hk
 ·cases hk; exact hb
theorem De {w : World} {B Ih : Nat} {v : Value} {l : List Int} (hcap : Ih = l.length) (h : w.ownsRow B 2 1 v Ih (l.map (Value.int .i64))) (hl : 1 ≤ l.length) :
  ∃ g cap, v = .slice (some ⟨g, 0, none⟩) l.length cap ∧ B ≤ g ∧ g < w.heap.size ∧ ∀ i, i < l.length → w.cell? ⟨g, i, none⟩ = some (.int .i64 (nth l i)) := by
 obtain ⟨g, cap, hv, hg, hc⟩ := fE hcap h hl
 refine ⟨g, cap, hv, ?_, hg, hc⟩
 rcases h.2 with ⟨e, _⟩ | ⟨g', cap', cur, e, hb, _⟩
 ·rw [hv] at e; cases e
 ·rw [hv] at e; cases e; exact hb
theorem jb {V W : World} (x : Ext W) (h : Below V.heap.size V W) (o : Obj) : V.heap.size ≤ (x.w.alloc o).heap.size := by
 have := h.size; have := x.h.size; rw [World.size_alloc]; omega
theorem H8 (xl xh yl yh : Int) (w : World) : ∃ V : World, ((((w.alloc (Obj.cells #[Value.int IntKind.i32 xl, Value.int IntKind.i32 xh] 58)).alloc (Obj.cells #[Value.int IntKind.i32 yl, Value.int IntKind.i32 yh] 58)).alloc (Obj.cells #[Value.int IntKind.i64 xl, Value.int IntKind.i64 xh] 2)).alloc (Obj.cells #[Value.int IntKind.i64 yl, Value.int IntKind.i64 yh] 2)) = V ∧ Below w.heap.size w V ∧ w.heap.size + 1 + 1 < V.heap.size ∧ w.heap.size + 1 + 1 + 1 < V.heap.size ∧ V.cell? ⟨w.heap.size + 1 + 1, 0, none⟩ = some (.int .i64 xl) ∧ V.cell? ⟨w.heap.size + 1 + 1, 1, none⟩ = some (.int .i64 xh) ∧ V.cell? ⟨w.heap.size + 1 + 1 + 1, 0, none⟩ = some (.int .i64 yl) ∧ V.cell? ⟨w.heap.size + 1 + 1 + 1, 1, none⟩ = some (.int .i64 yh) := by
 refine ⟨_, rfl, ?_, by simp, by simp, ?_, ?_, ?_, ?_⟩
 ·(repeat (first | exact Below.refl _ _ | refine Below.setCell ?_ ?_ _ | refine Ext.below ?_ ?_ _ | refine Below.alloc ?_ ?_ _)) <;> (first | (simp; done) | (simp; omega) | omega | (simp only [World.size_setCell, World.size_alloc]; refine Nat.le_trans ?_ (Below.size (Ext.h _)); simp only [World.size_setCell, World.size_alloc]; omega))
 all_goals (go_simp; done)
def Ed (op a b : Int) : Int := if op = 6 then a + b else if op = 7 then a - b else if op = 8 then a * b else a.tdiv b
theorem jL (op a b : Int) (w : World) (ha1 : -2147483648 ≤ a) (ha2 : a ≤ 2147483647) (hb1 : -2147483648 ≤ b) (hb2 : b ≤ 2147483647) (h : op = 6 ∨ op = 7 ∨ op = 8 ∨ (op = 9 ∧ ¬ b = 0)) : Calls Tryz.prog 114 #[.int .u8 op, .int .i64 a, .int .i64 b] w fun e w' => e = .returned (.int .i64 (Ed op a b)) ∧ w = w' := by
 rcases h with rfl | rfl | rfl | ⟨rfl, h⟩
 ·exact F0 a b w ha1 ha2 hb1 hb2
 ·exact FZ a b w ha1 ha2 hb1 hb2
 ·exact FY a b w ha1 ha2 hb1 hb2
 ·exact FX a b w ha1 ha2 hb1 hb2 h
theorem gP (op xl xh yl yh : Int) (w : World) (hx1 : -2147483648 ≤ xl) (hx2 : xl ≤ 2147483647) (hx3 : -2147483648 ≤ xh) (hx4 : xh ≤ 2147483647) (hy1 : -2147483648 ≤ yl) (hy2 : yl ≤ 2147483647) (hy3 : -2147483648 ≤ yh) (hy4 : yh ≤ 2147483647) (h1 : op = 6 ∨ op = 7 ∨ op = 8 ∨ (op = 9 ∧ ¬ yl = 0)) (h2 : op = 6 ∨ op = 7 ∨ op = 8 ∨ (op = 9 ∧ ¬ yh = 0)) :
  Calls Tryz.prog 87 #[.int .u8 op, .agg #[.int .i32 xl, .int .i32 xh], .agg #[.int .i32 yl, .int .i32 yh]] w (mA [Ed op xl yl, Ed op xl yh, Ed op xh yl, Ed op xh yh] w) := by
 obtain ⟨i0, hi, hz0, hz1, hz2⟩ := info_parts mJ
 go_enter Tryz.func87, Tryz.ntmps87
 go_wp2_with fail
 obtain ⟨V, hV, kB, z1, z2, d1, d2, d3, d4⟩ := H8 xl xh yl yh w
 rw [hV]
 have dw : V.ownsRow V.heap.size 2 1 (.slice none 0 0) 0 [] := ⟨rfl, .inl ⟨rfl, rfl⟩⟩
 have bV : Below V.heap.size V V := Below.refl _ _
 have T8 : w.heap.size ≤ V.heap.size := kB.size
 clear hV
 obtain ⟨c1, c2, c3, c4, s1, s2⟩ := jF bV z1 z2 d1 d2 d3 d4
 refine wp_loop_rounds 3 ?_
 rw [rounds_succ]
 go_wp2_with fail
 refine wp_loop_rounds 3 ?_
 rw [rounds_succ]
 go_wp2_with fail
 refine b8 11 14 _ 7 _ rfl rfl rfl rfl abp rfl abp abp abp ?_
 simp only [Act.put, acH, acI, acJ, acK, List.take_zero, acL, List.drop_zero, Nat.reduceSub]
 repeat (go_big_quiet_step ((go_at_call 114; exact Calls.cV (jL _ _ _ _ abN abN abN abN abN))))
 refine wpQuiet_nil ?_
 rintro _ ⟨x0, rfl⟩
 have ho := fl x0 dw
 go_wp2_with (at_builtin; refine wpList_append_own _ rfl (.tmp 34) (.tmp 45) 153 rfl V.heap.size 2 i0 (.int .i64 0) 1 8 Tryz.underlying153 hi hz0 hz1 hz2 rfl abr _ _ _ rfl (ho.alloc _) ⟨x0.w.heap.size, 0, none⟩ 1 1 [.int .i64 (Ed op xl yl)] rfl rfl (cell_one_new _ _ _) abt abv abo (jb x0 bV _) ?_; intro v1 W1 hown1 hgrow _)
 refine NoPanic.normal ?_
 have nw := mj x0 bV ho hgrow
 obtain ⟨c1, c2, c3, c4, s1, s2⟩ := jF nw z1 z2 d1 d2 d3 d4
 clear hgrow ho dw bV
 have bV := nw
 clear nw
 go_wp2_with fail
 rw [rounds_succ]
 go_wp2_with fail
 refine b8 11 14 _ 7 _ rfl rfl rfl rfl abp rfl abp abp abp ?_
 simp only [Act.put, acH, acI, acJ, acK, List.take_zero, acL, List.drop_zero, Nat.reduceSub]
 repeat (go_big_quiet_step ((go_at_call 114; exact Calls.cV (jL _ _ _ _ abN abN abN abN abN))))
 refine wpQuiet_nil ?_
 rintro _ ⟨x1, rfl⟩
 have ho := fl x1 hown1
 go_wp2_with (at_builtin; refine wpList_append_own _ rfl (.tmp 34) (.tmp 45) 153 rfl V.heap.size 2 i0 (.int .i64 0) 1 8 Tryz.underlying153 hi hz0 hz1 hz2 rfl abr _ _ _ rfl (ho.alloc _) ⟨x1.w.heap.size, 0, none⟩ 1 1 [.int .i64 (Ed op xl yh)] rfl rfl (cell_one_new _ _ _) abt abv abo (jb x1 bV _) ?_; intro v2 W2 hown2 hgrow _)
 refine NoPanic.normal ?_
 have nw := mj x1 bV ho hgrow
 obtain ⟨c1, c2, c3, c4, s1, s2⟩ := jF nw z1 z2 d1 d2 d3 d4
 clear hgrow ho hown1 bV
 have bV := nw
 clear nw
 go_wp2_with fail
 rw [rounds_succ]
 go_wp2_with fail
 rw [rounds_succ]
 go_wp2_with fail
 refine wp_loop_rounds 3 ?_
 rw [rounds_succ]
 go_wp2_with fail
 refine b8 11 14 _ 7 _ rfl rfl rfl rfl abp rfl abp abp abp ?_
 simp only [Act.put, acH, acI, acJ, acK, List.take_zero, acL, List.drop_zero, Nat.reduceSub]
 repeat (go_big_quiet_step ((go_at_call 114; exact Calls.cV (jL _ _ _ _ abN abN abN abN abN))))
 refine wpQuiet_nil ?_
 rintro _ ⟨x2, rfl⟩
 have ho := fl x2 hown2
 go_wp2_with (at_builtin; refine wpList_append_own _ rfl (.tmp 34) (.tmp 45) 153 rfl V.heap.size 2 i0 (.int .i64 0) 1 8 Tryz.underlying153 hi hz0 hz1 hz2 rfl abr _ _ _ rfl (ho.alloc _) ⟨x2.w.heap.size, 0, none⟩ 1 1 [.int .i64 (Ed op xh yl)] rfl rfl (cell_one_new _ _ _) abt abv abo (jb x2 bV _) ?_; intro v3 W3 eY hgrow _)
 refine NoPanic.normal ?_
 have nw := mj x2 bV ho hgrow
 obtain ⟨c1, c2, c3, c4, s1, s2⟩ := jF nw z1 z2 d1 d2 d3 d4
 clear hgrow ho hown2 bV
 have bV := nw
 clear nw
 go_wp2_with fail
 rw [rounds_succ]
 go_wp2_with fail
 refine b8 11 14 _ 7 _ rfl rfl rfl rfl abp rfl abp abp abp ?_
 simp only [Act.put, acH, acI, acJ, acK, List.take_zero, acL, List.drop_zero, Nat.reduceSub]
 repeat (go_big_quiet_step ((go_at_call 114; exact Calls.cV (jL _ _ _ _ abN abN abN abN abN))))
 refine wpQuiet_nil ?_
 rintro _ ⟨x3, rfl⟩
 have ho := fl x3 eY
 go_wp2_with (at_builtin; refine wpList_append_own _ rfl (.tmp 34) (.tmp 45) 153 rfl V.heap.size 2 i0 (.int .i64 0) 1 8 Tryz.underlying153 hi hz0 hz1 hz2 rfl abr _ _ _ rfl (ho.alloc _) ⟨x3.w.heap.size, 0, none⟩ 1 1 [.int .i64 (Ed op xh yh)] rfl rfl (cell_one_new _ _ _) abt abv abo (jb x3 bV _) ?_; intro v4 W4 ja hgrow _)
 refine NoPanic.normal ?_
 have nw := mj x3 bV ho hgrow
 obtain ⟨c1, c2, c3, c4, s1, s2⟩ := jF nw z1 z2 d1 d2 d3 d4
 clear hgrow ho eY bV
 have bV := nw
 clear nw
 go_wp2_with fail
 rw [rounds_succ]
 go_wp2_with fail
 rw [rounds_succ]
 go_wp2_with fail
 obtain ⟨g, cap, hv, hB, hg, hc⟩ := De (l := [Ed op xl yl, Ed op xl yh, Ed op xh yl, Ed op xh yh]) rfl (by simpa using ja) aby
 go_ret
 exact ⟨g, cap, by rw [hv]; rfl, by omega, hg, hc, kB.trans (bV.mono T8)⟩
theorem zv (xl xh yl yh : Int) (w : World) (hx1 : -2147483648 ≤ xl) (hx2 : xl ≤ 2147483647) (hx3 : -2147483648 ≤ xh) (hx4 : xh ≤ 2147483647) (hy1 : -2147483648 ≤ yl) (hy2 : yl ≤ 2147483647) (hy3 : -2147483648 ≤ yh) (hy4 : yh ≤ 2147483647) :
  Calls Tryz.prog 87 #[.int .u8 6, .agg #[.int .i32 xl, .int .i32 xh], .agg #[.int .i32 yl, .int .i32 yh]] w (mA [xl + yl, xl + yh, xh + yl, xh + yh] w) :=
 gP 6 xl xh yl yh w hx1 hx2 hx3 hx4 hy1 hy2 hy3 hy4 (.inl rfl) (.inl rfl)
theorem zu (xl xh yl yh : Int) (w : World) (hx1 : -2147483648 ≤ xl) (hx2 : xl ≤ 2147483647) (hx3 : -2147483648 ≤ xh) (hx4 : xh ≤ 2147483647) (hy1 : -2147483648 ≤ yl) (hy2 : yl ≤ 2147483647) (hy3 : -2147483648 ≤ yh) (hy4 : yh ≤ 2147483647) :
  Calls Tryz.prog 87 #[.int .u8 7, .agg #[.int .i32 xl, .int .i32 xh], .agg #[.int .i32 yl, .int .i32 yh]] w (mA [xl - yl, xl - yh, xh - yl, xh - yh] w) :=
 gP 7 xl xh yl yh w hx1 hx2 hx3 hx4 hy1 hy2 hy3 hy4 (.inr (.inl rfl)) (.inr (.inl rfl))
theorem zq (xl xh yl yh : Int) (w : World) (hx1 : -2147483648 ≤ xl) (hx2 : xl ≤ 2147483647) (hx3 : -2147483648 ≤ xh) (hx4 : xh ≤ 2147483647) (hy1 : -2147483648 ≤ yl) (hy2 : yl ≤ 2147483647) (hy3 : -2147483648 ≤ yh) (hy4 : yh ≤ 2147483647) :
  Calls Tryz.prog 87 #[.int .u8 8, .agg #[.int .i32 xl, .int .i32 xh], .agg #[.int .i32 yl, .int .i32 yh]] w (mA [xl * yl, xl * yh, xh * yl, xh * yh] w) :=
 gP 8 xl xh yl yh w hx1 hx2 hx3 hx4 hy1 hy2 hy3 hy4 (.inr (.inr (.inl rfl))) (.inr (.inr (.inl rfl)))
theorem jN (xl xh yl yh : Int) (w : World) (hx1 : -2147483648 ≤ xl) (hx2 : xl ≤ 2147483647) (hx3 : -2147483648 ≤ xh) (hx4 : xh ≤ 2147483647) (hy1 : -2147483648 ≤ yl) (hy2 : yl ≤ 2147483647) (hy3 : -2147483648 ≤ yh) (hy4 : yh ≤ 2147483647) (n1 : ¬ yl = 0) (n2 : ¬ yh = 0) :
  Calls Tryz.prog 87 #[.int .u8 9, .agg #[.int .i32 xl, .int .i32 xh], .agg #[.int .i32 yl, .int .i32 yh]] w (mA [xl.tdiv yl, xl.tdiv yh, xh.tdiv yl, xh.tdiv yh] w) :=
 gP 9 xl xh yl yh w hx1 hx2 hx3 hx4 hy1 hy2 hy3 hy4 (.inr (.inr (.inr ⟨rfl, n1⟩))) (.inr (.inr (.inr ⟨rfl, n2⟩)))
end
section
open Go.RowKit
theorem qy {W : World} {g : Nat} {l : List Int} (hc : ∀ i, i < l.length → W.cell? ⟨g, i, none⟩ = some (.int .i64 (nth l i))) : ∀ (j : Nat) (u : Value), (l.map (Value.int .i64))[j]? = some u → W.cell? ((⟨g, 0, none⟩ : Addr).add j) = some u := by
 intro j u h
 have hj : j < l.length := by
  rcases Nat.lt_or_ge j l.length with h' | h'
  ·exact h'
  ·rw [List.getElem?_eq_none (by simpa using h')] at h; cases h
 have e : (⟨g, 0, none⟩ : Addr).add j = ⟨g, j, none⟩ := by simp [Addr.add]; exact fun h => h.symm
 rw [e, hc j hj]
 simp [hj] at h
 rw [← h]
 simp [nth, List.getD, hj]
theorem nX (l : List Int) : ∀ u ∈ l.map (Value.int .i64), u.oneCell' = true := by
 intro u hu
 obtain ⟨z, _, rfl⟩ := List.mem_map.1 hu
 rfl
structure Iy (w V : World) (xl xh yl yh : Int) : Prop where
 below : Below w.heap.size w V
 s1 : w.heap.size < V.heap.size
 s2 : w.heap.size + 1 < V.heap.size
 s3 : w.heap.size + 1 + 1 < V.heap.size
 c1 : V.cell? ⟨w.heap.size, 0, none⟩ = some (.int .i32 xl)
 c2 : V.cell? ⟨w.heap.size, 1, none⟩ = some (.int .i32 xh)
 c3 : V.cell? ⟨w.heap.size + 1, 0, none⟩ = some (.int .i32 yl)
 c4 : V.cell? ⟨w.heap.size + 1, 1, none⟩ = some (.int .i32 yh)
 c5 : V.cell? ⟨w.heap.size + 1 + 1, 0, none⟩ = some (.int .i32 0)
 c6 : V.cell? ⟨w.heap.size + 1 + 1, 1, none⟩ = some (.int .i32 0)
 f5 : V.frozen? ⟨w.heap.size + 1 + 1, 0, none⟩ = false
 f6 : V.frozen? ⟨w.heap.size + 1 + 1, 1, none⟩ = false
theorem Iy.later {w V W : World} {xl xh yl yh : Int} (D : Iy w V xl xh yl yh) (h : Below V.heap.size V W) : Iy w W xl xh yl yh := by
 have e : ∀ k j, k < V.heap.size → W.cell? ⟨k, j, none⟩ = V.cell? ⟨k, j, none⟩ := fun k j hk => h.cell (p := ⟨k, j, none⟩) hk
 have e' : ∀ k j, k < V.heap.size → W.frozen? ⟨k, j, none⟩ = V.frozen? ⟨k, j, none⟩ := fun k j hk => h.frozen (p := ⟨k, j, none⟩) hk
 have hs := h.size
 have s1 := D.s1
 have s2 := D.s2
 have s3 := D.s3
 exact ⟨D.below.trans (h.mono abo), by omega, by omega, by omega, (e _ _ s1).trans D.c1, (e _ _ s1).trans D.c2, (e _ _ s2).trans D.c3, (e _ _ s2).trans D.c4, (e _ _ s3).trans D.c5, (e _ _ s3).trans D.c6, (e' _ _ s3).trans D.f5, (e' _ _ s3).trans D.f6⟩
theorem dR (xl xh yl yh : Int) (w : World) (y : Ext (((w.alloc (Obj.cells #[Value.int IntKind.i32 xl, Value.int IntKind.i32 xh] 58)).alloc (Obj.cells #[Value.int IntKind.i32 yl, Value.int IntKind.i32 yh] 58)).alloc (Obj.cells #[Value.int IntKind.i32 0, Value.int IntKind.i32 0] 58))) : ∃ V, y.w = V ∧ Iy w V xl xh yl yh := by
 have hs : w.heap.size + 1 + 1 + 1 ≤ y.w.heap.size := GL y.h
 refine ⟨_, rfl, ?_, by omega, by omega, by omega, ?_, ?_, ?_, ?_, ?_, ?_, ?_, ?_⟩
 ·(repeat (first | exact Below.refl _ _ | refine Below.setCell ?_ ?_ _ | refine Ext.below ?_ ?_ _ | refine Below.alloc ?_ ?_ _)) <;> (first | (simp; done) | (simp; omega) | omega | (simp only [World.size_setCell, World.size_alloc]; refine Nat.le_trans ?_ (Below.size (Ext.h _)); simp only [World.size_setCell, World.size_alloc]; omega))
 all_goals (go_simp; done)
theorem jM {V W W2 W' : World} (x : Ext W) (h : Below V.heap.size V W) (hb : Below x.w.heap.size x.w W2) {e : TypeId} {size n : Nat} {v : Value} {xs : List Value} (hown : W2.ownsRow V.heap.size e size v n xs) (hg : W2.grownBy W' v.ownBlock) : Below V.heap.size V W' := by
 have hs := h.size
 have hx := x.h.size
 have h2 := hb.size
 refine (((h.trans (x.h.mono hs)).trans (hb.mono abo))).grown hg abo ?_
 intro k hk
 rcases hown.2 with ⟨rfl, _⟩ | ⟨g, cap, cur, rfl, hb', _⟩
 ·cases hk
 ·cases hk; exact hb'
theorem JD {P : Program} {f : FuncId} {args : Array Value} {w : World} {p q : Int} (h : Calls P f args w fun e w' => e = .returned (.int .i64 p) ∧ w = w') (hp : p = q) :
  Calls P f args w fun e w' => e = .returned (.int .i64 q) ∧ w = w' := hp ▸ h
theorem CG (xl xh yl yh : Int) (w : World) (hx1 : -2147483648 ≤ xl) (hx2 : xl ≤ 2147483647) (hx3 : -2147483648 ≤ xh) (hx4 : xh ≤ 2147483647) (hy1 : -2147483648 ≤ yl) (hy2 : yl ≤ 2147483647) (hy3 : -2147483648 ≤ yh) (hy4 : yh ≤ 2147483647) (nh pl : Int) (NH : Hid (min yh (-1) = nh)) (PL : Hid (max yl 1 = pl)) (HH : Hid ((decide (xl ≤ -2147483648) && decide (-2147483648 ≤ xh)) = false) ∨ (Hid ((decide (xl ≤ -2147483648) && decide (-2147483648 ≤ xh)) = true) ∧ Hid ((decide (yl ≤ -1) && decide (-1 ≤ yh)) = false))) (d1 : decide (yl < 0) = true) (d2 : decide (0 < yh) = false) (q1 : yl ≤ nh) (q2 : nh ≤ -1) :
  Calls Tryz.prog 88 #[.agg #[.int .i32 xl, .int .i32 xh], .agg #[.int .i32 yl, .int .i32 yh]] w fun e w' => e = .returned (.agg #[.int .i32 (aD [xl.tdiv yl, xl.tdiv nh, xh.tdiv yl, xh.tdiv nh]).1, .int .i32 (aD [xl.tdiv yl, xl.tdiv nh, xh.tdiv yl, xh.tdiv nh]).2]) ∧ Below w.heap.size w w' := by
 obtain ⟨i0, hi, hz0, hz1, hz2⟩ := info_parts mJ
 rcases HH with BX | ⟨BX, BY⟩
 all_goals
  go_enter Tryz.func88, Tryz.ntmps88
  go_wp2_with fail
  refine (Calls.ext (cK (ew _ _ _ _) BX.out)).mono ?_
  rintro e _ ⟨rfl, y, rfl⟩
 rotate_left 1
 focus
  go_wp2_with fail
  refine (Calls.ay (cK (ew _ _ _ _) BY.out)).mono ?_
  rintro e _ ⟨rfl, y, rfl⟩
 all_goals
  go_wp2_with fail
  obtain ⟨V, hV, D⟩ := dR xl xh yl yh w y
  rw [hV]
  clear hV
  have hown : V.ownsRow V.heap.size 2 1 (.slice none 0 0) 0 [] := ⟨rfl, .inl ⟨rfl, rfl⟩⟩
  have bV : Below V.heap.size V V := Below.refl _ _
  obtain ⟨kB, s1, s2, s3, c1, c2, c3, c4, c5, c6, f5, f6⟩ := D.later bV
  go_wp2_with fail
  refine b8 10 13 _ 5 _ rfl rfl rfl rfl abp rfl abp abp abp ?_
  simp only [Act.put, acH, acI, acJ, acK, List.take_zero, acL, List.drop_zero, Nat.reduceSub]
  repeat (go_big_quiet_step ((go_at_call 112; exact Calls.cV (JD (iF _ _ _) NH.out))))
  refine wpQuiet_nil ?_
  rintro _ ⟨x0, rfl⟩
  have ho := fl x0 hown
  go_wp2_with fail
  refine (jN xl xh yl nh _ hx1 hx2 hx3 hx4 abo abo abo abo abo abo).mono ?_
  rintro e W2 ⟨g, cap, rfl, hge, hg, hc, hb⟩
  have ho2 := fl ⟨W2, hb⟩ ho
  go_wp2_with (at_builtin; refine wpList_append_own _ rfl (.tmp 16) (.tmp 26) 153 rfl V.heap.size 2 i0 (.int .i64 0) 1 8 Tryz.underlying153 hi hz0 hz1 hz2 rfl abr _ _ _ rfl ho2 ⟨g, 0, none⟩ 4 cap ([xl.tdiv yl, xl.tdiv nh, xh.tdiv yl, xh.tdiv nh].map (Value.int .i64)) rfl rfl (qy hc) (nX _) abv abo ab4 ?_; intro v0 W0 dw hgrow _)
  refine NoPanic.normal ?_
  have nw := jM x0 bV hb ho2 hgrow
  obtain ⟨kB, s1, s2, s3, c1, c2, c3, c4, c5, c6, f5, f6⟩ := D.later nw
  clear hgrow ho ho2 hown bV hc hg hge hb
  have bV := nw
  clear nw
  go_wp2_with fail
  obtain ⟨g, cap, hv, hg, hc⟩ := fE (l := [xl.tdiv yl, xl.tdiv nh, xh.tdiv yl, xh.tdiv nh]) rfl (by simpa using dw) aby
  rw [hv]
  clear hv dw
  refine (Calls.ext (jv g cap [xl.tdiv yl, xl.tdiv nh, xh.tdiv yl, xh.tdiv nh] _ aby aby hg hc)).mono ?_
  rintro e _ ⟨rfl, y5, rfl⟩
  clear hc
  go_wp2
  all_goals
   refine bodyPost_ret (v := .agg #[.int .i32 (aD [xl.tdiv yl, xl.tdiv nh, xh.tdiv yl, xh.tdiv nh]).1, .int .i32 (aD [xl.tdiv yl, xl.tdiv nh, xh.tdiv yl, xh.tdiv nh]).2]) ?hr rfl ⟨rfl, ?aF⟩
   case hr =>
    simp [results, Tryz.results88, go_sem, c5, c6, s3]
   case aF =>
    exact Below.setCell (Below.setCell (Ext.below kB abo y5) abA _) abA _
theorem CE (xl xh yl yh : Int) (w : World) (hx1 : -2147483648 ≤ xl) (hx2 : xl ≤ 2147483647) (hx3 : -2147483648 ≤ xh) (hx4 : xh ≤ 2147483647) (hy1 : -2147483648 ≤ yl) (hy2 : yl ≤ 2147483647) (hy3 : -2147483648 ≤ yh) (hy4 : yh ≤ 2147483647) (nh pl : Int) (NH : Hid (min yh (-1) = nh)) (PL : Hid (max yl 1 = pl)) (HH : Hid ((decide (xl ≤ -2147483648) && decide (-2147483648 ≤ xh)) = false) ∨ (Hid ((decide (xl ≤ -2147483648) && decide (-2147483648 ≤ xh)) = true) ∧ Hid ((decide (yl ≤ -1) && decide (-1 ≤ yh)) = false))) (d1 : decide (yl < 0) = false) (d2 : decide (0 < yh) = true) (q1 : 1 ≤ pl) (q2 : pl ≤ yh) :
  Calls Tryz.prog 88 #[.agg #[.int .i32 xl, .int .i32 xh], .agg #[.int .i32 yl, .int .i32 yh]] w fun e w' => e = .returned (.agg #[.int .i32 (aD [xl.tdiv pl, xl.tdiv yh, xh.tdiv pl, xh.tdiv yh]).1, .int .i32 (aD [xl.tdiv pl, xl.tdiv yh, xh.tdiv pl, xh.tdiv yh]).2]) ∧ Below w.heap.size w w' := by
 obtain ⟨i0, hi, hz0, hz1, hz2⟩ := info_parts mJ
 rcases HH with BX | ⟨BX, BY⟩
 all_goals
  go_enter Tryz.func88, Tryz.ntmps88
  go_wp2_with fail
  refine (Calls.ext (cK (ew _ _ _ _) BX.out)).mono ?_
  rintro e _ ⟨rfl, y, rfl⟩
 rotate_left 1
 focus
  go_wp2_with fail
  refine (Calls.ay (cK (ew _ _ _ _) BY.out)).mono ?_
  rintro e _ ⟨rfl, y, rfl⟩
 all_goals
  go_wp2_with fail
  obtain ⟨V, hV, D⟩ := dR xl xh yl yh w y
  rw [hV]
  clear hV
  have hown : V.ownsRow V.heap.size 2 1 (.slice none 0 0) 0 [] := ⟨rfl, .inl ⟨rfl, rfl⟩⟩
  have bV : Below V.heap.size V V := Below.refl _ _
  obtain ⟨kB, s1, s2, s3, c1, c2, c3, c4, c5, c6, f5, f6⟩ := D.later bV
  go_wp2_with fail
  refine b8 10 13 _ 5 _ rfl rfl rfl rfl abp rfl abp abp abp ?_
  simp only [Act.put, acH, acI, acJ, acK, List.take_zero, acL, List.drop_zero, Nat.reduceSub]
  repeat (go_big_quiet_step ((go_at_call 113; exact Calls.cV (JD (ju _ _ _) PL.out))))
  refine wpQuiet_nil ?_
  rintro _ ⟨x0, rfl⟩
  have ho := fl x0 hown
  go_wp2_with fail
  refine (jN xl xh pl yh _ hx1 hx2 hx3 hx4 abo abo abo abo abo abo).mono ?_
  rintro e W2 ⟨g, cap, rfl, hge, hg, hc, hb⟩
  have ho2 := fl ⟨W2, hb⟩ ho
  go_wp2_with (at_builtin; refine wpList_append_own _ rfl (.tmp 31) (.tmp 41) 153 rfl V.heap.size 2 i0 (.int .i64 0) 1 8 Tryz.underlying153 hi hz0 hz1 hz2 rfl abr _ _ _ rfl ho2 ⟨g, 0, none⟩ 4 cap ([xl.tdiv pl, xl.tdiv yh, xh.tdiv pl, xh.tdiv yh].map (Value.int .i64)) rfl rfl (qy hc) (nX _) abv abo ab4 ?_; intro v0 W0 dw hgrow _)
  refine NoPanic.normal ?_
  have nw := jM x0 bV hb ho2 hgrow
  obtain ⟨kB, s1, s2, s3, c1, c2, c3, c4, c5, c6, f5, f6⟩ := D.later nw
  clear hgrow ho ho2 hown bV hc hg hge hb
  have bV := nw
  clear nw
  go_wp2_with fail
  obtain ⟨g, cap, hv, hg, hc⟩ := fE (l := [xl.tdiv pl, xl.tdiv yh, xh.tdiv pl, xh.tdiv yh]) rfl (by simpa using dw) aby
  rw [hv]
  clear hv dw
  refine (Calls.ext (jv g cap [xl.tdiv pl, xl.tdiv yh, xh.tdiv pl, xh.tdiv yh] _ aby aby hg hc)).mono ?_
  rintro e _ ⟨rfl, y5, rfl⟩
  clear hc
  go_wp2
  all_goals
   refine bodyPost_ret (v := .agg #[.int .i32 (aD [xl.tdiv pl, xl.tdiv yh, xh.tdiv pl, xh.tdiv yh]).1, .int .i32 (aD [xl.tdiv pl, xl.tdiv yh, xh.tdiv pl, xh.tdiv yh]).2]) ?hr rfl ⟨rfl, ?aF⟩
   case hr =>
    simp [results, Tryz.results88, go_sem, c5, c6, s3]
   case aF =>
    exact Below.setCell (Below.setCell (Ext.below kB abo y5) abA _) abA _
theorem zo (xl xh yl yh : Int) (w : World) (hx1 : -2147483648 ≤ xl) (hx2 : xl ≤ 2147483647) (hx3 : -2147483648 ≤ xh) (hx4 : xh ≤ 2147483647) (hy1 : -2147483648 ≤ yl) (hy2 : yl ≤ 2147483647) (hy3 : -2147483648 ≤ yh) (hy4 : yh ≤ 2147483647) (nh pl : Int) (NH : Hid (min yh (-1) = nh)) (PL : Hid (max yl 1 = pl)) (HH : Hid ((decide (xl ≤ -2147483648) && decide (-2147483648 ≤ xh)) = false) ∨ (Hid ((decide (xl ≤ -2147483648) && decide (-2147483648 ≤ xh)) = true) ∧ Hid ((decide (yl ≤ -1) && decide (-1 ≤ yh)) = false))) (d1 : decide (yl < 0) = true) (d2 : decide (0 < yh) = true) (q1 : yl ≤ nh) (q2 : nh ≤ -1) (q3 : 1 ≤ pl) (q4 : pl ≤ yh) :
  Calls Tryz.prog 88 #[.agg #[.int .i32 xl, .int .i32 xh], .agg #[.int .i32 yl, .int .i32 yh]] w fun e w' => e = .returned (.agg #[.int .i32 (aD [xl.tdiv yl, xl.tdiv nh, xh.tdiv yl, xh.tdiv nh, xl.tdiv pl, xl.tdiv yh, xh.tdiv pl, xh.tdiv yh]).1, .int .i32 (aD [xl.tdiv yl, xl.tdiv nh, xh.tdiv yl, xh.tdiv nh, xl.tdiv pl, xl.tdiv yh, xh.tdiv pl, xh.tdiv yh]).2]) ∧ Below w.heap.size w w' := by
 obtain ⟨i0, hi, hz0, hz1, hz2⟩ := info_parts mJ
 rcases HH with BX | ⟨BX, BY⟩
 all_goals
  go_enter Tryz.func88, Tryz.ntmps88
  go_wp2_with fail
  refine (Calls.ext (cK (ew _ _ _ _) BX.out)).mono ?_
  rintro e _ ⟨rfl, y, rfl⟩
 rotate_left 1
 focus
  go_wp2_with fail
  refine (Calls.ay (cK (ew _ _ _ _) BY.out)).mono ?_
  rintro e _ ⟨rfl, y, rfl⟩
 all_goals
  go_wp2_with fail
  obtain ⟨V, hV, D⟩ := dR xl xh yl yh w y
  rw [hV]
  clear hV
  have hown : V.ownsRow V.heap.size 2 1 (.slice none 0 0) 0 [] := ⟨rfl, .inl ⟨rfl, rfl⟩⟩
  have bV : Below V.heap.size V V := Below.refl _ _
  obtain ⟨kB, s1, s2, s3, c1, c2, c3, c4, c5, c6, f5, f6⟩ := D.later bV
  go_wp2_with fail
  refine b8 10 13 _ 5 _ rfl rfl rfl rfl abp rfl abp abp abp ?_
  simp only [Act.put, acH, acI, acJ, acK, List.take_zero, acL, List.drop_zero, Nat.reduceSub]
  repeat (go_big_quiet_step ((go_at_call 112; exact Calls.cV (JD (iF _ _ _) NH.out))))
  refine wpQuiet_nil ?_
  rintro _ ⟨x0, rfl⟩
  have ho := fl x0 hown
  go_wp2_with fail
  refine (jN xl xh yl nh _ hx1 hx2 hx3 hx4 abo abo abo abo abo abo).mono ?_
  rintro e W2 ⟨g, cap, rfl, hge, hg, hc, hb⟩
  have ho2 := fl ⟨W2, hb⟩ ho
  go_wp2_with (at_builtin; refine wpList_append_own _ rfl (.tmp 16) (.tmp 26) 153 rfl V.heap.size 2 i0 (.int .i64 0) 1 8 Tryz.underlying153 hi hz0 hz1 hz2 rfl abr _ _ _ rfl ho2 ⟨g, 0, none⟩ 4 cap ([xl.tdiv yl, xl.tdiv nh, xh.tdiv yl, xh.tdiv nh].map (Value.int .i64)) rfl rfl (qy hc) (nX _) abv abo ab4 ?_; intro v0 W0 dw hgrow _)
  refine NoPanic.normal ?_
  have nw := jM x0 bV hb ho2 hgrow
  obtain ⟨kB, s1, s2, s3, c1, c2, c3, c4, c5, c6, f5, f6⟩ := D.later nw
  clear hgrow ho ho2 hown bV hc hg hge hb
  have bV := nw
  clear nw
  go_wp2_with fail
  refine b8 10 13 _ 5 _ rfl rfl rfl rfl abp rfl abp abp abp ?_
  simp only [Act.put, acH, acI, acJ, acK, List.take_zero, acL, List.drop_zero, Nat.reduceSub]
  repeat (go_big_quiet_step ((go_at_call 113; exact Calls.cV (JD (ju _ _ _) PL.out))))
  refine wpQuiet_nil ?_
  rintro _ ⟨x1, rfl⟩
  have ho := fl x1 dw
  go_wp2_with fail
  refine (jN xl xh pl yh _ hx1 hx2 hx3 hx4 abo abo abo abo abo abo).mono ?_
  rintro e W2 ⟨g, cap, rfl, hge, hg, hc, hb⟩
  have ho2 := fl ⟨W2, hb⟩ ho
  go_wp2_with (at_builtin; refine wpList_append_own _ rfl (.tmp 31) (.tmp 41) 153 rfl V.heap.size 2 i0 (.int .i64 0) 1 8 Tryz.underlying153 hi hz0 hz1 hz2 rfl abr _ _ _ rfl ho2 ⟨g, 0, none⟩ 4 cap ([xl.tdiv pl, xl.tdiv yh, xh.tdiv pl, xh.tdiv yh].map (Value.int .i64)) rfl rfl (qy hc) (nX _) abv abo (by have := bV.size; have := x1.h.size; have := hb.size; omega) ?_; intro v1 W1 hown1 hgrow _)
  refine NoPanic.normal ?_
  have nw := jM x1 bV hb ho2 hgrow
  obtain ⟨kB, s1, s2, s3, c1, c2, c3, c4, c5, c6, f5, f6⟩ := D.later nw
  clear hgrow ho ho2 dw bV hc hg hge hb
  have bV := nw
  clear nw
  go_wp2_with fail
  obtain ⟨g, cap, hv, hg, hc⟩ := fE (l := [xl.tdiv yl, xl.tdiv nh, xh.tdiv yl, xh.tdiv nh, xl.tdiv pl, xl.tdiv yh, xh.tdiv pl, xh.tdiv yh]) rfl (by simpa using hown1) aby
  rw [hv]
  clear hv hown1
  refine (Calls.ext (jv g cap [xl.tdiv yl, xl.tdiv nh, xh.tdiv yl, xh.tdiv nh, xl.tdiv pl, xl.tdiv yh, xh.tdiv pl, xh.tdiv yh] _ aby aby hg hc)).mono ?_
  rintro e _ ⟨rfl, y5, rfl⟩
  clear hc
  go_wp2
  all_goals
   refine bodyPost_ret (v := .agg #[.int .i32 (aD [xl.tdiv yl, xl.tdiv nh, xh.tdiv yl, xh.tdiv nh, xl.tdiv pl, xl.tdiv yh, xh.tdiv pl, xh.tdiv yh]).1, .int .i32 (aD [xl.tdiv yl, xl.tdiv nh, xh.tdiv yl, xh.tdiv nh, xl.tdiv pl, xl.tdiv yh, xh.tdiv pl, xh.tdiv yh]).2]) ?hr rfl ⟨rfl, ?aF⟩
   case hr =>
    simp [results, Tryz.results88, go_sem, c5, c6, s3]
   case aF =>
    exact Below.setCell (Below.setCell (Ext.below kB abo y5) abA _) abA _
theorem vF (xl xh yl yh : Int) (w : World) (BX : Hid ((decide (xl ≤ -2147483648) && decide (-2147483648 ≤ xh)) = true)) (BY : Hid ((decide (yl ≤ -1) && decide (-1 ≤ yh)) = true)) :
  Calls Tryz.prog 88 #[.agg #[.int .i32 xl, .int .i32 xh], .agg #[.int .i32 yl, .int .i32 yh]] w fun e w' => e = .returned (.agg #[.int .i32 (-2147483648), .int .i32 2147483647]) ∧ Below w.heap.size w w' := by
 go_enter Tryz.func88, Tryz.ntmps88
 go_wp2_with (first | (go_at_call 46; ((first | (with_reducible refine (Calls.ay (cu _)).mono ?_) | (refine (Calls.ext (cu _)).mono ?_)); rintro e _ ⟨rfl, y, rfl⟩)) | (go_at_call 93; (first | (with_reducible refine (Calls.ay (cK (ew _ _ _ _) BX.out)).mono ?_) | (with_reducible refine (Calls.ext (cK (ew _ _ _ _) BX.out)).mono ?_) | (with_reducible refine (Calls.ay (cK (ew _ _ _ _) BY.out)).mono ?_)); rintro e _ ⟨rfl, y, rfl⟩))
 all_goals
  refine bodyPost_ret (v := .agg #[.int .i32 (-2147483648), .int .i32 2147483647]) ?hr rfl ⟨rfl, ?aF⟩
  case hr =>
   simp [results, Tryz.results88, go_sem]
  case aF =>
   exact acB
theorem xg (xl xh yl yh : Int) (w : World) (hx1 : -2147483648 ≤ xl) (hx2 : xl ≤ 2147483647) (hx3 : -2147483648 ≤ xh) (hx4 : xh ≤ 2147483647) (hy1 : -2147483648 ≤ yl) (hy2 : yl ≤ 2147483647) (hy3 : -2147483648 ≤ yh) (hy4 : yh ≤ 2147483647) (he : xl ≤ xh) (he' : yl ≤ yh) (z : ¬ (yl = 0 ∧ yh = 0)) :
  Calls Tryz.prog 88 #[.agg #[.int .i32 xl, .int .i32 xh], .agg #[.int .i32 yl, .int .i32 yh]] w fun e w' => e = .returned (.agg #[.int .i32 (kF (xl, xh) (yl, yh)).1, .int .i32 (kF (xl, xh) (yl, yh)).2]) ∧ Below w.heap.size w w' := by
 have Yu : yl < 0 ∨ 0 < yh := by omega
 by_cases b : (xl ≤ -2147483648 ∧ -2147483648 ≤ xh) ∧ (yl ≤ -1 ∧ -1 ≤ yh)
 ·refine (vF xl xh yl yh w (acD (by simpa using b.1)) (acD (by simpa using b.2))).mono fun e' w' ⟨q, hb⟩ => ⟨q.trans ?_, hb⟩
  rw [kF, if_neg z, if_pos b]
 ·have ev : kF (xl, xh) (yl, yh) = aD (su (xl, xh) (yl, yh)) := by rw [kF, if_neg z, if_neg b]
  rw [ev]
  have HH : Hid ((decide (xl ≤ -2147483648) && decide (-2147483648 ≤ xh)) = false) ∨ (Hid ((decide (xl ≤ -2147483648) && decide (-2147483648 ≤ xh)) = true) ∧ Hid ((decide (yl ≤ -1) && decide (-1 ≤ yh)) = false)) := by
   by_cases bx : xl ≤ -2147483648 ∧ -2147483648 ≤ xh
   ·exact .inr ⟨acD (by simpa using bx), acD (by simpa using fun h1 h2 => b ⟨bx, h1, h2⟩)⟩
   ·exact .inl (acD (by simpa using bx))
  by_cases c1 : yl < 0
  ·by_cases c2 : 0 < yh
   ·refine (zo xl xh yl yh w hx1 hx2 hx3 hx4 hy1 hy2 hy3 hy4 (min yh (-1)) (max yl 1) (acD rfl) (acD rfl) HH (by simpa using c1) (by simpa using c2) abo abo abo abo).mono fun e' w' ⟨q, hb⟩ => ⟨q.trans (jw (congrArg aD ?_)), hb⟩
    simp [su, divC, c1, c2]
   ·refine (CG xl xh yl yh w hx1 hx2 hx3 hx4 hy1 hy2 hy3 hy4 (min yh (-1)) (max yl 1) (acD rfl) (acD rfl) HH (by simpa using c1) (by simpa using c2) abo abo).mono fun e' w' ⟨q, hb⟩ => ⟨q.trans (jw (congrArg aD ?_)), hb⟩
    simp [su, divC, c1, c2]
  ·have c2 : 0 < yh := by omega
   refine (CE xl xh yl yh w hx1 hx2 hx3 hx4 hy1 hy2 hy3 hy4 (min yh (-1)) (max yl 1) (acD rfl) (acD rfl) HH (by simpa using c1) (by simpa using c2) abo abo).mono fun e' w' ⟨q, hb⟩ => ⟨q.trans (jw (congrArg aD ?_)), hb⟩
   simp [su, divC, c1, c2]
end
section
open Go.RowKit
theorem jD {V : World} {ob : Obj} (y : Ext (V.alloc ob)) : ∃ y' : Ext V, y.w = y'.w :=
 ⟨⟨y.w, Ext.below (Below.alloc (Below.refl _ _) (Nat.le_refl _) ob) abD y⟩, rfl⟩
theorem FR (xl xh yl yh : Int) (w : World) (hx1 : -2147483648 ≤ xl) (hx2 : xl ≤ 2147483647) (hx3 : -2147483648 ≤ xh) (hx4 : xh ≤ 2147483647) (hy1 : -2147483648 ≤ yl) (hy2 : yl ≤ 2147483647) (hy3 : -2147483648 ≤ yh) (hy4 : yh ≤ 2147483647) (hy : yl ≤ yh) (z : ¬ (yl = 0 ∧ yh = 0)) :
  Calls Tryz.prog 89 #[.agg #[.int .i32 xl, .int .i32 xh], .agg #[.int .i32 yl, .int .i32 yh]] w fun e w' => e = .returned (.agg #[.int .i32 (eV (xl, xh) (yl, yh)).1, .int .i32 (eV (xl, xh) (yl, yh)).2]) ∧ Below w.heap.size w w' := by
 have hm : o7 (yl, yh) = max (0 - yl) yh - 1 := by unfold o7; simp only; omega
 have hd : ∃ p q, eV (xl, xh) (yl, yh) = (p, q) ∧ ((xl < 0 ∧ p = max xl (0 - (max (0 - yl) yh - 1))) ∨ (¬ xl < 0 ∧ p = 0)) ∧ ((0 < xh ∧ q = min xh (max (0 - yl) yh - 1)) ∨ (¬ 0 < xh ∧ q = 0)) := by
  refine ⟨(eV (xl, xh) (yl, yh)).1, (eV (xl, xh) (yl, yh)).2, rfl, ?_, ?_⟩ <;> rw [eV, if_neg z, hm] <;> simp only <;> split <;> omega
 obtain ⟨p, q, e, hp, hq⟩ := hd
 rw [e]
 clear e hm z
 rcases hp with ⟨ha, rfl⟩ | ⟨ha, rfl⟩ <;> rcases hq with ⟨hb, rfl⟩ | ⟨hb, rfl⟩
 all_goals
  (first | have d1 := decide_eq_true ha | have d1 := decide_eq_false ha)
  (first | have d2 := decide_eq_true hb | have d2 := decide_eq_false hb)
  go_enter Tryz.func89, Tryz.ntmps89
  go_wp2_with (first | (go_at_call 112; refine (iF _ _ _).mono ?_; rintro e _ ⟨rfl, rfl⟩) | (go_at_call 113; refine (ju _ _ _).mono ?_; rintro e _ ⟨rfl, rfl⟩))
  all_goals
   refine bodyPost_ret (v := _) ?hr rfl ⟨rfl, ?aF⟩
   case hr =>
    simp [results, Tryz.results89, go_sem]
   case aF =>
    exact acB
theorem qa {a b : Nat} (h : 2 ^ a < 2 ^ b) : a < b := by
 rcases Nat.lt_or_ge a b with h' | h'
 ·exact h'
 ·have := Nat.pow_le_pow_right (n := 2) abo h'; omega
theorem CB (n : Int) (w : World) (h0 : 0 ≤ n) (h1 : n ≤ 2147483647) :
  Calls Tryz.prog 115 #[.int .i32 n] w fun e w' => e = .returned (.int .i32 (eK n)) ∧ w = w' := by
 have HL := acD (eW 64 n.toNat abo)
 have HB := acD (fun k (h : n.toNat < 2 ^ k) => bitLenAux_le 64 k n.toNat h)
 have H31 := bitLen_le h0 h1
 unfold Lib.bitLen at H31
 have EV := acD (show eK n = 2 ^ Lib.bitLenAux 64 n.toNat - 1 from rfl)
 generalize Lib.bitLenAux 64 n.toNat = B at *
 go_enter Tryz.func115, Tryz.ntmps115
 go_wp2
 go_loop [3] (fun p => ∃ k : Nat, k ≤ B ∧ p = .int .i64 (2 ^ k)) (fun p => (4294967296 - intOf p).toNat)
 case atStart => exact ⟨0, by omega, rfl⟩
 case round =>
  obtain ⟨k, hk, rfl⟩ := hrel
  have hp := jl k 31 abo
  have e31 : (2 : Int) ^ 31 = 2147483648 := by decide
  rw [e31] at hp
  obtain ⟨p1, p2⟩ := hp
  have ec : ((2 ^ k : Nat) : Int) = 2 ^ k := by simp
  have EC := acD ec
  have P2 := acD (show (2 : Int) * 2 ^ k = 2 ^ (k + 1) by rw [Int.pow_succ]; omega)
  clear ec e31
  by_cases hlt : (2 : Int) ^ k - 1 < n
  ·have TL : k < B := qa (by have := HL.out; have := EC.out; omega)
   have d := decide_eq_true hlt
   obtain ⟨p, hp⟩ : ∃ p, (2 : Int) ^ k = p := ⟨_, rfl⟩
   rw [hp] at p1 p2 P2 hlt d ⊢
   clear hp EC
   go_wp2
   go_round
   case rel => exact ⟨k + 1, by omega, int_eq P2.out⟩
   case measure => simp [intOf]; omega
  ·have TL : k = B := by
    have h := HB.out k (by have := EC.out; omega)
    omega
   have d := decide_eq_false hlt
   have E2 := acD TL
   obtain ⟨p, hp⟩ : ∃ p, (2 : Int) ^ k = p := ⟨_, rfl⟩
   have HP := acD hp
   rw [hp] at p1 p2 hlt d ⊢
   clear hp EC P2 TL
   go_wp2
   go_ret
   exact ⟨eu (by rw [EV.out, ← E2.out, HP.out]), rfl⟩
theorem Gb (op xl xh yl yh zl zh : Int) (w : World) (hx1 : -2147483648 ≤ xl) (hx2 : xl ≤ 2147483647) (hx3 : -2147483648 ≤ xh) (hx4 : xh ≤ 2147483647) (hy1 : -2147483648 ≤ yl) (hy2 : yl ≤ 2147483647) (hy3 : -2147483648 ≤ yh) (hy4 : yh ≤ 2147483647) (he : xl ≤ xh) (he' : yl ≤ yh) (hop : (op = 11 ∧ (0 ≤ xl) ∧ (0 ≤ yl) ∧ zl = 0 ∧ zh = min xh yh) ∨ (op = 11 ∧ (0 ≤ xl) ∧ (¬ 0 ≤ yl) ∧ zl = 0 ∧ zh = xh) ∨ (op = 11 ∧ (¬ 0 ≤ xl) ∧ (0 ≤ yl) ∧ zl = 0 ∧ zh = yh) ∨ (op = 11 ∧ (¬ 0 ≤ xl) ∧ (¬ 0 ≤ yl) ∧ zl = -2147483648 ∧ zh = 2147483647) ∨ (op = 12 ∧ (¬ 0 ≤ xl) ∧ (xh < 0) ∧ (yh < 0) ∧ zl = max xl yl ∧ zh = -1) ∨ (op = 12 ∧ (¬ 0 ≤ xl) ∧ (¬ xh < 0) ∧ zl = -2147483648 ∧ zh = 2147483647) ∨ (op = 12 ∧ (¬ 0 ≤ xl) ∧ (xh < 0) ∧ (¬ yh < 0) ∧ zl = -2147483648 ∧ zh = 2147483647) ∨ (op = 12 ∧ (0 ≤ xl) ∧ (¬ 0 ≤ yl) ∧ (¬ xh < 0) ∧ zl = -2147483648 ∧ zh = 2147483647) ∨ (op = 13 ∧ (0 ≤ xl) ∧ (0 ≤ yl) ∧ zl = 0 ∧ zh = eK (max xh yh)) ∨ (op = 13 ∧ (¬ 0 ≤ xl) ∧ zl = -2147483648 ∧ zh = 2147483647) ∨ (op = 13 ∧ (0 ≤ xl) ∧ (¬ 0 ≤ yl) ∧ zl = -2147483648 ∧ zh = 2147483647) ∨ (op = 12 ∧ (0 ≤ xl) ∧ (0 ≤ yl) ∧ zl = max xl yl ∧ zh = eK (max xh yh))) :
  Calls Tryz.prog 90 #[.int .u8 op, .agg #[.int .i32 xl, .int .i32 xh], .agg #[.int .i32 yl, .int .i32 yh]] w fun e w' => e = .returned (.agg #[.int .i32 zl, .int .i32 zh]) ∧ Below w.heap.size w w' := by
 rcases hop with ⟨rfl, k0, k1, rfl, rfl⟩ | ⟨rfl, k0, k1, rfl, rfl⟩ | ⟨rfl, k0, k1, rfl, rfl⟩ | ⟨rfl, k0, k1, rfl, rfl⟩ | ⟨rfl, k0, k1, k2, rfl, rfl⟩ | ⟨rfl, k0, k1, rfl, rfl⟩ | ⟨rfl, k0, k1, k2, rfl, rfl⟩ | ⟨rfl, k0, k1, k2, rfl, rfl⟩ | ⟨rfl, k0, k1, rfl, rfl⟩ | ⟨rfl, k0, rfl, rfl⟩ | ⟨rfl, k0, k1, rfl, rfl⟩ | ⟨rfl, k0, k1, rfl, rfl⟩
 all_goals
  (first | have p0 := decide_eq_true k0 | have p0 := decide_eq_false k0)
  (try (first | have p1 := decide_eq_true k1 | have p1 := decide_eq_false k1))
  (try (first | have p2 := decide_eq_true k2 | have p2 := decide_eq_false k2))
  go_enter Tryz.func90, Tryz.ntmps90
  go_wp2_with (first | (go_at_call 112; refine (iF _ _ _).mono ?_; rintro e _ ⟨rfl, rfl⟩) | (go_at_call 113; refine (ju _ _ _).mono ?_; rintro e _ ⟨rfl, rfl⟩) | (go_at_call 115; refine (CB _ _ abo abo).mono ?_; rintro e _ ⟨rfl, rfl⟩) | (go_at_call 46; ((first | (with_reducible refine (Calls.ay (cu _)).mono ?_) | (refine (Calls.ext (cu _)).mono ?_)); rintro e _ ⟨rfl, y, rfl⟩)))
  all_goals
   refine bodyPost_ret (v := _) ?hr rfl ⟨rfl, ?aF⟩
   case hr =>
    simp [results, Tryz.results90, go_sem]
   case aF =>
    exact acB
theorem jO (op xl xh yl yh : Int) (w : World) (hx1 : -2147483648 ≤ xl) (hx2 : xl ≤ 2147483647) (hx3 : -2147483648 ≤ xh) (hx4 : xh ≤ 2147483647) (hy1 : -2147483648 ≤ yl) (hy2 : yl ≤ 2147483647) (hy3 : -2147483648 ≤ yh) (hy4 : yh ≤ 2147483647) (h1 : 11 ≤ op) (h2 : op ≤ 13) (he : xl ≤ xh) (he' : yl ≤ yh) :
  Calls Tryz.prog 90 #[.int .u8 op, .agg #[.int .i32 xl, .int .i32 xh], .agg #[.int .i32 yl, .int .i32 yh]] w fun e w' => e = .returned (.agg #[.int .i32 (kG op (xl, xh) (yl, yh)).1, .int .i32 (kG op (xl, xh) (yl, yh)).2]) ∧ Below w.heap.size w w' := by
 obtain ⟨zl, zh, e, h⟩ := uW op xl xh yl yh h1 h2 he he'
 rw [e]
 exact Gb op xl xh yl yh zl zh w hx1 hx2 hx3 hx4 hy1 hy2 hy3 hy4 he he' h
theorem wY (xl xh yl yh : Int) (w : World) (hx1 : -2147483648 ≤ xl) (hx2 : xl ≤ 2147483647) (hx3 : -2147483648 ≤ xh) (hx4 : xh ≤ 2147483647) (hy1 : -2147483648 ≤ yl) (hy2 : yl ≤ 2147483647) (hy3 : -2147483648 ≤ yh) (hy4 : yh ≤ 2147483647) (hs : (yl == yh) = true) :
  Calls Tryz.prog 91 #[.int .u8 15, .agg #[.int .i32 xl, .int .i32 xh], .agg #[.int .i32 yl, .int .i32 yh]] w fun e w' => e = .returned (.agg #[.int .i32 (wv 15 xl yl), .int .i32 (wv 15 xh yl)]) ∧ Below w.heap.size w w' := by
 go_enter Tryz.func91, Tryz.ntmps91
 go_wp2_with (first | (go_at_call 84; ((first | (with_reducible refine (Calls.ay (aY _ _ _)).mono ?_) | (refine (Calls.ext (aY _ _ _)).mono ?_)); rintro e _ ⟨rfl, y, rfl⟩)) | (go_at_call 46; ((first | (with_reducible refine (Calls.ay (cu _)).mono ?_) | (refine (Calls.ext (cu _)).mono ?_)); rintro e _ ⟨rfl, y, rfl⟩)) | (go_at_call 85; refine (mP _ _ _ _ ⟨by assumption, by assumption⟩ ⟨by assumption, by assumption⟩).mono ?_; rintro e _ ⟨rfl, rfl⟩))
 all_goals
  refine bodyPost_ret (v := .agg #[.int .i32 (wv 15 xl yl), .int .i32 (wv 15 xh yl)]) ?hr rfl ⟨rfl, ?aF⟩
  case hr =>
   simp [results, Tryz.results91, go_sem]
  case aF =>
   exact acB
theorem CA (xl xh yl yh zl zh : Int) (w : World) (hx1 : -2147483648 ≤ xl) (hx2 : xl ≤ 2147483647) (hx3 : -2147483648 ≤ xh) (hx4 : xh ≤ 2147483647) (hy1 : -2147483648 ≤ yl) (hy2 : yl ≤ 2147483647) (hy3 : -2147483648 ≤ yh) (hy4 : yh ≤ 2147483647) (hs : (yl == yh) = false) (hz : (0 ≤ xl ∧ zl = 0) ∨ (¬ 0 ≤ xl ∧ xl = zl)) (hz' : (xh < 0 ∧ zh = -1) ∨ (¬ xh < 0 ∧ xh = zh)) :
  Calls Tryz.prog 91 #[.int .u8 15, .agg #[.int .i32 xl, .int .i32 xh], .agg #[.int .i32 yl, .int .i32 yh]] w fun e w' => e = .returned (.agg #[.int .i32 zl, .int .i32 zh]) ∧ Below w.heap.size w w' := by
 rcases hz with ⟨k0, rfl⟩ | ⟨k0, rfl⟩ <;> rcases hz' with ⟨k1, rfl⟩ | ⟨k1, rfl⟩
 all_goals
  (first | have p0 := decide_eq_true k0 | have p0 := decide_eq_false k0)
  (first | have p1 := decide_eq_true k1 | have p1 := decide_eq_false k1)
  go_enter Tryz.func91, Tryz.ntmps91
  go_wp2_with fail
  refine (Calls.ext (aY _ _ _)).mono ?_
  rintro e _ ⟨rfl, y, rfl⟩
  obtain ⟨V, hV, D⟩ := dR xl xh yl yh w y
  rw [hV]
  clear hV
  obtain ⟨kB, s1, s2, s3, c1, c2, c3, c4, c5, c6, f5, f6⟩ := D
  go_wp2
  all_goals
   refine bodyPost_ret (v := _) ?hr rfl ⟨rfl, ?aF⟩
   case hr =>
    simp [results, Tryz.results91, go_sem, c5, c6, s3]
   case aF =>
    (repeat (first | exact kB | refine Below.setCell ?_ ?_ _ | refine Below.alloc ?_ ?_ _)) <;> (first | omega | (simp; done) | (simp; omega))
theorem w6 (xl xh yl yh : Int) (w : World) (hx1 : -2147483648 ≤ xl) (hx2 : xl ≤ 2147483647) (hx3 : -2147483648 ≤ xh) (hx4 : xh ≤ 2147483647) (hy1 : -2147483648 ≤ yl) (hy2 : yl ≤ 2147483647) (hy3 : -2147483648 ≤ yh) (hy4 : yh ≤ 2147483647) (hs : (yl == yh) = false) :
  Calls Tryz.prog 91 #[.int .u8 14, .agg #[.int .i32 xl, .int .i32 xh], .agg #[.int .i32 yl, .int .i32 yh]] w fun e w' => e = .returned (.agg #[.int .i32 (-2147483648), .int .i32 (2147483647)]) ∧ Below w.heap.size w w' := by
 go_enter Tryz.func91, Tryz.ntmps91
 go_wp2_with (first | (go_at_call 84; ((first | (with_reducible refine (Calls.ay (aY _ _ _)).mono ?_) | (refine (Calls.ext (aY _ _ _)).mono ?_)); rintro e _ ⟨rfl, y, rfl⟩)) | (go_at_call 46; ((first | (with_reducible refine (Calls.ay (cu _)).mono ?_) | (refine (Calls.ext (cu _)).mono ?_)); rintro e _ ⟨rfl, y, rfl⟩)) | (go_at_call 85; refine (mP _ _ _ _ ⟨by assumption, by assumption⟩ ⟨by assumption, by assumption⟩).mono ?_; rintro e _ ⟨rfl, rfl⟩))
 all_goals
  refine bodyPost_ret (v := .agg #[.int .i32 (-2147483648), .int .i32 (2147483647)]) ?hr rfl ⟨rfl, ?aF⟩
  case hr =>
   simp [results, Tryz.results91, go_sem]
  case aF =>
   exact acB
theorem wZ (xl xh yl yh : Int) (w : World) (hx1 : -2147483648 ≤ xl) (hx2 : xl ≤ 2147483647) (hx3 : -2147483648 ≤ xh) (hx4 : xh ≤ 2147483647) (hy1 : -2147483648 ≤ yl) (hy2 : yl ≤ 2147483647) (hy3 : -2147483648 ≤ yh) (hy4 : yh ≤ 2147483647) (hs : (yl == yh) = true) :
  Calls Tryz.prog 91 #[.int .u8 14, .agg #[.int .i32 xl, .int .i32 xh], .agg #[.int .i32 yl, .int .i32 yh]] w fun e w' => e = .returned (.agg #[.int .i32 (aD [xl * 2 ^ (yl % 32).toNat, xh * 2 ^ (yl % 32).toNat]).1, .int .i32 (aD [xl * 2 ^ (yl % 32).toNat, xh * 2 ^ (yl % 32).toNat]).2]) ∧ Below w.heap.size w w' := by
 go_enter Tryz.func91, Tryz.ntmps91
 go_wp2_with fail
 refine (Calls.ext (aY _ _ _)).mono ?_
 rintro e _ ⟨rfl, y, rfl⟩
 have HF := acD (count_eq yl)
 have hb : -32 < yl.tmod 32 ∧ yl.tmod 32 < 32 := by rcases count_eq yl with h | h <;> omega
 obtain ⟨b1, b2⟩ := hb
 obtain ⟨r, hr⟩ : ∃ r, yl.tmod 32 = r := ⟨_, rfl⟩
 have HR := acD hr
 go_wp2_with fail
 refine (Calls.ay (aY _ _ _)).mono ?_
 rintro e _ ⟨rfl, y2, rfl⟩
 obtain ⟨V, hV, D⟩ := dR xl xh yl yh w y2
 rw [hV]
 clear hV
 obtain ⟨kB, s1, s2, s3, c1, c2, c3, c4, c5, c6, f5, f6⟩ := D
 by_cases hneg : r < 0
 all_goals
  (first | have dn := decide_eq_true hneg | have dn := decide_eq_false hneg)
  go_wp2_with fail
  go_loop [13, 14] (fun p i => ∃ k : Nat, k ≤ (yl % 32).toNat ∧ i = .int .i64 k ∧ p = .int .i64 (2 ^ k)) (fun _ i => (yl % 32).toNat - (intOf i).toNat)
  case atStart => exact ⟨0, by omega, rfl, rfl⟩
  case round =>
   obtain ⟨k, hk, rfl, rfl⟩ := hrel
   have hp := jl k 31 abo
   have e31 : (2 : Int) ^ 31 = 2147483648 := by decide
   rw [e31] at hp
   obtain ⟨p1, p2⟩ := hp
   have P2 := acD (show (2 : Int) * 2 ^ k = 2 ^ (k + 1) by rw [Int.pow_succ]; omega)
   have hn := HF.out
   have hr' := HR.out
   clear e31
   by_cases hlt : k < (yl % 32).toNat
   ·(first | (have hlt' : (k : Int) < r := by omega) | (have hlt' : (k : Int) < r + 32 := by omega))
    clear hn hr'
    obtain ⟨p, hp⟩ : ∃ p, (2 : Int) ^ k = p := ⟨_, rfl⟩
    rw [hp] at p1 p2 P2 ⊢
    clear hp
    go_wp2_with fail
    go_round
    case rel => exact ⟨k + 1, by omega, by go_num, int_eq P2.out⟩
    case measure => simp [intOf]; omega
   ·(first | (have hge : ¬ (k : Int) < r + 32 := by omega) | (have hge : ¬ (k : Int) < r := by omega))
    clear hn hr'
    have ek : k = (yl % 32).toNat := by omega
    subst ek
    have M1 := qu xl yl hx1 hx2
    have M2 := qu xh yl hx3 hx4
    have m1 := gC (x := xl) (y := 2 ^ (yl % 32).toNat - 1) hx1 hx2 abo abo
    go_wp2_with fail
    refine (Calls.ext (jv _ 2 [xl * 2 ^ (yl % 32).toNat, xh * 2 ^ (yl % 32).toNat] _ aby aby aby ?_)).mono ?_
    ·intro i hi
     simp only [List.length_cons, List.length_nil] at hi
     have : i = 0 ∨ i = 1 := by omega
     rcases this with rfl | rfl <;> (simp [nth, go_sem])
    rintro e _ ⟨rfl, y5, rfl⟩
    obtain ⟨y6, h6⟩ := jD y5
    rw [h6]
    clear h6 y5
    go_wp2
    all_goals
     refine bodyPost_ret (v := .agg #[.int .i32 (aD [xl * 2 ^ (yl % 32).toNat, xh * 2 ^ (yl % 32).toNat]).1, .int .i32 (aD [xl * 2 ^ (yl % 32).toNat, xh * 2 ^ (yl % 32).toNat]).2]) ?hr rfl ⟨rfl, ?aF⟩
     case hr =>
      simp [results, Tryz.results91, go_sem, c5, c6, s3]
     case aF =>
      exact Below.setCell (Below.setCell (Ext.below kB abo y6) abA _) abA _
theorem qX (op xl xh yl yh : Int) (w : World) (hx1 : -2147483648 ≤ xl) (hx2 : xl ≤ 2147483647) (hx3 : -2147483648 ≤ xh) (hx4 : xh ≤ 2147483647) (hy1 : -2147483648 ≤ yl) (hy2 : yl ≤ 2147483647) (hy3 : -2147483648 ≤ yh) (hy4 : yh ≤ 2147483647) (h1 : 14 ≤ op) (h2 : op ≤ 15) :
  Calls Tryz.prog 91 #[.int .u8 op, .agg #[.int .i32 xl, .int .i32 xh], .agg #[.int .i32 yl, .int .i32 yh]] w fun e w' => e = .returned (.agg #[.int .i32 (tE op (xl, xh) (yl, yh)).1, .int .i32 (tE op (xl, xh) (yl, yh)).2]) ∧ Below w.heap.size w w' := by
 have h : op = 14 ∨ op = 15 := by omega
 by_cases e : yl = yh
 ·rcases h with rfl | rfl
  ·refine (wZ xl xh yl yh w hx1 hx2 hx3 hx4 hy1 hy2 hy3 hy4 (by simpa using e)).mono fun e' w' ⟨q, hb⟩ => ⟨q.trans ?_, hb⟩
   simp [tE, e]
  ·refine (wY xl xh yl yh w hx1 hx2 hx3 hx4 hy1 hy2 hy3 hy4 (by simpa using e)).mono fun e' w' ⟨q, hb⟩ => ⟨q.trans ?_, hb⟩
   rw [show wv 15 xl yl = xl / 2 ^ (yl % 32).toNat from rfl, show wv 15 xh yl = xh / 2 ^ (yl % 32).toNat from rfl]
   simp [tE, e]
 ·have hs : (yl == yh) = false := by simpa using e
  rcases h with rfl | rfl
  ·refine (w6 xl xh yl yh w hx1 hx2 hx3 hx4 hy1 hy2 hy3 hy4 hs).mono fun e' w' ⟨q, hb⟩ => ⟨q.trans ?_, hb⟩
   simp [tE, e]
  ·exact CA xl xh yl yh _ _ w hx1 hx2 hx3 hx4 hy1 hy2 hy3 hy4 hs (by simp only [tE, if_neg e]; split <;> omega) (by simp only [tE, if_neg e]; split <;> omega)
end
end Go.Proofs.YtebklpnkcicpjaaGreatDoor
