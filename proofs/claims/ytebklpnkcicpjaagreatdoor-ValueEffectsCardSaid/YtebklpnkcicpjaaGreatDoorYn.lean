/-
  What is proved here: parts gR04, rFn, vRef3, vRef4, vRef5, rAd, rCv.
-/
import Derived.Test.YtebklpnkcicpjaaGreatDoorYa
import Derived.Test.YtebklpnkcicpjaaGreatDoorYd
import Derived.Test.YtebklpnkcicpjaaGreatDoorYi
import Derived.Test.YtebklpnkcicpjaaGreatDoorYg
import Derived.Test.YtebklpnkcicpjaaGreatDoorYb
namespace Go.Proofs.YtebklpnkcicpjaaGreatDoor
set_option linter.unusedVariables false
set_option linter.unusedSimpArgs false
set_option maxRecDepth 100000
set_option maxHeartbeats 8000000
section
open Go.RowKit
def pK (k : Nat) : List UInt8 := match cQ k with | .I1 => [] | .Jl => [65, 66, 67] | .Jk => [65, 66] | .ai => [65] | .i => []
def Jg (k : Nat) : Int := if k < 14 then 1 else ji k
def Jh (k : Nat) : Int := if k < 14 then 0 else jk k
def D7 (op : Int) (k : Nat) : Prop := ∀ w : World, Calls Tryz.prog 69 #[.int .u8 op] w fun e w' => e = .returned (.tuple #[.string ⟨(pK k).toArray⟩, .int .i64 (Jg k), .int .i64 (Jh k), .bool true]) ∧ w = w'
theorem w6 (op : Int) (k : Nat) (h : (op = 0 ∧ k = 0) ∨ (op = 1 ∧ k = 1) ∨ (op = 2 ∧ k = 2) ∨ (op = 3 ∧ k = 3) ∨ (op = 4 ∧ k = 4) ∨ (op = 5 ∧ k = 5) ∨ (op = 6 ∧ k = 6) ∨ (op = 7 ∧ k = 7) ∨ (op = 8 ∧ k = 8) ∨ (op = 9 ∧ k = 9) ∨ (op = 10 ∧ k = 10) ∨ (op = 11 ∧ k = 11) ∨ (op = 12 ∧ k = 12) ∨ (op = 13 ∧ k = 13) ∨ (op = 14 ∧ k = 14) ∨ (op = 15 ∧ k = 15) ∨ (op = 16 ∧ k = 16) ∨ (op = 17 ∧ k = 17) ∨ (op = 18 ∧ k = 18) ∨ (op = 19 ∧ k = 19) ∨ (op = 20 ∧ k = 20) ∨ (op = 21 ∧ k = 21) ∨ (op = 22 ∧ k = 22) ∨ (op = 23 ∧ k = 23) ∨ (op = 24 ∧ k = 24) ∨ (op = 25 ∧ k = 25) ∨ (op = 26 ∧ k = 26) ∨ (op = 27 ∧ k = 27) ∨ (op = 28 ∧ k = 28) ∨ (op = 29 ∧ k = 29)) : D7 op k := by
 intro w
 obtain ⟨v, hv⟩ : ∃ v, v = Value.tuple #[.string ⟨(pK k).toArray⟩, .int .i64 (Jg k), .int .i64 (Jh k), .bool true] := ⟨_, rfl⟩
 rw [← hv]
 have HV := UZ hv
 clear hv
 rcases h with ⟨rfl, rfl⟩ | ⟨rfl, rfl⟩ | ⟨rfl, rfl⟩ | ⟨rfl, rfl⟩ | ⟨rfl, rfl⟩ | ⟨rfl, rfl⟩ | ⟨rfl, rfl⟩ | ⟨rfl, rfl⟩ | ⟨rfl, rfl⟩ | ⟨rfl, rfl⟩ | ⟨rfl, rfl⟩ | ⟨rfl, rfl⟩ | ⟨rfl, rfl⟩ | ⟨rfl, rfl⟩ | ⟨rfl, rfl⟩ | ⟨rfl, rfl⟩ | ⟨rfl, rfl⟩ | ⟨rfl, rfl⟩ | ⟨rfl, rfl⟩ | ⟨rfl, rfl⟩ | ⟨rfl, rfl⟩ | ⟨rfl, rfl⟩ | ⟨rfl, rfl⟩ | ⟨rfl, rfl⟩ | ⟨rfl, rfl⟩ | ⟨rfl, rfl⟩ | ⟨rfl, rfl⟩ | ⟨rfl, rfl⟩ | ⟨rfl, rfl⟩ | ⟨rfl, rfl⟩
 all_goals
  go_enter Tryz.func69, Tryz.ntmps69
  go_wp2_with fail
  refine bodyPost_ret (v := v) (by rw [HV.out]; simp [results, Tryz.results69, go_sem, *]; first | done | decide) rfl ⟨rfl, by first | rfl | trivial⟩
theorem Ai (k : Nat) (hk : k < 30) : ((k : Int) = 0 ∧ k = 0) ∨ ((k : Int) = 1 ∧ k = 1) ∨ ((k : Int) = 2 ∧ k = 2) ∨ ((k : Int) = 3 ∧ k = 3) ∨ ((k : Int) = 4 ∧ k = 4) ∨ ((k : Int) = 5 ∧ k = 5) ∨ ((k : Int) = 6 ∧ k = 6) ∨ ((k : Int) = 7 ∧ k = 7) ∨ ((k : Int) = 8 ∧ k = 8) ∨ ((k : Int) = 9 ∧ k = 9) ∨ ((k : Int) = 10 ∧ k = 10) ∨ ((k : Int) = 11 ∧ k = 11) ∨ ((k : Int) = 12 ∧ k = 12) ∨ ((k : Int) = 13 ∧ k = 13) ∨ ((k : Int) = 14 ∧ k = 14) ∨ ((k : Int) = 15 ∧ k = 15) ∨ ((k : Int) = 16 ∧ k = 16) ∨ ((k : Int) = 17 ∧ k = 17) ∨ ((k : Int) = 18 ∧ k = 18) ∨ ((k : Int) = 19 ∧ k = 19) ∨ ((k : Int) = 20 ∧ k = 20) ∨ ((k : Int) = 21 ∧ k = 21) ∨ ((k : Int) = 22 ∧ k = 22) ∨ ((k : Int) = 23 ∧ k = 23) ∨ ((k : Int) = 24 ∧ k = 24) ∨ ((k : Int) = 25 ∧ k = 25) ∨ ((k : Int) = 26 ∧ k = 26) ∨ ((k : Int) = 27 ∧ k = 27) ∨ ((k : Int) = 28 ∧ k = 28) ∨ ((k : Int) = 29 ∧ k = 29) := by
 obtain rfl | rfl | rfl | rfl | rfl | rfl | rfl | rfl | rfl | rfl | rfl | rfl | rfl | rfl | rfl | rfl | rfl | rfl | rfl | rfl | rfl | rfl | rfl | rfl | rfl | rfl | rfl | rfl | rfl | rfl : k = 0 ∨ k = 1 ∨ k = 2 ∨ k = 3 ∨ k = 4 ∨ k = 5 ∨ k = 6 ∨ k = 7 ∨ k = 8 ∨ k = 9 ∨ k = 10 ∨ k = 11 ∨ k = 12 ∨ k = 13 ∨ k = 14 ∨ k = 15 ∨ k = 16 ∨ k = 17 ∨ k = 18 ∨ k = 19 ∨ k = 20 ∨ k = 21 ∨ k = 22 ∨ k = 23 ∨ k = 24 ∨ k = 25 ∨ k = 26 ∨ k = 27 ∨ k = 28 ∨ k = 29 := by omega
 all_goals simp
theorem wZ (k : Nat) (hk : k < 30) : D7 (k : Int) k := w6 k k (Ai k hk)
theorem wY (op : Int) (h0 : 30 ≤ op) (w : World) : Calls Tryz.prog 69 #[.int .u8 op] w fun e w' => e = .returned (.tuple #[.string ⟨#[]⟩, .int .i64 1, .int .i64 0, .bool false]) ∧ w = w' := by
 have e0 : decide (2 ≤ op) = true := decide_eq_true TX
 have e1 : decide (op ≤ 13) = false := decide_eq_false TX
 have q : ∀ k : Int, k < 30 → (op == k) = false := fun k hk => beq_eq_false_iff_ne.2 TX
 have q0 := q 0 T1
 have q1 := q 1 T1
 have q14 := q 14 T1
 have q15 := q 15 T1
 have q16 := q 16 T1
 have q17 := q 17 T1
 have q18 := q 18 T1
 have q19 := q 19 T1
 have q20 := q 20 T1
 have q21 := q 21 T1
 have q22 := q 22 T1
 have q23 := q 23 T1
 have q24 := q 24 T1
 have q25 := q 25 T1
 have q26 := q 26 T1
 have q27 := q 27 T1
 have q28 := q 28 T1
 have q29 := q 29 T1
 clear h0 q
 go_enter Tryz.func69, Tryz.ntmps69
 go_wp2_with fail
 refine bodyPost_ret (v := .tuple #[.string ⟨#[]⟩, .int .i64 1, .int .i64 0, .bool false]) (by simp [results, Tryz.results69, go_sem, *]) rfl ⟨rfl, by first | rfl | trivial⟩
def oO (x : Int) (u : Bool) : Bool := if u = true then decide (0 ≤ x) && decide (x < 16) else decide (x = 0)
theorem sk (x : Int) (u : Bool) (w : World) : Calls Tryz.prog 82 #[.int .i64 x, .bool u] w fun e w' => e = .returned (.bool (oO x u)) ∧ w = w' := by
 cases u with
 | false =>
  rcases h : (x == 0)
  all_goals
   go_enter Tryz.func82, Tryz.ntmps82
   go_wp2_with fail
   go_ret
   simp at h
   exact ⟨aU (by simp [oO, h]), by first | rfl | trivial⟩
 | true =>
  rcases h : decide (0 ≤ x) <;> rcases h2 : decide (x < 16)
  all_goals
   go_enter Tryz.func82, Tryz.ntmps82
   go_wp2_with fail
   go_ret
   exact ⟨aU (by simp only [oO, if_true, h, h2]; rfl), by first | rfl | trivial⟩
theorem nS : ∀ k, k < 30 → (0 < (pK k).length ↔ (cQ k).Bc = 15) ∧ (1 < (pK k).length ↔ (cQ k).Bb = 15) ∧ (2 < (pK k).length ↔ (cQ k).Ba = 15) ∧ ((cQ k).Bc = 15 ∨ (cQ k).Bc = 0) ∧ ((cQ k).Bb = 15 ∨ (cQ k).Bb = 0) ∧ ((cQ k).Ba = 15 ∨ (cQ k).Ba = 0) := by decide
theorem MO : ∀ k, k < 30 → (Jh k < Jg k ∧ ji k = 0 ∧ jk k = 0) ∨ (Jg k ≤ Jh k ∧ ji k = Jg k ∧ jk k = Jh k) := by decide
theorem oN {x h : Int} {n m : Nat} (h1 : m < n ↔ h = 15) (h2 : h = 15 ∨ h = 0) : oO x (decide (m < n)) = true ↔ 0 ≤ x ∧ x ≤ h := by
 unfold oO
 by_cases e : m < n
 ·rw [decide_eq_true e, if_pos rfl, h1.1 e]
  simp
  omega
 ·have : h = 0 := by rcases h2 with h2 | h2; exact absurd (h1.2 h2) e; exact h2
  rw [decide_eq_false e, if_neg T4, this]
  simp
  omega
theorem eN (i : bB) (h0 : 0 ≤ i.op) (w : World) : Calls Tryz.prog 40 #[.agg #[.int .u8 i.op, .int .i64 i.a, .int .i64 i.b, .int .i64 i.c, .int .i64 i.aR]] w fun e w' => e = .returned (.bool (aL i)) ∧ Below w.heap.size w w' := by
 have HV := UZ (dy h0)
 obtain ⟨vi, OW⟩ : ∃ vi, aL i = vi := ⟨_, rfl⟩
 rw [OW] at HV ⊢
 clear OW
 obtain ⟨op, a, b, c, aR⟩ := i
 simp only at h0 HV ⊢
 obtain ⟨V, hV⟩ : ∃ V, w.alloc (.cells #[.int .u8 op, .int .i64 a, .int .i64 b, .int .i64 c, .int .i64 aR] 64) = V := ⟨_, rfl⟩
 have bV : Below w.heap.size w V := hV ▸ (Below.refl _ _).alloc (Nat.le_refl _) _
 have kV : V.heap[w.heap.size]? = some (.cells #[.int .u8 op, .int .i64 a, .int .i64 b, .int .i64 c, .int .i64 aR] 64) := hV ▸ heap_alloc_new _ _
 have y0 : V.cell? ⟨w.heap.size, 0, none⟩ = some (.int .u8 op) := by simp [World.cell?, kV]
 have y1 : V.cell? ⟨w.heap.size, 1, none⟩ = some (.int .i64 a) := by simp [World.cell?, kV]
 have y2 : V.cell? ⟨w.heap.size, 2, none⟩ = some (.int .i64 b) := by simp [World.cell?, kV]
 have y3 : V.cell? ⟨w.heap.size, 3, none⟩ = some (.int .i64 c) := by simp [World.cell?, kV]
 have y4 : V.cell? ⟨w.heap.size, 4, none⟩ = some (.int .i64 aR) := by simp [World.cell?, kV]
 have sV : w.heap.size < V.heap.size := by rw [← hV]; simp
 have BV := UZ bV
 clear bV kV
 by_cases ho : op < 30
 case neg =>
  have HF := UZ (fun W => wY op TX W)
  have hn : vi = false := by
   cases vi with
   | false => rfl
   | true => obtain ⟨k, hk⟩ := HV.out.1 rfl; have := hk.op; have := hk.lt; simp only at *; omega
  subst hn
  clear ho HV h0
  go_enter Tryz.func40, Tryz.ntmps40
  go_wp2_with (go_at_call 69; refine (HF.out _).mono ?_; rintro e w' ⟨rfl, rfl⟩)
  go_ret
  exact ⟨rfl, BV.out⟩
 obtain ⟨k, rfl⟩ : ∃ k : Nat, op = (k : Int) := ⟨op.toNat, by omega⟩
 have hk : k < 30 := by omega
 have HF := UZ (fun W => wZ k hk W)
 obtain ⟨n1, n2, n3, n4, n5, n6⟩ := nS k hk
 have HL := UZ (MO k hk)
 have RA := UZ (oN (x := a) n1 n4)
 have RB := UZ (oN (x := b) n2 n5)
 have RC := UZ (oN (x := c) n3 n6)
 have HG := UZ (show vi = true ↔ (oO a (decide (0 < (pK k).length)) = true ∧ oO b (decide (1 < (pK k).length)) = true ∧ oO c (decide (2 < (pK k).length)) = true) ∧ (ji k ≤ aR ∧ aR ≤ jk k) from by
  rw [HV.out, RA.out, RB.out, RC.out]
  constructor
  ·rintro ⟨k', g1, g2, g3, g4, g5, g6⟩
   have : k = k' := by simp only at g1; omega
   subst this
   exact ⟨⟨g3, g4, g5⟩, g6⟩
  ·rintro ⟨⟨g3, g4, g5⟩, g6⟩
   exact ⟨k, rfl, hk, g3, g4, g5, g6⟩)
 have hsz : (ByteArray.mk (pK k).toArray).size = (pK k).length := by simp [ByteArray.size]
 obtain ⟨fs, Nr⟩ : ∃ fs : ByteArray, (⟨(pK k).toArray⟩ : ByteArray) = fs := ⟨_, rfl⟩
 obtain ⟨lo, hlo⟩ : ∃ lo, Jg k = lo := ⟨_, rfl⟩
 obtain ⟨hi, hhi⟩ : ∃ hi, Jh k = hi := ⟨_, rfl⟩
 unfold D7 at HF
 rw [Nr] at hsz
 have Lv := UZ (show ∀ W, Calls Tryz.prog 69 #[.int .u8 (k : Int)] W fun e w' => e = .returned (.tuple #[.string fs, .int .i64 lo, .int .i64 hi, .bool true]) ∧ W = w' from fun W => by rw [← Nr, ← hlo, ← hhi]; exact HF.out W)
 rw [hlo, hhi] at HL
 rw [← hsz] at HG
 obtain ⟨uA, OZ⟩ : ∃ uA, decide (0 < fs.size) = uA := ⟨_, rfl⟩
 obtain ⟨uB, OY⟩ : ∃ uB, decide (1 < fs.size) = uB := ⟨_, rfl⟩
 obtain ⟨uC, OX⟩ : ∃ uC, decide (2 < fs.size) = uC := ⟨_, rfl⟩
 have iA : decide ((0 : Int) < (fs.size : Int)) = uA := by rw [← OZ]; exact decide_eq_decide.2 TX
 have iB : decide ((1 : Int) < (fs.size : Int)) = uB := by rw [← OY]; exact decide_eq_decide.2 TX
 have iC : decide ((2 : Int) < (fs.size : Int)) = uC := by rw [← OX]; exact decide_eq_decide.2 TX
 rw [OZ, OY, OX] at HG
 have GA := UZ (fun W => sk a uA W)
 have GB := UZ (fun W => sk b uB W)
 have GC := UZ (fun W => sk c uC W)
 clear hlo hhi Nr hsz HF RA RB RC n1 n2 n3 n4 n5 n6 HV ho h0 hk
 rcases hA : oO a uA
 ·rw [hA] at HG GA
  have hn : vi = false := by cases vi with | false => rfl | true => simpa using (HG.out.1 rfl).1.1
  clear hA
  go_enter Tryz.func40, Tryz.ntmps40
  go_wp2_with (first | (go_at_call 69; refine (Lv.out _).mono ?_; rintro e w' ⟨rfl, rfl⟩) | (go_at_call 82; refine (GA.out _).mono ?_; rintro e w' ⟨rfl, rfl⟩))
  go_ret
  exact ⟨by subst hn; rfl, BV.out⟩
 rw [hA] at HG GA
 clear hA
 rcases hB : oO b uB
 ·rw [hB] at HG GB
  have hn : vi = false := by cases vi with | false => rfl | true => simpa using (HG.out.1 rfl).1.2.1
  clear hB
  go_enter Tryz.func40, Tryz.ntmps40
  go_wp2_with (first | (go_at_call 69; refine (Lv.out _).mono ?_; rintro e w' ⟨rfl, rfl⟩) | (go_at_call 82; first | (with_reducible refine (GA.out _).mono ?_; rintro e w' ⟨rfl, rfl⟩) | (with_reducible refine (GB.out _).mono ?_; rintro e w' ⟨rfl, rfl⟩)))
  go_ret
  exact ⟨by subst hn; rfl, BV.out⟩
 rw [hB] at HG GB
 clear hB
 rcases hC : oO c uC
 ·rw [hC] at HG GC
  have hn : vi = false := by cases vi with | false => rfl | true => simpa using (HG.out.1 rfl).1.2.2
  clear hC
  go_enter Tryz.func40, Tryz.ntmps40
  go_wp2_with (first | (go_at_call 69; refine (Lv.out _).mono ?_; rintro e w' ⟨rfl, rfl⟩) | (go_at_call 82; first | (with_reducible refine (GA.out _).mono ?_; rintro e w' ⟨rfl, rfl⟩) | (with_reducible refine (GB.out _).mono ?_; rintro e w' ⟨rfl, rfl⟩) | (with_reducible refine (GC.out _).mono ?_; rintro e w' ⟨rfl, rfl⟩)))
  go_ret
  exact ⟨by subst hn; rfl, BV.out⟩
 rw [hC] at HG GC
 clear hC
 rcases HL.out with ⟨l1, l2, l3⟩ | ⟨l1, l2, l3⟩
 ·have d : decide (hi < lo) = true := decide_eq_true l1
  have hn : vi = (aR == 0) := by
   apply Bool.eq_iff_iff.2
   rw [HG.out, l2, l3]
   simp
   omega
  clear l1 l2 l3 HL
  go_enter Tryz.func40, Tryz.ntmps40
  go_wp2_with (first | (go_at_call 69; refine (Lv.out _).mono ?_; rintro e w' ⟨rfl, rfl⟩) | (go_at_call 82; first | (with_reducible refine (GA.out _).mono ?_; rintro e w' ⟨rfl, rfl⟩) | (with_reducible refine (GB.out _).mono ?_; rintro e w' ⟨rfl, rfl⟩) | (with_reducible refine (GC.out _).mono ?_; rintro e w' ⟨rfl, rfl⟩)))
  go_ret
  exact ⟨by subst hn; rfl, BV.out⟩
 ·have d : decide (hi < lo) = false := decide_eq_false TX
  have hn : vi = (decide (lo ≤ aR) && decide (aR ≤ hi)) := by
   apply Bool.eq_iff_iff.2
   rw [HG.out, l2, l3]
   simp
  clear l1 l2 l3 HL
  rcases h5 : decide (lo ≤ aR) <;> rcases h6 : decide (aR ≤ hi)
  all_goals
   rw [h5, h6] at hn
   go_enter Tryz.func40, Tryz.ntmps40
   go_wp2_with (first | (go_at_call 69; refine (Lv.out _).mono ?_; rintro e w' ⟨rfl, rfl⟩) | (go_at_call 82; first | (with_reducible refine (GA.out _).mono ?_; rintro e w' ⟨rfl, rfl⟩) | (with_reducible refine (GB.out _).mono ?_; rintro e w' ⟨rfl, rfl⟩) | (with_reducible refine (GC.out _).mono ?_; rintro e w' ⟨rfl, rfl⟩)))
   go_ret
   exact ⟨by subst hn; rfl, BV.out⟩
end
section
open Go.RowKit
theorem rn {T : TypeId} (hT : (Tryz.prog.info? T).map (·.size) = some 32) {r : RG} (hr : r.length = 16) : (Tryz.prog.info? T).map (·.size) = some (aa r).length := by rw [az, hr]; exact hT
theorem ra {T : TypeId} (hT : (Tryz.prog.info? T).map (·.size) = some 32) {r : RG} (hr : r.length = 16) : (Tryz.prog.info? T).map (·.size) = some (aa r).toArray.size := by rw [List.size_toArray, az, hr]; exact hT
theorem aZ : (Tryz.prog.info? 61).map (·.size) = some 32 := by kernel_rfl
theorem bH {P : Program} {ops : Array Oper} {C : World → Prop} {Q : Act → Prop} {a : Act} {op : Oper} {rest : List Oper} (hw : Region.wanted op (yielded ops a.tmps) = true) (ty : TypeId) (x : Operand) (ho : op.op = .load ty x)
  (b o : Nat) (hx : a.eval x = .pointer (some ⟨b, o, none⟩)) (cs : List Value) (d : TypeDesc) (hc : ∀ w, C w → w.rangeAt b o cs)
  (hu : P.underlying ty = some d) (hd : d.isRow = true) (hi : (P.info? ty).map (·.size) = some cs.length) (h : wpQuiet P ops C Q rest (a.put op.dst (.agg cs.toArray))) : wpQuiet P ops C Q (op :: rest) a :=
 BigFrame.wpQuiet_want hw fun K hK => ⟨.agg cs.toArray, fun w hC => by
  unfold Oper.quietAt execOp
  simp only [ho, hx, Instr.loadAt, Instr.sureAddr, Sem.run_bind, Sem.run_pure, Result.andThen_ok, run_loadVar_mid w b o ty cs d (hc w hC) hu hd hi]
  exact ⟨rfl, rfl⟩, hK _ h⟩
def sF (x y : Int × Int) : Int × Int := (if x.1 < y.1 then y.1 else x.1, if y.2 < x.2 then y.2 else x.2)
theorem jM (r : RG) (hr : r.length = 16) (w : World) : Calls Tryz.prog 41 #[.agg (aa r).toArray] w fun e w' => e = .returned (.bool (bk r)) ∧ Below w.heap.size w w' := by
 obtain ⟨V, hV⟩ : ∃ V, w.alloc (.cells (aa r).toArray 61) = V := ⟨_, rfl⟩
 have bV : Below w.heap.size w V := hV ▸ (Below.refl _ _).alloc (Nat.le_refl _) _
 have kV : aC V w.heap.size 61 r := by rw [← hV]; exact heap_alloc_new _ _
 have KV := UZ kV
 have BV := UZ bV
 have HR := UZ hr
 clear kV bV hr
 go_enter Tryz.func41, Tryz.ntmps41
 go_wp2_with fail
 clear hV
 go_loopw [3] (fun a3 wr => ∃ k : Nat, k ≤ 16 ∧ a3 = .int .i64 (k : Int) ∧ (∀ j : Nat, j < k → (rg r (j : Int)).1 ≤ (rg r (j : Int)).2) ∧ Below V.heap.size V wr) (fun a3 _ => 16 - (intOf a3).toNat)
 case atStart => exact ⟨0, by omega, rfl, fun j hj => by omega, Below.refl _ _⟩
 case round =>
  obtain ⟨k, hk, rfl, hall, hb⟩ := hrel
  have HA := UZ hall
  have HB := UZ hb
  have hsz := hb.size
  have KW := KV.out.keep hb
  have sW := KW.lt
  clear hall hb
  by_cases hlt : k < 16
  ·have dl : decide ((k : Int) < 16) = true := decide_eq_true TX
   have ik : (k : Int) < 16 := by omega
   obtain ⟨lo, hlo⟩ : ∃ lo, (rg r (k : Int)).1 = lo := ⟨_, rfl⟩
   obtain ⟨hi, hhi⟩ : ∃ hi, (rg r (k : Int)).2 = hi := ⟨_, rfl⟩
   have c0 : wr.cell? ⟨w.heap.size, k * 2, none⟩ = some (.int .i32 lo) := by rw [← hlo]; exact KW.lo UQ
   have c1 : wr.cell? ⟨w.heap.size, k * 2 + 1, none⟩ = some (.int .i32 hi) := by rw [← hhi]; exact KW.hi UQ
   have Ll := UZ hlo
   have Lr := UZ hhi
   clear hlo hhi KW
   by_cases he : hi < lo
   all_goals
    (first | have d2 := decide_eq_false he | have d2 := decide_eq_true he)
    have HE := UZ he
    clear he
    go_wp2_with fail
    refine ay TY TY ?_
    repeat (go_big_quiet_step (fail))
    refine wpQuiet_nil ?_
    rintro _ ⟨x, rfl⟩
    go_wp2_with fail
   ·go_ret
    refine ⟨by rw [kJ UQ (by rw [Ll.out, Lr.out]; exact HE.out)]; rfl, BV.out.trans ((HB.out.trans (x.h.mono hsz)).mono BV.out.size)⟩
   ·go_roundw
    case rel =>
     refine ⟨k + 1, by omega, by go_num, fun j hj => ?_, HB.out.trans (x.h.mono hsz)⟩
     by_cases hjk : j = k
     ·subst hjk; rw [Ll.out, Lr.out]; have h9 := HE.out; omega
     ·exact HA.out j TX
    case measure => simp [intOf]; omega
  ·obtain rfl : k = 16 := by omega
   have HP := UZ (nB (r := r) (fun j hj => HA.out j (by rw [HR.out] at hj; exact hj)))
   obtain ⟨lo, hlo⟩ : ∃ lo, (rg r 0).1 = lo := ⟨_, rfl⟩
   obtain ⟨hi, hhi⟩ : ∃ hi, (rg r 0).2 = hi := ⟨_, rfl⟩
   have c0 : wr.cell? ⟨w.heap.size, 0, none⟩ = some (.int .i32 lo) := by rw [← hlo]; simpa using KW.lo (k := 0) (by rw [HR.out]; omega)
   have c1 : wr.cell? ⟨w.heap.size, 1, none⟩ = some (.int .i32 hi) := by rw [← hhi]; simpa using KW.hi (k := 0) (by rw [HR.out]; omega)
   have HQ := UZ (show bk r = (lo == 0 && hi == 0) by
    rw [HP.out, ← hlo, ← hhi, Bool.eq_iff_iff, decide_eq_true_eq, Bool.and_eq_true, beq_iff_eq, beq_iff_eq, Prod.ext_iff])
   clear KW hlo hhi
   rcases e0 : (lo == 0)
   all_goals
    go_wp2_with fail
    go_ret
    exact ⟨by rw [HQ.out, e0]; rfl, BV.out.trans (HB.out.mono BV.out.size)⟩
theorem eL (r : RG) (hr : r.length = 16) (k : Nat) (hk : k < 16) (xl xh : Int) (w : World) :
  Calls Tryz.prog 42 #[.agg (aa r).toArray, .int .i64 (k : Int), .agg #[.int .i32 xl, .int .i32 xh]] w fun e w' => e = .returned (.agg (aa (aO r (k : Int) (xl, xh))).toArray) ∧ Below w.heap.size w w' := by
 obtain ⟨V, hV, k0, k1, k2, bV, sV⟩ := aW w (aa r).toArray #[.int .i32 xl, .int .i32 xh] Va.toArray 61 58 61
 have K0 := UZ (show aC V w.heap.size 61 r from k0)
 have K2 := UZ (show V.heap[w.heap.size + 1 + 1]? = some (.cells (aa ak).toArray 61 (0, 0)) from k2)
 have BV := UZ bV
 have HR := UZ hr
 obtain ⟨c0, c1, -, -, l1⟩ := dA k1
 have l0 : w.heap.size < V.heap.size := by omega
 have ik : (k : Int) < 16 := by omega
 clear k0 k1 k2 bV hr
 go_enter Tryz.func42, Tryz.ntmps42
 go_upto_region 1 with fail
 clear hV
 by_cases hz : k = 0
 focus
  subst hz
  go_upto_region 3 with fail
  obtain ⟨Y, hY⟩ : ∃ Y, V = Y := ⟨_, rfl⟩
  obtain ⟨r3, hr3⟩ : ∃ r3, aO r (0 : Int) (xl, xh) = r3 := ⟨_, rfl⟩
  have e3 : r3 = r := hr3.symm.trans (if_pos rfl)
  have L3 := UZ (show r3.length = 16 by rw [e3]; exact HR.out)
  have KY := UZ (show aC Y w.heap.size 61 r3 by rw [← hY, e3]; exact K0.out)
  have KO := UZ (show Y.heap[w.heap.size + 1 + 1]? = some (.cells (aa ak).toArray 61 (0, 0)) by rw [← hY]; exact K2.out)
  have BY := UZ (show Below w.heap.size w Y by rw [← hY]; exact BV.out)
  have HE := UZ (show aO r ((0 : Nat) : Int) (xl, xh) = r3 from hr3)
  rw [hY]
  clear hY hr3 e3
 rotate_left 1
 focus
  have d : ((k : Int) != 0) = true := by simp; omega
  have f0 := K0.out.fz (k * 2)
  have f1 := K0.out.fz (k * 2 + 1)
  have z0 := K0.out.lo (k := k) (by rw [HR.out]; exact hk)
  have z1 := K0.out.hi (k := k) (by rw [HR.out]; exact hk)
  go_upto_region 3 with fail
  obtain ⟨Y, hY⟩ : ∃ Y, (V.setCell ⟨w.heap.size, k * 2, none⟩ (.int .i32 xl)).setCell ⟨w.heap.size, k * 2 + 1, none⟩ (.int .i32 xh) = Y := ⟨_, rfl⟩
  obtain ⟨r3, hr3⟩ : ∃ r3, r.set k (xl, xh) = r3 := ⟨_, rfl⟩
  have L3 := UZ (show r3.length = 16 by rw [← hr3, List.length_set]; exact HR.out)
  have KY := UZ (show aC Y w.heap.size 61 r3 by rw [← hY, ← hr3]; exact K0.out.set k (xl, xh))
  have KO := UZ (show Y.heap[w.heap.size + 1 + 1]? = some (.cells (aa ak).toArray 61 (0, 0)) by
   rw [← hY, Below.heap_setCell _ _ _ _ (by show w.heap.size + 1 + 1 ≠ w.heap.size; omega), Below.heap_setCell _ _ _ _ (by show w.heap.size + 1 + 1 ≠ w.heap.size; omega)]
   exact K2.out)
  have BY := UZ (show Below w.heap.size w Y by rw [← hY]; exact Below.setCell (Below.setCell BV.out (Nat.le_refl _) _) (Nat.le_refl _) _)
  have HE := UZ (show aO r (k : Int) (xl, xh) = r3 by unfold aO; rw [if_neg TX, ← hr3]; simp)
  rw [hY]
  clear hY hr3 z0 z1 f0 f1
 all_goals
  clear c0 c1
  have lY : w.heap.size < Y.heap.size := KY.out.lt
  go_wp2_with (first | (refine wpList_load_mid rfl _ _ rfl _ _ rfl (aa r3) _ KY.out.range Tryz.underlying61 rfl (rn aZ L3.out) ?_) | (refine wpList_store_row rfl 61 (.tmp 6) (.tmp 13) rfl (w.heap.size + 1 + 1) (aa r3).toArray rfl rfl 61 _ KO.out (ra aZ L3.out) (hi6 L3.out ag) (aj r3) ?_))
  refine bodyPost_ret (aX (P := Tryz.prog) Tryz.results42 _ _ (w.heap.size + 1 + 1) (aa r3) _ rfl (aq (setRow_heap _ _ _ _ _ _ KO.out)) Tryz.underlying61 rfl (rn aZ L3.out)) rfl ⟨?_, below_setRow BY.out TX _⟩
  rw [HE.out]
theorem ld (n : Int) (w : World) (h1 : -2147483648 ≤ n) (h2 : n ≤ 2147483647) : Calls Tryz.prog 45 #[.int .i64 n] w fun e w' => e = .returned (.agg #[.int .i32 n, .int .i32 n]) ∧ Below w.heap.size w w' := by
 have MH : IntKind.i32.wrap n = n := IntWalk.i32_in _ TX
 go_enter Tryz.func45, Tryz.ntmps45
 go_wp2
 all_goals
  refine bodyPost_ret (v := _) ?hr rfl ⟨rfl, ?aB⟩
  case hr =>
   simp [results, Tryz.results45, go_sem]
  case aB =>
   exact UX
theorem qP (xl xh yl yh : Int) (w : World) : Calls Tryz.prog 47 #[.agg #[.int .i32 xl, .int .i32 xh], .agg #[.int .i32 yl, .int .i32 yh]] w fun e w' => e = .returned (.agg #[.int .i32 (sF (xl, xh) (yl, yh)).1, .int .i32 (sF (xl, xh) (yl, yh)).2]) ∧ Below w.heap.size w w' := by
 by_cases h1 : xl < yl <;> by_cases h2 : yh < xh
 all_goals
  simp only [sF, h1, h2, if_true, if_false]
  (first | have d1 := decide_eq_false h1 | have d1 := decide_eq_true h1)
  (first | have d2 := decide_eq_false h2 | have d2 := decide_eq_true h2)
  clear h1 h2
  go_enter Tryz.func47, Tryz.ntmps47
  go_wp2
  all_goals
   refine bodyPost_ret (v := _) ?hr rfl ⟨rfl, ?aB⟩
   case hr =>
    simp [results, Tryz.results47, go_sem]
   case aB =>
    exact UX
theorem mN (op : Int) (h1 : 2 ≤ op) (h2 : op ≤ 13) (w : World) : Calls Tryz.prog 44 #[.int .u8 op] w fun e w' => e = .returned (.int .u8 (nM op)) ∧ Below w.heap.size w w' := by
 have h : op = 2 ∨ op = 3 ∨ op = 4 ∨ op = 5 ∨ op = 6 ∨ op = 7 ∨ op = 8 ∨ op = 9 ∨ op = 10 ∨ op = 11 ∨ op = 12 ∨ op = 13 := by omega
 rcases h with rfl | rfl | rfl | rfl | rfl | rfl | rfl | rfl | rfl | rfl | rfl | rfl
 all_goals
  go_enter Tryz.func44, Tryz.ntmps44
  go_wp2
  go_ret
  exact ⟨rfl, (Below.refl _ _).alloc (Nat.le_refl _) _⟩
theorem y7 (n : Int) (w : World) : Calls Tryz.prog 52 #[.int .i64 n] w fun e w' => e = .returned (.int .i32 (cj n)) ∧ w = w' := by
 have h : (n < -2147483648 ∧ cj n = -2147483648) ∨ (¬ n < -2147483648 ∧ 2147483647 < n ∧ cj n = 2147483647) ∨ (¬ n < -2147483648 ∧ ¬ 2147483647 < n ∧ cj n = n) := by unfold cj; (repeat' split) <;> omega
 rcases h with ⟨h1, e⟩ | ⟨h1, h2, e⟩ | ⟨h1, h2, e⟩
 all_goals
  rw [e]
  clear e
  (first | have d1 := decide_eq_false h1 | have d1 := decide_eq_true h1)
  (try (first | have d2 := decide_eq_false h2 | have d2 := decide_eq_true h2))
  (try have MH : IntKind.i32.wrap n = n := IntWalk.i32_in _ TX)
  go_enter Tryz.func52, Tryz.ntmps52
  go_wp2
  go_ret
  exact ⟨rfl, rfl⟩
end
section
open Go.RowKit
theorem dz (b : Bool) (w : World) : Calls Tryz.prog 111 #[.bool b] w fun e w' => e = .returned (.int .i32 (ku b)) ∧ w = w' := by
 cases b
 all_goals
  go_enter Tryz.func111, Tryz.ntmps111
  go_wp2
  go_ret
  exact ⟨rfl, rfl⟩
theorem oB (n : Int) : (0 ≤ n ∧ n.tmod 4294967296 = n % 4294967296) ∨ (n < 0 ∧ n.tmod 4294967296 = -((-n) % 4294967296)) := by
 by_cases h : 0 ≤ n
 ·exact .inl ⟨h, Int.tmod_eq_emod_of_nonneg h⟩
 ·right
  refine ⟨by omega, ?_⟩
  have := Int.neg_tmod (-n) 4294967296
  rw [Int.neg_neg] at this
  rw [this, Int.tmod_eq_emod_of_nonneg TX]
theorem dQ (n : Int) (w : World) (h1 : -9223372036854775808 ≤ n) (h2 : n ≤ 9223372036854775807) : Calls Tryz.prog 107 #[.int .i64 n] w fun e w' => e = .returned (.int .i32 (wrap32 n)) ∧ w = w' := by
 have HF := UZ (oB n)
 have b1 : -4294967296 < n.tmod 4294967296 ∧ n.tmod 4294967296 < 4294967296 := by rcases oB n with h | h <;> omega
 obtain ⟨b1, b2⟩ := b1
 obtain ⟨r, hr⟩ : ∃ r, n.tmod 4294967296 = r := ⟨_, rfl⟩
 have HR := UZ hr
 go_enter Tryz.func107, Tryz.ntmps107
 go_wp2
 all_goals
  go_ret
  refine ⟨fj ?_, rfl⟩
  have hf := HF.out
  unfold wrap32
  omega
def jX (x : Int) : Int := if x < 0 then x + 4294967296 else x
theorem Ep {x : Int} (h : aK x) : 0 ≤ jX x ∧ jX x < 4294967296 := by unfold aK at h; unfold jX; split <;> omega
theorem xx {u : Int} (h0 : 0 ≤ u) (h1 : u < 4294967296) (k : Nat) : 0 ≤ u / 2 ^ k ∧ u / 2 ^ k < 4294967296 := by
 have := (vU u k).1 h0
 omega
theorem mq (u : Int) (k : Nat) : u / 2 ^ k / 2 = u / 2 ^ (k + 1) := by
 rw [Int.pow_succ, Int.ediv_ediv_of_nonneg]
 have := um k
 omega
theorem gh (x i : Int) (w : World) (hx : aK x) (h0 : 0 ≤ i) (h1 : i ≤ 31) : Calls Tryz.prog 118 #[.int .i32 x, .int .i64 i] w fun e w' => e = .returned (.int .i64 (jX x / 2 ^ i.toNat % 2)) ∧ w = w' := by
 have hu := Ep hx
 have HU := UZ (fun k => xx hu.1 hu.2 k)
 have HS := UZ (fun k => mq (jX x) k)
 obtain ⟨hx1, hx2⟩ := hx
 by_cases hn : x < 0
 all_goals
  have hz : jX x / 2 ^ 0 = jX x := by simp
  have he : jX x = if x < 0 then x + 4294967296 else x := rfl
  (first | rw [if_pos hn] at he | rw [if_neg hn] at he)
  have HZ := UZ (hz.trans he)
  clear hz he hu
  go_enter Tryz.func118, Tryz.ntmps118
  go_wp2
  go_loop [1, 5] (fun i' n' => ∃ k : Nat, k ≤ i.toNat ∧ i' = .int .i64 (i - k) ∧ n' = .int .i64 (jX x / 2 ^ k)) (fun i' _ => (intOf i').toNat)
  case atStart => exact ⟨0, by omega, int_eq TX, int_eq HZ.out.symm⟩
  case round =>
   obtain ⟨k, hk, rfl, rfl⟩ := hrel
   obtain ⟨hu1, hu2⟩ := HU.out k
   have hs := UZ (HS.out k)
   by_cases hlt : k < i.toNat
   ·have hlt' : 0 < i - (k : Int) := by omega
    obtain ⟨q, hq⟩ : ∃ q, jX x / 2 ^ k = q := ⟨_, rfl⟩
    rw [hq] at hu1 hu2 hs ⊢
    clear hq
    go_wp2
    go_round
    case rel => exact ⟨k + 1, by omega, int_eq TX, int_eq hs.out⟩
    case measure => simp [intOf]; omega
   ·have hge : ¬ 0 < i - (k : Int) := by omega
    obtain rfl : k = i.toNat := by omega
    obtain ⟨q, hq⟩ : ∃ q, jX x / 2 ^ i.toNat = q := ⟨_, rfl⟩
    rw [hq] at hu1 hu2 ⊢
    have HQ := UZ hq
    clear hq
    go_wp2
    go_ret
    exact ⟨fj (by rw [HQ.out]), rfl⟩
theorem Dv (T k : Nat) : T % 2 ^ (k + 1) = T % 2 ^ k + 2 ^ k * (T / 2 ^ k % 2) := Nat.mod_pow_succ
theorem ja (T k : Nat) : T / 2 ^ k % 2 = 0 ∨ T / 2 ^ k % 2 = 1 := by omega
theorem tb (T k : Nat) : T.testBit k = decide (T / 2 ^ k % 2 = 1) := Nat.testBit_eq_decide_div_mod_eq
theorem FD (X Y k : Nat) : ((X &&& Y) / 2 ^ k % 2 = 1) ↔ (X / 2 ^ k % 2 = 1 ∧ Y / 2 ^ k % 2 = 1) := by
 have h := Nat.testBit_and X Y k
 rw [tb, tb, tb, Bool.eq_iff_iff] at h
 simpa using h
theorem Ip (X Y k : Nat) : ((X ||| Y) / 2 ^ k % 2 = 1) ↔ (X / 2 ^ k % 2 = 1 ∨ Y / 2 ^ k % 2 = 1) := by
 have h := Nat.testBit_or X Y k
 rw [tb, tb, tb, Bool.eq_iff_iff] at h
 simpa using h
theorem FC (X Y k : Nat) : ((X ^^^ Y) / 2 ^ k % 2 = 1) ↔ ¬ (X / 2 ^ k % 2 = 1 ↔ Y / 2 ^ k % 2 = 1) := by
 have h := Nat.testBit_xor X Y k
 rw [tb, tb, tb] at h
 by_cases a : X / 2 ^ k % 2 = 1 <;> by_cases b : Y / 2 ^ k % 2 = 1 <;> simp_all
def jE (op : Int) (X Y : Nat) : Nat := if op = 11 then X &&& Y else if op = 12 then X ||| Y else X ^^^ Y
theorem xE (op : Int) {X Y : Nat} (hx : X < 2 ^ 32) (hy : Y < 2 ^ 32) : jE op X Y < 2 ^ 32 := by
 unfold jE
 split
 ·exact Nat.and_lt_two_pow _ hy
 ·split
  ·exact Nat.or_lt_two_pow hx hy
  ·exact Nat.xor_lt_two_pow hx hy
def qJ (op a b : Int) : Bool := (op == 11 && a + b == 2) || (op == 12 && decide (1 ≤ a + b)) || (op == 13 && a + b == 1)
theorem pU (op : Int) (X Y k : Nat) (h : op = 11 ∨ op = 12 ∨ op = 13) (a b : Int) (ha : a = (X / 2 ^ k % 2 : Nat)) (hb : b = (Y / 2 ^ k % 2 : Nat)) :
  ((jE op X Y % 2 ^ (k + 1) : Nat) : Int) = (jE op X Y % 2 ^ k : Nat) + if qJ op a b then (2 : Int) ^ k else 0 := by
 rw [Dv]
 have hx := ja X k
 have hy := ja Y k
 have e : ((2 ^ k : Nat) : Int) = 2 ^ k := by simp
 have key : (jE op X Y / 2 ^ k % 2 = 1 ↔ qJ op a b = true) → ((jE op X Y % 2 ^ k + 2 ^ k * (jE op X Y / 2 ^ k % 2) : Nat) : Int) = (jE op X Y % 2 ^ k : Nat) + if qJ op a b then (2 : Int) ^ k else 0 := by
  intro hk
  by_cases c : qJ op a b = true
  ·rw [if_pos c, hk.2 c, Nat.mul_one, Int.natCast_add, e]
  ·rw [if_neg c]
   have : jE op X Y / 2 ^ k % 2 = 0 := by
    rcases ja (jE op X Y) k with h0 | h0
    ·exact h0
    ·exact absurd (hk.1 h0) c
   rw [this, Nat.mul_zero, Nat.add_zero, Int.add_zero]
 apply key
 rcases h with rfl | rfl | rfl
 ·show ((X &&& Y) / 2 ^ k % 2 = 1) ↔ _
  rw [FD]
  simp [qJ]
  omega
 ·show ((X ||| Y) / 2 ^ k % 2 = 1) ↔ _
  rw [Ip]
  simp [qJ]
  omega
 ·show ((X ^^^ Y) / 2 ^ k % 2 = 1) ↔ _
  rw [FC]
  simp [qJ]
  omega
theorem yT {x : Int} (h : aK x) : jX x = ((BitVec.ofInt 32 x).toNat : Int) := by
 rw [Eo x h]; unfold jX; split <;> split <;> omega
theorem pW {op : Int} (h : op = 11 ∨ op = 12 ∨ op = 13) (x y : Int) : wv op x y = wrap32 (jE op (BitVec.ofInt 32 x).toNat (BitVec.ofInt 32 y).toNat : Nat) := by
 rcases h with rfl | rfl | rfl
 ·show bits .and .i32 x y = _
  rw [l9]; simp only [BitVec.toNat_and]; rfl
 ·show bits .or .i32 x y = _
  rw [l9]; simp only [BitVec.toNat_or]; rfl
 ·show bits .xor .i32 x y = _
  rw [l9]; simp only [BitVec.toNat_xor]; rfl
theorem jT {x : Int} (h : aK x) (k : Nat) : jX x / 2 ^ k % 2 = (((BitVec.ofInt 32 x).toNat / 2 ^ k % 2 : Nat) : Int) := by
 rw [yT h]; simp
theorem Cg (x y : Int) (w : World) (hx : aK x) (hy : aK y) : Calls Tryz.prog 108 #[.int .u8 11, .int .i32 x, .int .i32 y] w fun e w' => e = .returned (.int .i32 (wv 11 x y)) ∧ w = w' := by
 have EV := UZ (pW (op := 11) T1 x y)
 have VX := UZ (fun k => jT hx k)
 have VY := UZ (fun k => jT hy k)
 have hX : (BitVec.ofInt 32 x).toNat < 2 ^ 32 := (BitVec.ofInt 32 x).isLt
 have hY : (BitVec.ofInt 32 y).toNat < 2 ^ 32 := (BitVec.ofInt 32 y).isLt
 generalize (BitVec.ofInt 32 x).toNat = X at *
 generalize (BitVec.ofInt 32 y).toNat = Y at *
 have HS := UZ (fun k a b => pU 11 X Y k T1 a b)
 have HL := UZ (xE 11 hX hY)
 go_enter Tryz.func108, Tryz.ntmps108
 go_wp2_with fail
 go_loop [7, 8, 9] (fun n p i => ∃ k : Nat, k ≤ 32 ∧ i = .int .i64 k ∧ p = .int .i64 (2 ^ k) ∧ n = .int .i64 (jE 11 X Y % 2 ^ k : Nat)) (fun _ _ i => 32 - (intOf i).toNat)
 case atStart => exact ⟨0, by omega, rfl, rfl, int_eq (by simp [Nat.mod_one])⟩
 case round =>
  obtain ⟨k, hk, rfl, rfl, rfl⟩ := hrel
  have hp := iQ k 32 hk
  have e32 : (2 : Int) ^ 32 = 4294967296 := by decide
  rw [e32] at hp
  have hb : ((jE 11 X Y % 2 ^ k : Nat) : Int) < 2 ^ k := by
   have h := Nat.mod_lt (jE 11 X Y) (show 0 < 2 ^ k from Nat.two_pow_pos k)
   have e : ((2 ^ k : Nat) : Int) = 2 ^ k := by simp
   omega
  have hb0 : 0 ≤ ((jE 11 X Y % 2 ^ k : Nat) : Int) := by omega
  obtain ⟨hp1, hp2⟩ := hp
  have P2 := UZ (show (2 : Int) * 2 ^ k = 2 ^ (k + 1) by rw [Int.pow_succ]; omega)
  by_cases hlt : k < 32
  ·have hlt' : (k : Int) < 32 := by omega
   have vx := UZ (VX.out k)
   have vy := UZ (VY.out k)
   have st := UZ (HS.out k _ _ rfl rfl)
   have bx := ja X k
   have b2 := ja Y k
   have RX := UZ (gh x k · hx TX TX)
   have RY := UZ (gh y k · hy TX TX)
   rw [Int.toNat_natCast, vx.out] at RX
   rw [Int.toNat_natCast, vy.out] at RY
   clear vx vy
   generalize X / 2 ^ k % 2 = bX at *
   generalize Y / 2 ^ k % 2 = bY at *
   obtain ⟨N, hN⟩ : ∃ N, jE 11 X Y % 2 ^ k = N := ⟨_, rfl⟩
   rw [hN] at hb hb0 st ⊢
   clear hN
   obtain ⟨p, hp⟩ : ∃ p, (2 : Int) ^ k = p := ⟨_, rfl⟩
   rw [hp] at hb hp1 hp2 st P2 ⊢
   clear hp
   rcases bx with rfl | rfl <;> rcases b2 with rfl | rfl
   all_goals
    go_wp2_with fail
    refine (RX.out _).mono ?_
    rintro e w' ⟨rfl, rfl⟩
    go_wp2_with fail
    refine (RY.out _).mono ?_
    rintro e w' ⟨rfl, rfl⟩
    go_wp2
    go_round
    case rel => exact ⟨k + 1, by omega, by go_num, int_eq P2.out, int_eq Ux⟩
    case measure => simp [intOf]; omega
  ·have hge : ¬ (k : Int) < 32 := by omega
   obtain rfl : k = 32 := by omega
   have hm : jE 11 X Y % 2 ^ 32 = jE 11 X Y := Nat.mod_eq_of_lt HL.out
   rw [hm] at hb hb0 ⊢
   have uT : (2 : Int) ^ 32 = 4294967296 := by decide
   rw [uT] at hb ⊢
   clear hm uT e32 HS P2
   obtain ⟨N, hN⟩ : ∃ N, jE 11 X Y = N := ⟨_, rfl⟩
   rw [hN] at hb hb0 EV ⊢
   clear hN HL
   go_wp2_with fail
   refine (dQ _ _ TX TX).mono ?_
   rintro e w' ⟨rfl, rfl⟩
   go_wp2
   go_ret
   exact ⟨fj EV.out.symm, rfl⟩
theorem Cf (x y : Int) (w : World) (hx : aK x) (hy : aK y) : Calls Tryz.prog 108 #[.int .u8 12, .int .i32 x, .int .i32 y] w fun e w' => e = .returned (.int .i32 (wv 12 x y)) ∧ w = w' := by
 have EV := UZ (pW (op := 12) T1 x y)
 have VX := UZ (fun k => jT hx k)
 have VY := UZ (fun k => jT hy k)
 have hX : (BitVec.ofInt 32 x).toNat < 2 ^ 32 := (BitVec.ofInt 32 x).isLt
 have hY : (BitVec.ofInt 32 y).toNat < 2 ^ 32 := (BitVec.ofInt 32 y).isLt
 generalize (BitVec.ofInt 32 x).toNat = X at *
 generalize (BitVec.ofInt 32 y).toNat = Y at *
 have HS := UZ (fun k a b => pU 12 X Y k T1 a b)
 have HL := UZ (xE 12 hX hY)
 go_enter Tryz.func108, Tryz.ntmps108
 go_wp2_with fail
 go_loop [7, 8, 9] (fun n p i => ∃ k : Nat, k ≤ 32 ∧ i = .int .i64 k ∧ p = .int .i64 (2 ^ k) ∧ n = .int .i64 (jE 12 X Y % 2 ^ k : Nat)) (fun _ _ i => 32 - (intOf i).toNat)
 case atStart => exact ⟨0, by omega, rfl, rfl, int_eq (by simp [Nat.mod_one])⟩
 case round =>
  obtain ⟨k, hk, rfl, rfl, rfl⟩ := hrel
  have hp := iQ k 32 hk
  have e32 : (2 : Int) ^ 32 = 4294967296 := by decide
  rw [e32] at hp
  have hb : ((jE 12 X Y % 2 ^ k : Nat) : Int) < 2 ^ k := by
   have h := Nat.mod_lt (jE 12 X Y) (show 0 < 2 ^ k from Nat.two_pow_pos k)
   have e : ((2 ^ k : Nat) : Int) = 2 ^ k := by simp
   omega
  have hb0 : 0 ≤ ((jE 12 X Y % 2 ^ k : Nat) : Int) := by omega
  obtain ⟨hp1, hp2⟩ := hp
  have P2 := UZ (show (2 : Int) * 2 ^ k = 2 ^ (k + 1) by rw [Int.pow_succ]; omega)
  by_cases hlt : k < 32
  ·have hlt' : (k : Int) < 32 := by omega
   have vx := UZ (VX.out k)
   have vy := UZ (VY.out k)
   have st := UZ (HS.out k _ _ rfl rfl)
   have bx := ja X k
   have b2 := ja Y k
   have RX := UZ (gh x k · hx TX TX)
   have RY := UZ (gh y k · hy TX TX)
   rw [Int.toNat_natCast, vx.out] at RX
   rw [Int.toNat_natCast, vy.out] at RY
   clear vx vy
   generalize X / 2 ^ k % 2 = bX at *
   generalize Y / 2 ^ k % 2 = bY at *
   obtain ⟨N, hN⟩ : ∃ N, jE 12 X Y % 2 ^ k = N := ⟨_, rfl⟩
   rw [hN] at hb hb0 st ⊢
   clear hN
   obtain ⟨p, hp⟩ : ∃ p, (2 : Int) ^ k = p := ⟨_, rfl⟩
   rw [hp] at hb hp1 hp2 st P2 ⊢
   clear hp
   rcases bx with rfl | rfl <;> rcases b2 with rfl | rfl
   all_goals
    go_wp2_with fail
    refine (RX.out _).mono ?_
    rintro e w' ⟨rfl, rfl⟩
    go_wp2_with fail
    refine (RY.out _).mono ?_
    rintro e w' ⟨rfl, rfl⟩
    go_wp2
    go_round
    case rel => exact ⟨k + 1, by omega, by go_num, int_eq P2.out, int_eq Ux⟩
    case measure => simp [intOf]; omega
  ·have hge : ¬ (k : Int) < 32 := by omega
   obtain rfl : k = 32 := by omega
   have hm : jE 12 X Y % 2 ^ 32 = jE 12 X Y := Nat.mod_eq_of_lt HL.out
   rw [hm] at hb hb0 ⊢
   have uT : (2 : Int) ^ 32 = 4294967296 := by decide
   rw [uT] at hb ⊢
   clear hm uT e32 HS P2
   obtain ⟨N, hN⟩ : ∃ N, jE 12 X Y = N := ⟨_, rfl⟩
   rw [hN] at hb hb0 EV ⊢
   clear hN HL
   go_wp2_with fail
   refine (dQ _ _ TX TX).mono ?_
   rintro e w' ⟨rfl, rfl⟩
   go_wp2
   go_ret
   exact ⟨fj EV.out.symm, rfl⟩
theorem Ce (x y : Int) (w : World) (hx : aK x) (hy : aK y) : Calls Tryz.prog 108 #[.int .u8 13, .int .i32 x, .int .i32 y] w fun e w' => e = .returned (.int .i32 (wv 13 x y)) ∧ w = w' := by
 have EV := UZ (pW (op := 13) T1 x y)
 have VX := UZ (fun k => jT hx k)
 have VY := UZ (fun k => jT hy k)
 have hX : (BitVec.ofInt 32 x).toNat < 2 ^ 32 := (BitVec.ofInt 32 x).isLt
 have hY : (BitVec.ofInt 32 y).toNat < 2 ^ 32 := (BitVec.ofInt 32 y).isLt
 generalize (BitVec.ofInt 32 x).toNat = X at *
 generalize (BitVec.ofInt 32 y).toNat = Y at *
 have HS := UZ (fun k a b => pU 13 X Y k T1 a b)
 have HL := UZ (xE 13 hX hY)
 go_enter Tryz.func108, Tryz.ntmps108
 go_wp2_with fail
 go_loop [7, 8, 9] (fun n p i => ∃ k : Nat, k ≤ 32 ∧ i = .int .i64 k ∧ p = .int .i64 (2 ^ k) ∧ n = .int .i64 (jE 13 X Y % 2 ^ k : Nat)) (fun _ _ i => 32 - (intOf i).toNat)
 case atStart => exact ⟨0, by omega, rfl, rfl, int_eq (by simp [Nat.mod_one])⟩
 case round =>
  obtain ⟨k, hk, rfl, rfl, rfl⟩ := hrel
  have hp := iQ k 32 hk
  have e32 : (2 : Int) ^ 32 = 4294967296 := by decide
  rw [e32] at hp
  have hb : ((jE 13 X Y % 2 ^ k : Nat) : Int) < 2 ^ k := by
   have h := Nat.mod_lt (jE 13 X Y) (show 0 < 2 ^ k from Nat.two_pow_pos k)
   have e : ((2 ^ k : Nat) : Int) = 2 ^ k := by simp
   omega
  have hb0 : 0 ≤ ((jE 13 X Y % 2 ^ k : Nat) : Int) := by omega
  obtain ⟨hp1, hp2⟩ := hp
  have P2 := UZ (show (2 : Int) * 2 ^ k = 2 ^ (k + 1) by rw [Int.pow_succ]; omega)
  by_cases hlt : k < 32
  ·have hlt' : (k : Int) < 32 := by omega
   have vx := UZ (VX.out k)
   have vy := UZ (VY.out k)
   have st := UZ (HS.out k _ _ rfl rfl)
   have bx := ja X k
   have b2 := ja Y k
   have RX := UZ (gh x k · hx TX TX)
   have RY := UZ (gh y k · hy TX TX)
   rw [Int.toNat_natCast, vx.out] at RX
   rw [Int.toNat_natCast, vy.out] at RY
   clear vx vy
   generalize X / 2 ^ k % 2 = bX at *
   generalize Y / 2 ^ k % 2 = bY at *
   obtain ⟨N, hN⟩ : ∃ N, jE 13 X Y % 2 ^ k = N := ⟨_, rfl⟩
   rw [hN] at hb hb0 st ⊢
   clear hN
   obtain ⟨p, hp⟩ : ∃ p, (2 : Int) ^ k = p := ⟨_, rfl⟩
   rw [hp] at hb hp1 hp2 st P2 ⊢
   clear hp
   rcases bx with rfl | rfl <;> rcases b2 with rfl | rfl
   all_goals
    go_wp2_with fail
    refine (RX.out _).mono ?_
    rintro e w' ⟨rfl, rfl⟩
    go_wp2_with fail
    refine (RY.out _).mono ?_
    rintro e w' ⟨rfl, rfl⟩
    go_wp2
    go_round
    case rel => exact ⟨k + 1, by omega, by go_num, int_eq P2.out, int_eq Ux⟩
    case measure => simp [intOf]; omega
  ·have hge : ¬ (k : Int) < 32 := by omega
   obtain rfl : k = 32 := by omega
   have hm : jE 13 X Y % 2 ^ 32 = jE 13 X Y := Nat.mod_eq_of_lt HL.out
   rw [hm] at hb hb0 ⊢
   have uT : (2 : Int) ^ 32 = 4294967296 := by decide
   rw [uT] at hb ⊢
   clear hm uT e32 HS P2
   obtain ⟨N, hN⟩ : ∃ N, jE 13 X Y = N := ⟨_, rfl⟩
   rw [hN] at hb hb0 EV ⊢
   clear hN HL
   go_wp2_with fail
   refine (dQ _ _ TX TX).mono ?_
   rintro e w' ⟨rfl, rfl⟩
   go_wp2
   go_ret
   exact ⟨fj EV.out.symm, rfl⟩
theorem count_eq (y : Int) : (0 ≤ y ∧ y.tmod 32 = y % 32) ∨ (y < 0 ∧ y.tmod 32 = -((-y) % 32)) := by
 by_cases h : 0 ≤ y
 ·exact .inl ⟨h, Int.tmod_eq_emod_of_nonneg h⟩
 ·right
  refine ⟨by omega, ?_⟩
  have := Int.neg_tmod (-y) 32
  rw [Int.neg_neg] at this
  rw [this, Int.tmod_eq_emod_of_nonneg TX]
theorem oQ (y : Int) (w : World) (hy : aK y) : Calls Tryz.prog 110 #[.int .i32 y] w fun e w' => e = .returned (.int .i64 (y % 32)) ∧ w = w' := by
 obtain ⟨h1, h2⟩ := hy
 have HF := UZ (count_eq y)
 have hb : -32 < y.tmod 32 ∧ y.tmod 32 < 32 := by rcases count_eq y with h | h <;> omega
 obtain ⟨b1, b2⟩ := hb
 obtain ⟨r, hr⟩ : ∃ r, y.tmod 32 = r := ⟨_, rfl⟩
 have HR := UZ hr
 go_enter Tryz.func110, Tryz.ntmps110
 go_wp2
 all_goals
  go_ret
  refine ⟨fj ?_, rfl⟩
  have hf := HF.out
  omega
end
section
open Go.RowKit
theorem vI (a : Int) : wrap32 (2 * wrap32 a) = wrap32 (a * 2) := by unfold wrap32; omega
theorem pI {q : Int} : (q - q % 2).tdiv 2 = q / 2 := by
 have h : q - q % 2 = 2 * (q / 2) := by omega
 rw [h, Int.mul_tdiv_cancel_left _ T1]
theorem tR (x n : Int) (w : World) (hx : aK x) (h0 : 0 ≤ n) (h1 : n ≤ 31) : Calls Tryz.prog 109 #[.int .i32 x, .int .i64 n, .bool true] w fun e w' => e = .returned (.int .i32 (wrap32 (x * 2 ^ n.toNat))) ∧ w = w' := by
 have HZ := UZ (show wrap32 (x * 2 ^ 0) = x by rw [Int.pow_zero, Int.mul_one]; exact mH hx)
 have HS := UZ (fun k : Nat => show wrap32 (2 * wrap32 (x * 2 ^ k)) = wrap32 (x * 2 ^ (k + 1)) by rw [vI, Int.pow_succ, Int.mul_assoc])
 have HB := UZ (fun k : Nat => gA (x * 2 ^ k))
 go_enter Tryz.func109, Tryz.ntmps109
 go_wp2_with fail
 go_loop [0, 7] (fun x' i => ∃ k : Nat, k ≤ n.toNat ∧ i = .int .i64 k ∧ x' = .int .i32 (wrap32 (x * 2 ^ k))) (fun _ i => n.toNat - (intOf i).toNat)
 case atStart => exact ⟨0, by omega, rfl, int_eq HZ.out.symm⟩
 case round =>
  obtain ⟨k, hk, rfl, rfl⟩ := hrel
  obtain ⟨b1, b2⟩ := HB.out k
  by_cases hlt : k < n.toNat
  ·have hlt' : (k : Int) < n := by omega
   have hs := UZ (HS.out k)
   obtain ⟨q, hq⟩ : ∃ q, wrap32 (x * 2 ^ k) = q := ⟨_, rfl⟩
   rw [hq] at b1 b2 hs ⊢
   clear hq
   go_wp2_with fail
   refine (dQ _ _ TX TX).mono ?_
   rintro e w' ⟨rfl, rfl⟩
   go_wp2
   go_round
   case rel => exact ⟨k + 1, by omega, by go_num, int_eq hs.out⟩
   case measure => simp [intOf]; omega
  ·have hge : ¬ (k : Int) < n := by omega
   obtain rfl : k = n.toNat := by omega
   go_wp2
   go_ret
   exact ⟨rfl, rfl⟩
theorem r8 (x n : Int) (w : World) (hx : aK x) (h0 : 0 ≤ n) (h1 : n ≤ 31) : Calls Tryz.prog 109 #[.int .i32 x, .int .i64 n, .bool false] w fun e w' => e = .returned (.int .i32 (x / 2 ^ n.toNat)) ∧ w = w' := by
 have HZ := UZ (show x / 2 ^ 0 = x by rw [Int.pow_zero, Int.ediv_one])
 have HS := UZ (fun k : Nat => mq x k)
 have HB := UZ (fun k : Nat => show aK (x / 2 ^ k) by have := vU x k; unfold aK at *; omega)
 go_enter Tryz.func109, Tryz.ntmps109
 go_wp2_with fail
 go_loop [0, 7] (fun x' i => ∃ k : Nat, k ≤ n.toNat ∧ i = .int .i64 k ∧ x' = .int .i32 (x / 2 ^ k)) (fun _ i => n.toNat - (intOf i).toNat)
 case atStart => exact ⟨0, by omega, rfl, int_eq HZ.out.symm⟩
 case round =>
  obtain ⟨k, hk, rfl, rfl⟩ := hrel
  have hw := HB.out k
  by_cases hlt : k < n.toNat
  ·have hlt' : (k : Int) < n := by omega
   have hs := UZ (HS.out k)
   obtain ⟨q, hq⟩ : ∃ q, x / 2 ^ k = q := ⟨_, rfl⟩
   rw [hq] at hw hs ⊢
   clear hq
   have HF := UZ (pI (q := q))
   have Hb := UZ (show jX q / 2 ^ (0 : Int).toNat % 2 = q % 2 by unfold jX; simp; split <;> omega)
   have RB := UZ (gh q 0 · hw TX TX)
   rw [Hb.out] at RB
   obtain ⟨b1, b2⟩ := hw
   have tb1 : -2147483648 ≤ (q - q % 2).tdiv 2 ∧ (q - q % 2).tdiv 2 ≤ 2147483647 := by rw [pI]; omega
   obtain ⟨t1, t2⟩ := tb1
   obtain ⟨r, hr⟩ : ∃ r, q % 2 = r := ⟨_, rfl⟩
   have hr' : 0 ≤ r ∧ r ≤ 1 := by omega
   obtain ⟨r1, r2⟩ := hr'
   rw [hr] at RB t1 t2 HF
   clear hr Hb
   go_wp2_with fail
   refine (RB.out _).mono ?_
   rintro e w' ⟨rfl, rfl⟩
   go_wp2
   go_round
   case rel => exact ⟨k + 1, by omega, by go_num, int_eq (HF.out.trans hs.out)⟩
   case measure => simp [intOf]; omega
  ·have hge : ¬ (k : Int) < n := by omega
   obtain rfl : k = n.toNat := by omega
   go_wp2
   go_ret
   exact ⟨rfl, rfl⟩
theorem Cv {a b : Int} (ha : aK a) (hb : aK b) (h0 : b ≠ 0) : wrap32 (a - wrap32 (a.tdiv b) * b) = a.tmod b := by
 have hm := G8 a b h0
 have hd := Int.tmod_add_mul_tdiv a b
 have hw : aK (a.tmod b) := by unfold aK at *; omega
 have tb := cO a b ha.1 ha.2
 by_cases c : a.tdiv b = 2147483648
 ·have hb1 : b = -1 := by
   have h := Int.natAbs_tdiv a b
   rw [c] at h
   unfold aK at ha hb
   have hn : a.natAbs / b.natAbs = 2147483648 := h.symm
   have h3 : b.natAbs = 1 := by
    rcases Nat.lt_or_ge b.natAbs 2 with h4 | h4
    ·omega
    ·have h5 := Nat.div_le_div_left h4 (show 0 < 2 by omega) (a := a.natAbs)
     omega
   have h6 : b = 1 ∨ b = -1 := by omega
   rcases h6 with rfl | rfl
   ·rw [Int.tdiv_one] at c; omega
   ·rfl
  subst hb1
  rw [c] at hd ⊢
  have e : wrap32 2147483648 = -2147483648 := by unfold wrap32; omega
  rw [e]
  unfold wrap32 aK at *
  omega
 ·have e : wrap32 (a.tdiv b) = a.tdiv b := mH ⟨by omega, by omega⟩
  rw [e, show a - a.tdiv b * b = a.tmod b by rw [Int.mul_comm]; omega]
  exact mH hw
theorem Cl (x y : Int) (w : World) (hx1 : -2147483648 ≤ x) (hx2 : x ≤ 2147483647) (hy1 : -2147483648 ≤ y) (hy2 : y ≤ 2147483647) :
  Calls Tryz.prog 85 #[.int .u8 6, .int .i32 x, .int .i32 y] w fun e w' => e = .returned (.tuple #[.int .i32 (wrap32 (x + y)), .int .i64 0]) ∧ w = w' := by
 go_enter Tryz.func85, Tryz.ntmps85
 go_wp2_with (go_at_call 107; refine (dQ _ _ TX TX).mono ?_; rintro e _ ⟨rfl, rfl⟩)
 all_goals
  go_ret2
  exact ⟨rfl, rfl⟩
theorem Ck (x y : Int) (w : World) (hx1 : -2147483648 ≤ x) (hx2 : x ≤ 2147483647) (hy1 : -2147483648 ≤ y) (hy2 : y ≤ 2147483647) :
  Calls Tryz.prog 85 #[.int .u8 7, .int .i32 x, .int .i32 y] w fun e w' => e = .returned (.tuple #[.int .i32 (wrap32 (x - y)), .int .i64 0]) ∧ w = w' := by
 go_enter Tryz.func85, Tryz.ntmps85
 go_wp2_with (go_at_call 107; refine (dQ _ _ TX TX).mono ?_; rintro e _ ⟨rfl, rfl⟩)
 all_goals
  go_ret2
  exact ⟨rfl, rfl⟩
theorem Cj (x y : Int) (w : World) (hx1 : -2147483648 ≤ x) (hx2 : x ≤ 2147483647) (hy1 : -2147483648 ≤ y) (hy2 : y ≤ 2147483647) :
  Calls Tryz.prog 85 #[.int .u8 8, .int .i32 x, .int .i32 y] w fun e w' => e = .returned (.tuple #[.int .i32 (wrap32 (x * y)), .int .i64 0]) ∧ w = w' := by
 have hm := fD hx1 hx2 hy1 hy2
 obtain ⟨m1, m2⟩ := hm
 go_enter Tryz.func85, Tryz.ntmps85
 go_wp2_with (go_at_call 107; refine (dQ _ _ TX TX).mono ?_; rintro e _ ⟨rfl, rfl⟩)
 all_goals
  go_ret2
  exact ⟨rfl, rfl⟩
theorem zb (x y : Int) (w : World) (hx1 : -2147483648 ≤ x) (hx2 : x ≤ 2147483647) (hy1 : -2147483648 ≤ y) (hy2 : y ≤ 2147483647) (h0 : y = 0) :
  Calls Tryz.prog 85 #[.int .u8 9, .int .i32 x, .int .i32 y] w fun e w' => e = .returned (.tuple #[.int .i32 (0), .int .i64 9]) ∧ w = w' := by
 have z : (y == 0) = true := by simpa using h0
 go_enter Tryz.func85, Tryz.ntmps85
 go_wp2_with fail
 all_goals
  go_ret2
  exact ⟨rfl, rfl⟩
theorem wq (x y : Int) (w : World) (hx1 : -2147483648 ≤ x) (hx2 : x ≤ 2147483647) (hy1 : -2147483648 ≤ y) (hy2 : y ≤ 2147483647) (h0 : y = 0) :
  Calls Tryz.prog 85 #[.int .u8 10, .int .i32 x, .int .i32 y] w fun e w' => e = .returned (.tuple #[.int .i32 (0), .int .i64 9]) ∧ w = w' := by
 have z : (y == 0) = true := by simpa using h0
 go_enter Tryz.func85, Tryz.ntmps85
 go_wp2_with fail
 all_goals
  go_ret2
  exact ⟨rfl, rfl⟩
theorem Ci (x y : Int) (w : World) (hx1 : -2147483648 ≤ x) (hx2 : x ≤ 2147483647) (hy1 : -2147483648 ≤ y) (hy2 : y ≤ 2147483647) (h0 : ¬ y = 0) :
  Calls Tryz.prog 85 #[.int .u8 9, .int .i32 x, .int .i32 y] w fun e w' => e = .returned (.tuple #[.int .i32 (wrap32 (x.tdiv y)), .int .i64 0]) ∧ w = w' := by
 have z : (y == 0) = false := by simpa using h0
 have tb := cO x y hx1 hx2
 obtain ⟨t1, t2⟩ := tb
 go_enter Tryz.func85, Tryz.ntmps85
 go_wp2_with (go_at_call 107; refine (dQ _ _ TX TX).mono ?_; rintro e _ ⟨rfl, rfl⟩)
 all_goals
  go_ret2
  exact ⟨rfl, rfl⟩
theorem zz (x y : Int) (w : World) (hx1 : -2147483648 ≤ x) (hx2 : x ≤ 2147483647) (hy1 : -2147483648 ≤ y) (hy2 : y ≤ 2147483647) (h0 : ¬ y = 0) :
  Calls Tryz.prog 85 #[.int .u8 10, .int .i32 x, .int .i32 y] w fun e w' => e = .returned (.tuple #[.int .i32 (x.tmod y), .int .i64 0]) ∧ w = w' := by
 have z : (y == 0) = false := by simpa using h0
 have tb := cO x y hx1 hx2
 obtain ⟨t1, t2⟩ := tb
 go_enter Tryz.func85, Tryz.ntmps85
 go_wp2_with fail
 refine (dQ _ _ TX TX).mono ?_
 rintro e _ ⟨rfl, rfl⟩
 have hw := gA (x.tdiv y)
 have MW := UZ (Cv ⟨hx1, hx2⟩ ⟨hy1, hy2⟩ h0)
 obtain ⟨q, hq⟩ : ∃ q, wrap32 (x.tdiv y) = q := ⟨_, rfl⟩
 rw [hq] at hw MW ⊢
 clear hq
 obtain ⟨w1, w2⟩ := hw
 have hm := fD w1 w2 hy1 hy2
 obtain ⟨m1, m2⟩ := hm
 go_wp2_with fail
 refine (dQ _ _ TX TX).mono ?_
 rintro e _ ⟨rfl, rfl⟩
 go_wp2
 all_goals
  go_ret2
  exact ⟨by rw [MW.out]; rfl, rfl⟩
theorem zw (x y : Int) (w : World) (hx1 : -2147483648 ≤ x) (hx2 : x ≤ 2147483647) (hy1 : -2147483648 ≤ y) (hy2 : y ≤ 2147483647) :
  Calls Tryz.prog 85 #[.int .u8 11, .int .i32 x, .int .i32 y] w fun e w' => e = .returned (.tuple #[.int .i32 (wv 11 x y), .int .i64 0]) ∧ w = w' := by
 go_enter Tryz.func85, Tryz.ntmps85
 go_wp2_with (go_at_call 108; refine (Cg _ _ _ ⟨hx1, hx2⟩ ⟨hy1, hy2⟩).mono ?_; rintro e _ ⟨rfl, rfl⟩)
 all_goals
  go_ret2
  exact ⟨rfl, rfl⟩
theorem zv (x y : Int) (w : World) (hx1 : -2147483648 ≤ x) (hx2 : x ≤ 2147483647) (hy1 : -2147483648 ≤ y) (hy2 : y ≤ 2147483647) :
  Calls Tryz.prog 85 #[.int .u8 12, .int .i32 x, .int .i32 y] w fun e w' => e = .returned (.tuple #[.int .i32 (wv 12 x y), .int .i64 0]) ∧ w = w' := by
 go_enter Tryz.func85, Tryz.ntmps85
 go_wp2_with (go_at_call 108; refine (Cf _ _ _ ⟨hx1, hx2⟩ ⟨hy1, hy2⟩).mono ?_; rintro e _ ⟨rfl, rfl⟩)
 all_goals
  go_ret2
  exact ⟨rfl, rfl⟩
theorem zu (x y : Int) (w : World) (hx1 : -2147483648 ≤ x) (hx2 : x ≤ 2147483647) (hy1 : -2147483648 ≤ y) (hy2 : y ≤ 2147483647) :
  Calls Tryz.prog 85 #[.int .u8 13, .int .i32 x, .int .i32 y] w fun e w' => e = .returned (.tuple #[.int .i32 (wv 13 x y), .int .i64 0]) ∧ w = w' := by
 go_enter Tryz.func85, Tryz.ntmps85
 go_wp2_with (go_at_call 108; refine (Ce _ _ _ ⟨hx1, hx2⟩ ⟨hy1, hy2⟩).mono ?_; rintro e _ ⟨rfl, rfl⟩)
 all_goals
  go_ret2
  exact ⟨rfl, rfl⟩
theorem zq (x y : Int) (w : World) (hx1 : -2147483648 ≤ x) (hx2 : x ≤ 2147483647) (hy1 : -2147483648 ≤ y) (hy2 : y ≤ 2147483647) :
  Calls Tryz.prog 85 #[.int .u8 14, .int .i32 x, .int .i32 y] w fun e w' => e = .returned (.tuple #[.int .i32 (wrap32 (x * 2 ^ (y % 32).toNat)), .int .i64 0]) ∧ w = w' := by
 go_enter Tryz.func85, Tryz.ntmps85
 go_wp2_with (first | (go_at_call 110; refine (oQ _ _ ⟨hy1, hy2⟩).mono ?_; rintro e _ ⟨rfl, rfl⟩) | (go_at_call 109; refine (tR _ _ _ ⟨hx1, hx2⟩ TX TX).mono ?_; rintro e _ ⟨rfl, rfl⟩))
 all_goals
  go_ret2
  exact ⟨rfl, rfl⟩
theorem zo (x y : Int) (w : World) (hx1 : -2147483648 ≤ x) (hx2 : x ≤ 2147483647) (hy1 : -2147483648 ≤ y) (hy2 : y ≤ 2147483647) :
  Calls Tryz.prog 85 #[.int .u8 15, .int .i32 x, .int .i32 y] w fun e w' => e = .returned (.tuple #[.int .i32 (x / 2 ^ (y % 32).toNat), .int .i64 0]) ∧ w = w' := by
 go_enter Tryz.func85, Tryz.ntmps85
 go_wp2_with (first | (go_at_call 110; refine (oQ _ _ ⟨hy1, hy2⟩).mono ?_; rintro e _ ⟨rfl, rfl⟩) | (go_at_call 109; refine (r8 _ _ _ ⟨hx1, hx2⟩ TX TX).mono ?_; rintro e _ ⟨rfl, rfl⟩))
 all_goals
  go_ret2
  exact ⟨rfl, rfl⟩
theorem zn (x y : Int) (w : World) (hx1 : -2147483648 ≤ x) (hx2 : x ≤ 2147483647) (hy1 : -2147483648 ≤ y) (hy2 : y ≤ 2147483647) :
  Calls Tryz.prog 85 #[.int .u8 16, .int .i32 x, .int .i32 y] w fun e w' => e = .returned (.tuple #[.int .i32 (ku (x == y)), .int .i64 0]) ∧ w = w' := by
 go_enter Tryz.func85, Tryz.ntmps85
 go_wp2_with (go_at_call 111; refine (dz _ _).mono ?_; rintro e _ ⟨rfl, rfl⟩)
 all_goals
  go_ret2
  exact ⟨rfl, rfl⟩
theorem zm (x y : Int) (w : World) (hx1 : -2147483648 ≤ x) (hx2 : x ≤ 2147483647) (hy1 : -2147483648 ≤ y) (hy2 : y ≤ 2147483647) :
  Calls Tryz.prog 85 #[.int .u8 17, .int .i32 x, .int .i32 y] w fun e w' => e = .returned (.tuple #[.int .i32 (ku (x != y)), .int .i64 0]) ∧ w = w' := by
 go_enter Tryz.func85, Tryz.ntmps85
 go_wp2_with (go_at_call 111; refine (dz _ _).mono ?_; rintro e _ ⟨rfl, rfl⟩)
 all_goals
  go_ret2
  exact ⟨rfl, rfl⟩
theorem zk (x y : Int) (w : World) (hx1 : -2147483648 ≤ x) (hx2 : x ≤ 2147483647) (hy1 : -2147483648 ≤ y) (hy2 : y ≤ 2147483647) :
  Calls Tryz.prog 85 #[.int .u8 18, .int .i32 x, .int .i32 y] w fun e w' => e = .returned (.tuple #[.int .i32 (ku (decide (x < y))), .int .i64 0]) ∧ w = w' := by
 go_enter Tryz.func85, Tryz.ntmps85
 go_wp2_with (go_at_call 111; refine (dz _ _).mono ?_; rintro e _ ⟨rfl, rfl⟩)
 all_goals
  go_ret2
  exact ⟨rfl, rfl⟩
theorem zj (x y : Int) (w : World) (hx1 : -2147483648 ≤ x) (hx2 : x ≤ 2147483647) (hy1 : -2147483648 ≤ y) (hy2 : y ≤ 2147483647) :
  Calls Tryz.prog 85 #[.int .u8 19, .int .i32 x, .int .i32 y] w fun e w' => e = .returned (.tuple #[.int .i32 (ku (decide (x ≤ y))), .int .i64 0]) ∧ w = w' := by
 go_enter Tryz.func85, Tryz.ntmps85
 go_wp2_with (go_at_call 111; refine (dz _ _).mono ?_; rintro e _ ⟨rfl, rfl⟩)
 all_goals
  go_ret2
  exact ⟨rfl, rfl⟩
theorem zi (x y : Int) (w : World) (hx1 : -2147483648 ≤ x) (hx2 : x ≤ 2147483647) (hy1 : -2147483648 ≤ y) (hy2 : y ≤ 2147483647) :
  Calls Tryz.prog 85 #[.int .u8 20, .int .i32 x, .int .i32 y] w fun e w' => e = .returned (.tuple #[.int .i32 (ku (decide (y < x))), .int .i64 0]) ∧ w = w' := by
 go_enter Tryz.func85, Tryz.ntmps85
 go_wp2_with (go_at_call 111; refine (dz _ _).mono ?_; rintro e _ ⟨rfl, rfl⟩)
 all_goals
  go_ret2
  exact ⟨rfl, rfl⟩
theorem zg (x y : Int) (w : World) (hx1 : -2147483648 ≤ x) (hx2 : x ≤ 2147483647) (hy1 : -2147483648 ≤ y) (hy2 : y ≤ 2147483647) :
  Calls Tryz.prog 85 #[.int .u8 21, .int .i32 x, .int .i32 y] w fun e w' => e = .returned (.tuple #[.int .i32 (ku (decide (y ≤ x))), .int .i64 0]) ∧ w = w' := by
 go_enter Tryz.func85, Tryz.ntmps85
 go_wp2_with (go_at_call 111; refine (dz _ _).mono ?_; rintro e _ ⟨rfl, rfl⟩)
 all_goals
  go_ret2
  exact ⟨rfl, rfl⟩
theorem ug (x y : Int) (w : World) (hx1 : -2147483648 ≤ x) (hx2 : x ≤ 2147483647) (hy1 : -2147483648 ≤ y) (hy2 : y ≤ 2147483647) (z : (x != 0) = true) :
  Calls Tryz.prog 85 #[.int .u8 22, .int .i32 x, .int .i32 y] w fun e w' => e = .returned (.tuple #[.int .i32 (ku (x != 0 && y != 0)), .int .i64 0]) ∧ w = w' := by
 have z0 : (x == 0) = false := by simpa using z
 go_enter Tryz.func85, Tryz.ntmps85
 go_wp2_with (go_at_call 111; refine (dz _ _).mono ?_; rintro e _ ⟨rfl, rfl⟩)
 all_goals
  go_ret2
  exact ⟨by simp only [z]; simp, rfl⟩
theorem uh (x y : Int) (w : World) (hx1 : -2147483648 ≤ x) (hx2 : x ≤ 2147483647) (hy1 : -2147483648 ≤ y) (hy2 : y ≤ 2147483647) (z : (x != 0) = false) :
  Calls Tryz.prog 85 #[.int .u8 22, .int .i32 x, .int .i32 y] w fun e w' => e = .returned (.tuple #[.int .i32 (ku (x != 0 && y != 0)), .int .i64 0]) ∧ w = w' := by
 have z0 : (x == 0) = true := by simpa using z
 go_enter Tryz.func85, Tryz.ntmps85
 go_wp2_with (go_at_call 111; refine (dz _ _).mono ?_; rintro e _ ⟨rfl, rfl⟩)
 all_goals
  go_ret2
  exact ⟨by simp only [z]; simp, rfl⟩
theorem zf (x y : Int) (w : World) (hx1 : -2147483648 ≤ x) (hx2 : x ≤ 2147483647) (hy1 : -2147483648 ≤ y) (hy2 : y ≤ 2147483647) :
  Calls Tryz.prog 85 #[.int .u8 22, .int .i32 x, .int .i32 y] w fun e w' => e = .returned (.tuple #[.int .i32 (ku (x != 0 && y != 0)), .int .i64 0]) ∧ w = w' := by
 cases z : (x != 0)
 ·have h := uh x y w hx1 hx2 hy1 hy2 z
  rw [z] at h
  exact h
 ·have h := ug x y w hx1 hx2 hy1 hy2 z
  rw [z] at h
  exact h
theorem ue (x y : Int) (w : World) (hx1 : -2147483648 ≤ x) (hx2 : x ≤ 2147483647) (hy1 : -2147483648 ≤ y) (hy2 : y ≤ 2147483647) (z : (x != 0) = true) :
  Calls Tryz.prog 85 #[.int .u8 23, .int .i32 x, .int .i32 y] w fun e w' => e = .returned (.tuple #[.int .i32 (ku (x != 0 || y != 0)), .int .i64 0]) ∧ w = w' := by
 have z0 : (x == 0) = false := by simpa using z
 go_enter Tryz.func85, Tryz.ntmps85
 go_wp2_with (go_at_call 111; refine (dz _ _).mono ?_; rintro e _ ⟨rfl, rfl⟩)
 all_goals
  go_ret2
  exact ⟨by simp only [z]; simp, rfl⟩
theorem uf (x y : Int) (w : World) (hx1 : -2147483648 ≤ x) (hx2 : x ≤ 2147483647) (hy1 : -2147483648 ≤ y) (hy2 : y ≤ 2147483647) (z : (x != 0) = false) :
  Calls Tryz.prog 85 #[.int .u8 23, .int .i32 x, .int .i32 y] w fun e w' => e = .returned (.tuple #[.int .i32 (ku (x != 0 || y != 0)), .int .i64 0]) ∧ w = w' := by
 have z0 : (x == 0) = true := by simpa using z
 go_enter Tryz.func85, Tryz.ntmps85
 go_wp2_with (go_at_call 111; refine (dz _ _).mono ?_; rintro e _ ⟨rfl, rfl⟩)
 all_goals
  go_ret2
  exact ⟨by simp only [z]; simp, rfl⟩
theorem ze (x y : Int) (w : World) (hx1 : -2147483648 ≤ x) (hx2 : x ≤ 2147483647) (hy1 : -2147483648 ≤ y) (hy2 : y ≤ 2147483647) :
  Calls Tryz.prog 85 #[.int .u8 23, .int .i32 x, .int .i32 y] w fun e w' => e = .returned (.tuple #[.int .i32 (ku (x != 0 || y != 0)), .int .i64 0]) ∧ w = w' := by
 cases z : (x != 0)
 ·have h := uf x y w hx1 hx2 hy1 hy2 z
  rw [z] at h
  exact h
 ·have h := ue x y w hx1 hx2 hy1 hy2 z
  rw [z] at h
  exact h
theorem wm (op x y : Int) (w : World) (hop : ¬ (6 ≤ op ∧ op ≤ 23)) :
  Calls Tryz.prog 85 #[.int .u8 op, .int .i32 x, .int .i32 y] w fun e w' => e = .returned (.tuple #[.int .i32 0, .int .i64 1]) ∧ w = w' := by
 have n6 : (op == 6) = false := by simp; omega
 have n7 : (op == 7) = false := by simp; omega
 have n8 : (op == 8) = false := by simp; omega
 have n9 : (op == 9) = false := by simp; omega
 have n10 : (op == 10) = false := by simp; omega
 have n11 : (op == 11) = false := by simp; omega
 have n12 : (op == 12) = false := by simp; omega
 have n13 : (op == 13) = false := by simp; omega
 have n14 : (op == 14) = false := by simp; omega
 have n15 : (op == 15) = false := by simp; omega
 have n16 : (op == 16) = false := by simp; omega
 have n17 : (op == 17) = false := by simp; omega
 have n18 : (op == 18) = false := by simp; omega
 have n19 : (op == 19) = false := by simp; omega
 have n20 : (op == 20) = false := by simp; omega
 have n21 : (op == 21) = false := by simp; omega
 have n22 : (op == 22) = false := by simp; omega
 have n23 : (op == 23) = false := by simp; omega
 clear hop
 go_enter Tryz.func85, Tryz.ntmps85
 go_wp2
 go_ret2
 exact ⟨rfl, rfl⟩
theorem kH (op x y : Int) (w : World) (hx : aK x) (hy : aK y) :
  Calls Tryz.prog 85 #[.int .u8 op, .int .i32 x, .int .i32 y] w fun e w' => e = .returned (.tuple #[.int .i32 (wv op x y), .int .i64 (we op y)]) ∧ w = w' := by
 obtain ⟨hx1, hx2⟩ := hx
 obtain ⟨hy1, hy2⟩ := hy
 by_cases hop : 6 ≤ op ∧ op ≤ 23
 ·have h : op = 6 ∨ op = 7 ∨ op = 8 ∨ op = 9 ∨ op = 10 ∨ op = 11 ∨ op = 12 ∨ op = 13 ∨ op = 14 ∨ op = 15 ∨ op = 16 ∨ op = 17 ∨ op = 18 ∨ op = 19 ∨ op = 20 ∨ op = 21 ∨ op = 22 ∨ op = 23 := by omega
  rcases h with rfl | rfl | rfl | rfl | rfl | rfl | rfl | rfl | rfl | rfl | rfl | rfl | rfl | rfl | rfl | rfl | rfl | rfl
  ·exact Cl x y w hx1 hx2 hy1 hy2
  ·exact Ck x y w hx1 hx2 hy1 hy2
  ·exact Cj x y w hx1 hx2 hy1 hy2
  ·by_cases h0 : y = 0
   ·refine (zb x y w hx1 hx2 hy1 hy2 h0).mono fun e w' ⟨he, hw⟩ => ⟨?_, hw⟩
    rw [he]
    simp [wv, we, h0]
   ·refine (Ci x y w hx1 hx2 hy1 hy2 h0).mono fun e w' ⟨he, hw⟩ => ⟨?_, hw⟩
    rw [he]
    simp [wv, we, h0]
  ·by_cases h0 : y = 0
   ·refine (wq x y w hx1 hx2 hy1 hy2 h0).mono fun e w' ⟨he, hw⟩ => ⟨?_, hw⟩
    rw [he]
    simp [wv, we, h0]
   ·refine (zz x y w hx1 hx2 hy1 hy2 h0).mono fun e w' ⟨he, hw⟩ => ⟨?_, hw⟩
    rw [he]
    simp [wv, we, h0]
  ·exact zw x y w hx1 hx2 hy1 hy2
  ·exact zv x y w hx1 hx2 hy1 hy2
  ·exact zu x y w hx1 hx2 hy1 hy2
  ·exact zq x y w hx1 hx2 hy1 hy2
  ·exact zo x y w hx1 hx2 hy1 hy2
  ·exact zn x y w hx1 hx2 hy1 hy2
  ·exact zm x y w hx1 hx2 hy1 hy2
  ·exact zk x y w hx1 hx2 hy1 hy2
  ·exact zj x y w hx1 hx2 hy1 hy2
  ·exact zi x y w hx1 hx2 hy1 hy2
  ·exact zg x y w hx1 hx2 hy1 hy2
  ·exact zf x y w hx1 hx2 hy1 hy2
  ·exact ze x y w hx1 hx2 hy1 hy2
 ·refine (wm op x y w hop).mono fun e w' ⟨he, hw⟩ => ⟨?_, hw⟩
  rw [he]
  have e1 : wv op x y = 0 := by
   unfold wv
   iterate 18 rw [if_neg TX]
  have e2 : we op y = 1 := by unfold we; rw [if_neg hop]
  rw [e1, e2]
end
section
open Go.RowKit
theorem cH  (w : World) :
  Calls Tryz.prog 46 #[] w fun e w' => e = .returned (.agg #[.int .i32 (-2147483648), .int .i32 2147483647]) ∧ Below w.heap.size w w' := by
 go_enter Tryz.func46, Tryz.ntmps46
 go_wp2
 all_goals
  refine bodyPost_ret (v := .agg #[.int .i32 (-2147483648), .int .i32 2147483647]) ?hr rfl ⟨rfl, ?aB⟩
  case hr =>
   simp [results, Tryz.results46, go_sem]
  case aB =>
   exact UX
theorem cF  (w : World) :
  Calls Tryz.prog 51 #[] w fun e w' => e = .returned (.agg #[.int .i32 1, .int .i32 0]) ∧ Below w.heap.size w w' := by
 go_enter Tryz.func51, Tryz.ntmps51
 go_wp2
 all_goals
  refine bodyPost_ret (v := .agg #[.int .i32 1, .int .i32 0]) ?hr rfl ⟨rfl, ?aB⟩
  case hr =>
   simp [results, Tryz.results51, go_sem]
  case aB =>
   exact UX
theorem bJ (xl xh : Int) (w : World) :
  Calls Tryz.prog 83 #[.agg #[.int .i32 xl, .int .i32 xh]] w fun e w' => e = .returned (.bool (decide (xh < xl))) ∧ Below w.heap.size w w' := by
 go_enter Tryz.func83, Tryz.ntmps83
 go_wp2
 all_goals
  go_ret
  refine ⟨rfl, ?_⟩
  exact UX
theorem aN (xl xh : Int) (w : World) :
  Calls Tryz.prog 84 #[.agg #[.int .i32 xl, .int .i32 xh]] w fun e w' => e = .returned (.bool (xl == xh)) ∧ Below w.heap.size w w' := by
 go_enter Tryz.func84, Tryz.ntmps84
 go_wp2
 all_goals
  go_ret
  refine ⟨rfl, ?_⟩
  exact UX
theorem dG (xl xh n : Int) (w : World) :
  Calls Tryz.prog 93 #[.agg #[.int .i32 xl, .int .i32 xh], .int .i32 n] w fun e w' => e = .returned (.bool (decide (xl ≤ n) && decide (n ≤ xh))) ∧ Below w.heap.size w w' := by
 by_cases h1 : xl ≤ n
 ·have d1 : decide (xl ≤ n) = true := by simpa using h1
  go_enter Tryz.func93, Tryz.ntmps93
  go_wp2
  all_goals
   go_ret
   refine ⟨by simp [d1], ?_⟩
   exact UX
 ·have d1 : decide (xl ≤ n) = false := by simpa using h1
  go_enter Tryz.func93, Tryz.ntmps93
  go_wp2
  all_goals
   go_ret
   refine ⟨by simp, ?_⟩
   exact UX
theorem fY (a b : Int) (w : World) : Calls Tryz.prog 112 #[.int .i64 a, .int .i64 b] w fun e w' => e = .returned (.int .i64 (min a b)) ∧ w = w' := by
 go_enter Tryz.func112, Tryz.ntmps112
 go_wp2
 all_goals
  go_ret
  exact ⟨fj TX, rfl⟩
theorem gW (a b : Int) (w : World) : Calls Tryz.prog 113 #[.int .i64 a, .int .i64 b] w fun e w' => e = .returned (.int .i64 (max a b)) ∧ w = w' := by
 go_enter Tryz.func113, Tryz.ntmps113
 go_wp2
 all_goals
  go_ret
  exact ⟨fj TX, rfl⟩
theorem qq  (w : World) :
  Calls Tryz.prog 92 #[.bool true, .bool true] w fun e w' => e = .returned (.agg #[.int .i32 (eH true true).1, .int .i32 (eH true true).2]) ∧ Below w.heap.size w w' := by
 go_enter Tryz.func92, Tryz.ntmps92
 go_wp2
 all_goals
  refine bodyPost_ret (v := .agg #[.int .i32 (eH true true).1, .int .i32 (eH true true).2]) ?hr rfl ⟨rfl, ?aB⟩
  case hr =>
   simp [eH, results, Tryz.results92, go_sem]
  case aB =>
   exact UX
theorem oK  (w : World) :
  Calls Tryz.prog 92 #[.bool true, .bool false] w fun e w' => e = .returned (.agg #[.int .i32 (eH true false).1, .int .i32 (eH true false).2]) ∧ Below w.heap.size w w' := by
 go_enter Tryz.func92, Tryz.ntmps92
 go_wp2
 all_goals
  refine bodyPost_ret (v := .agg #[.int .i32 (eH true false).1, .int .i32 (eH true false).2]) ?hr rfl ⟨rfl, ?aB⟩
  case hr =>
   simp [eH, results, Tryz.results92, go_sem]
  case aB =>
   exact UX
theorem oL  (w : World) :
  Calls Tryz.prog 92 #[.bool false, .bool true] w fun e w' => e = .returned (.agg #[.int .i32 (eH false true).1, .int .i32 (eH false true).2]) ∧ Below w.heap.size w w' := by
 go_enter Tryz.func92, Tryz.ntmps92
 go_wp2
 all_goals
  refine bodyPost_ret (v := .agg #[.int .i32 (eH false true).1, .int .i32 (eH false true).2]) ?hr rfl ⟨rfl, ?aB⟩
  case hr =>
   simp [eH, results, Tryz.results92, go_sem]
  case aB =>
   exact UX
theorem nK  (w : World) :
  Calls Tryz.prog 92 #[.bool false, .bool false] w fun e w' => e = .returned (.agg #[.int .i32 (eH false false).1, .int .i32 (eH false false).2]) ∧ Below w.heap.size w w' := by
 go_enter Tryz.func92, Tryz.ntmps92
 go_wp2
 all_goals
  refine bodyPost_ret (v := .agg #[.int .i32 (eH false false).1, .int .i32 (eH false false).2]) ?hr rfl ⟨rfl, ?aB⟩
  case hr =>
   simp [eH, results, Tryz.results92, go_sem]
  case aB =>
   exact UX
theorem od (a n : Bool) (w : World) : Calls Tryz.prog 92 #[.bool a, .bool n] w fun e w' => e = .returned (.agg #[.int .i32 (eH a n).1, .int .i32 (eH a n).2]) ∧ Below w.heap.size w w' := by
 cases a <;> cases n
 ·exact nK w
 ·exact oL w
 ·exact oK w
 ·exact qq w
theorem Cb (a b : Int) (w : World) (ha1 : -2147483648 ≤ a) (ha2 : a ≤ 2147483647) (hb1 : -2147483648 ≤ b) (hb2 : b ≤ 2147483647) : Calls Tryz.prog 114 #[.int .u8 6, .int .i64 a, .int .i64 b] w fun e w' => e = .returned (.int .i64 (a + b)) ∧ w = w' := by
 go_enter Tryz.func114, Tryz.ntmps114
 go_wp2
 all_goals
  go_ret
  exact ⟨rfl, rfl⟩
theorem Ca (a b : Int) (w : World) (ha1 : -2147483648 ≤ a) (ha2 : a ≤ 2147483647) (hb1 : -2147483648 ≤ b) (hb2 : b ≤ 2147483647) : Calls Tryz.prog 114 #[.int .u8 7, .int .i64 a, .int .i64 b] w fun e w' => e = .returned (.int .i64 (a - b)) ∧ w = w' := by
 go_enter Tryz.func114, Tryz.ntmps114
 go_wp2
 all_goals
  go_ret
  exact ⟨rfl, rfl⟩
theorem B9 (a b : Int) (w : World) (ha1 : -2147483648 ≤ a) (ha2 : a ≤ 2147483647) (hb1 : -2147483648 ≤ b) (hb2 : b ≤ 2147483647) : Calls Tryz.prog 114 #[.int .u8 8, .int .i64 a, .int .i64 b] w fun e w' => e = .returned (.int .i64 (a * b)) ∧ w = w' := by
 have hm := fD ha1 ha2 hb1 hb2
 obtain ⟨m1, m2⟩ := hm
 go_enter Tryz.func114, Tryz.ntmps114
 go_wp2
 all_goals
  go_ret
  exact ⟨rfl, rfl⟩
theorem B8 (a b : Int) (w : World) (ha1 : -2147483648 ≤ a) (ha2 : a ≤ 2147483647) (hb1 : -2147483648 ≤ b) (hb2 : b ≤ 2147483647) (h0 : ¬ b = 0) : Calls Tryz.prog 114 #[.int .u8 9, .int .i64 a, .int .i64 b] w fun e w' => e = .returned (.int .i64 (a.tdiv b)) ∧ w = w' := by
 have z : (b == 0) = false := by simpa using h0
 have tb := cO a b ha1 ha2
 obtain ⟨t1, t2⟩ := tb
 go_enter Tryz.func114, Tryz.ntmps114
 go_wp2
 all_goals
  go_ret
  exact ⟨rfl, rfl⟩
theorem gX (g cap : Nat) (l : List Int) (w : World) (hl : 1 ≤ l.length) (hl' : l.length ≤ 1000) (hg : g < w.heap.size) (hc : ∀ i, i < l.length → w.cell? ⟨g, i, none⟩ = some (.int .i64 (nth l i))) :
  Calls Tryz.prog 86 #[.slice (some ⟨g, 0, none⟩) l.length cap] w fun e w' => e = .returned (.agg #[.int .i32 (aA l).1, .int .i32 (aA l).2]) ∧ Below w.heap.size w w' := by
 have c0 := hc 0 TX
 have hl0 : (0 : Int) < (l.length : Int) := by omega
 have HC := UZ hc
 clear hc
 go_enter Tryz.func86, Tryz.ntmps86
 go_wp2_with fail
 go_loop [3, 4, 5] (fun a b i => ∃ k : Nat, k ≤ l.length ∧ i = .int .i64 k ∧ a = .int .i64 ((l.take k).foldl min (nth l 0)) ∧ b = .int .i64 ((l.take k).foldl max (nth l 0))) (fun _ _ i => l.length - (intOf i).toNat)
 case atStart => exact ⟨0, by omega, rfl, rfl, rfl⟩
 case round =>
  obtain ⟨k, hk, rfl, rfl, rfl⟩ := hrel
  by_cases hlt : k < l.length
  ·have ck := HC.out k hlt
   have s1 := UZ (iX min l (nth l 0) k hlt)
   have s2 := UZ (iX max l (nth l 0) k hlt)
   have hlt' : (k : Int) < (l.length : Int) := by omega
   go_wp2_with (first | (go_at_call 112; refine (fY _ _ _).mono ?_; rintro e _ ⟨rfl, rfl⟩) | (go_at_call 113; refine (gW _ _ _).mono ?_; rintro e _ ⟨rfl, rfl⟩))
   all_goals
    go_round
    case rel => exact ⟨k + 1, by omega, by go_num, int_eq (by rw [s1.out]), int_eq (by rw [s2.out])⟩
    case measure => simp [intOf]; omega
  ·have ek : l.take k = l := List.take_of_length_le TX
   rw [ek]
   have hge : ¬ ((k : Int) < (l.length : Int)) := by omega
   clear HC
   have e1 : l.foldl min (nth l 0) = wK l := rfl
   have e2 : l.foldl max (nth l 0) = wS l := rfl
   rw [e1, e2]
   have hle := o6 l
   by_cases h1 : wK l < -2147483648
   ·have d1 := decide_eq_true h1
    have HV := UZ (show aA l = (-2147483648, 2147483647) by unfold aA; rw [if_pos (.inl h1)])
    clear ek e1 e2
    go_wp2_with (go_at_call 46; ((first | (with_reducible refine (Calls.au (cH _)).mono ?_) | (refine (Calls.ext (cH _)).mono ?_)); rintro e _ ⟨rfl, y, rfl⟩))
    all_goals
     refine bodyPost_ret (v := .agg #[.int .i32 (aA l).1, .int .i32 (aA l).2]) ?hr rfl ⟨rfl, ?aB⟩
     case hr =>
      rw [HV.out]
      simp [results, Tryz.results86, go_sem]
     case aB =>
      exact UX
   ·by_cases h2 : 2147483647 < wS l
    ·have d1 := decide_eq_false h1
     have d2 := decide_eq_true h2
     have HV := UZ (show aA l = (-2147483648, 2147483647) by unfold aA; rw [if_pos (.inr h2)])
     clear ek e1 e2
     go_wp2_with (go_at_call 46; ((first | (with_reducible refine (Calls.au (cH _)).mono ?_) | (refine (Calls.ext (cH _)).mono ?_)); rintro e _ ⟨rfl, y, rfl⟩))
     all_goals
      refine bodyPost_ret (v := .agg #[.int .i32 (aA l).1, .int .i32 (aA l).2]) ?hr rfl ⟨rfl, ?aB⟩
      case hr =>
       rw [HV.out]
       simp [results, Tryz.results86, go_sem]
      case aB =>
       exact UX
    ·have d1 := decide_eq_false h1
     have d2 := decide_eq_false h2
     have HV := UZ (show aA l = (wK l, wS l) by unfold aA; rw [if_neg TX])
     clear ek e1 e2
     go_wp2
     all_goals
      refine bodyPost_ret (v := .agg #[.int .i32 (aA l).1, .int .i32 (aA l).2]) ?hr rfl ⟨rfl, ?aB⟩
      case hr =>
       rw [HV.out]
       simp [results, Tryz.results86, go_sem]
      case aB =>
       exact UX
end
section
open Go.RowKit
theorem Cn (op a b c im : Int) (h0 : 0 ≤ op) (r : RG) (hr : R16 r) (w : World) (hv : aL ⟨op, a, b, c, im⟩ = false) :
  Calls Tryz.prog 18 #[.agg #[.int .u8 op, .int .i64 a, .int .i64 b, .int .i64 c, .int .i64 im], .agg (aa r).toArray] w fun e w' => e = .returned (.agg #[.int .i32 1, .int .i32 0]) ∧ Below w.heap.size w w' := by
 obtain ⟨V, hV, k0, k1, k2, bV, sV⟩ := aW w #[.int .u8 op, .int .i64 a, .int .i64 b, .int .i64 c, .int .i64 im] (aa r).toArray #[.int .i32 0, .int .i32 0] 64 61 58
 obtain ⟨a0, a1, a2, a3, a4, lV⟩ := aG k0
 have dI := UZ (show ∀ W, Calls Tryz.prog 40 #[.agg #[.int .u8 op, .int .i64 a, .int .i64 b, .int .i64 c, .int .i64 im]] W (fun e w' => e = .returned (.bool false) ∧ Below W.heap.size W w') from fun W => by have h := eN ⟨op, a, b, c, im⟩ h0 W; rw [hv] at h; exact h)
 have K1 := UZ (show aC V (w.heap.size + 1) 61 r from k1)
 have tu := UZ (show ∀ w', (∃ x : Ext V, w' = x.w) → w'.rangeAt w.heap.size 0 [.int .u8 op, .int .i64 a, .int .i64 b, .int .i64 c, .int .i64 im] from by rintro _ ⟨x, rfl⟩; exact aq ((x.h.block _ lV).trans k0))
 obtain ⟨o0, o1, f0, f1, lO⟩ := dA k2
 have BV := UZ bV
 clear k0 k1 k2 bV
 clear hv
 go_enter Tryz.func18, Tryz.ntmps18
 go_upto_region 1 with fail
 clear hV
 refine ay TY TY ?_
 refine bH T8 _ _ rfl _ _ rfl _ _ tu.out Tryz.underlying64 rfl TY ?_
 (try simp only [U0, U3, U4, Act.put, U5, U6, U7])
 repeat (go_big_quiet_step ((go_at_call 40; exact Calls.au (dI.out _))))
 refine wpQuiet_nil ?_
 rintro _ ⟨x, rfl⟩
 go_wp2_with (go_at_call 51; ((first | (with_reducible refine (Calls.au (cF _)).mono ?_) | (refine (Calls.ext (cF _)).mono ?_)); rintro e _ ⟨rfl, y, rfl⟩))
 all_goals
  refine bodyPost_ret (v := _) ?hr rfl ⟨rfl, ?aB⟩
  case hr =>
   simp [results, Tryz.results18, go_sem, o0, o1, lO]
  case aB =>
   exact Below.setCell (Below.setCell (BV.out.trans (y.h.mono BV.out.size)) Ue _) Ue _
theorem Cm (op a b c im : Int) (h0 : 0 ≤ op) (r : RG) (hr : R16 r) (w : World) (hv : aL ⟨op, a, b, c, im⟩ = true) (ho : ¬ (op = 18 ∨ op = 19 ∨ op = 20 ∨ op = 21)) :
  Calls Tryz.prog 18 #[.agg #[.int .u8 op, .int .i64 a, .int .i64 b, .int .i64 c, .int .i64 im], .agg (aa r).toArray] w fun e w' => e = .returned (.agg #[.int .i32 1, .int .i32 0]) ∧ Below w.heap.size w w' := by
 obtain ⟨V, hV, k0, k1, k2, bV, sV⟩ := aW w #[.int .u8 op, .int .i64 a, .int .i64 b, .int .i64 c, .int .i64 im] (aa r).toArray #[.int .i32 0, .int .i32 0] 64 61 58
 obtain ⟨a0, a1, a2, a3, a4, lV⟩ := aG k0
 have dI := UZ (show ∀ W, Calls Tryz.prog 40 #[.agg #[.int .u8 op, .int .i64 a, .int .i64 b, .int .i64 c, .int .i64 im]] W (fun e w' => e = .returned (.bool true) ∧ Below W.heap.size W w') from fun W => by have h := eN ⟨op, a, b, c, im⟩ h0 W; rw [hv] at h; exact h)
 have K1 := UZ (show aC V (w.heap.size + 1) 61 r from k1)
 have tu := UZ (show ∀ w', (∃ x : Ext V, w' = x.w) → w'.rangeAt w.heap.size 0 [.int .u8 op, .int .i64 a, .int .i64 b, .int .i64 c, .int .i64 im] from by rintro _ ⟨x, rfl⟩; exact aq ((x.h.block _ lV).trans k0))
 obtain ⟨o0, o1, f0, f1, lO⟩ := dA k2
 have BV := UZ bV
 clear k0 k1 k2 bV
 have e18 : (op != 18) = true := by simp; omega
 have e19 : (op != 19) = true := by simp; omega
 have e20 : (op != 20) = true := by simp; omega
 have e21 : (op != 21) = true := by simp; omega
 clear hv ho
 go_enter Tryz.func18, Tryz.ntmps18
 go_upto_region 1 with fail
 clear hV
 refine ay TY TY ?_
 refine bH T8 _ _ rfl _ _ rfl _ _ tu.out Tryz.underlying64 rfl TY ?_
 (try simp only [U0, U3, U4, Act.put, U5, U6, U7])
 repeat (go_big_quiet_step ((go_at_call 40; exact Calls.au (dI.out _))))
 refine wpQuiet_nil ?_
 rintro _ ⟨x, rfl⟩
 go_wp2_with (go_at_call 51; ((first | (with_reducible refine (Calls.au (cF _)).mono ?_) | (refine (Calls.ext (cF _)).mono ?_)); rintro e _ ⟨rfl, y, rfl⟩))
 all_goals
  refine bodyPost_ret (v := _) ?hr rfl ⟨rfl, ?aB⟩
  case hr =>
   simp [results, Tryz.results18, go_sem, o0, o1, lO]
  case aB =>
   exact Below.setCell (Below.setCell (BV.out.trans (y.h.mono BV.out.size)) Ue _) Ue _
theorem Co (op a c im : Int) (h0 : 0 ≤ op) (r : RG) (hr : R16 r) (w : World) (bn : Nat) (hb : bn < 16) (Ec : -131072 ≤ im ∧ im ≤ 131071) (hv : aL ⟨op, a, bn, c, im⟩ = true) (ho : op = 18 ∨ op = 19 ∨ op = 20 ∨ op = 21) :
  Calls Tryz.prog 18 #[.agg #[.int .u8 op, .int .i64 a, .int .i64 (bn : Int), .int .i64 c, .int .i64 im], .agg (aa r).toArray] w fun e w' => e = .returned (.agg #[.int .i32 (b8 ⟨op, a, bn, c, im⟩ r).1, .int .i32 (b8 ⟨op, a, bn, c, im⟩ r).2]) ∧ Below w.heap.size w w' := by
 have HAD := UZ (show b8 ⟨op, a, bn, c, im⟩ r = if emp (rg r bn) = true then (1, 0) else (cj ((rg r bn).1 + im), cj ((rg r bn).2 + im)) by
  unfold b8
  cases emp (rg r bn)
  ·rw [if_pos ⟨ho, hv, rfl⟩, if_neg T4]
  ·rw [if_neg T4, if_pos rfl])
 obtain ⟨V, hV, k0, k1, k2, bV, sV⟩ := aW w #[.int .u8 op, .int .i64 a, .int .i64 (bn : Int), .int .i64 c, .int .i64 im] (aa r).toArray #[.int .i32 0, .int .i32 0] 64 61 58
 obtain ⟨a0, a1, a2, a3, a4, lV⟩ := aG k0
 have dI := UZ (show ∀ W, Calls Tryz.prog 40 #[.agg #[.int .u8 op, .int .i64 a, .int .i64 (bn : Int), .int .i64 c, .int .i64 im]] W (fun e w' => e = .returned (.bool true) ∧ Below W.heap.size W w') from fun W => by have h := eN ⟨op, a, bn, c, im⟩ h0 W; rw [hv] at h; exact h)
 have K1 := UZ (show aC V (w.heap.size + 1) 61 r from k1)
 have tu := UZ (show ∀ w', (∃ x : Ext V, w' = x.w) → w'.rangeAt w.heap.size 0 [.int .u8 op, .int .i64 a, .int .i64 (bn : Int), .int .i64 c, .int .i64 im] from by rintro _ ⟨x, rfl⟩; exact aq ((x.h.block _ lV).trans k0))
 obtain ⟨o0, o1, f0, f1, lO⟩ := dA k2
 have BV := UZ bV
 clear k0 k1 k2 bV
 obtain ⟨bl, hbl⟩ : ∃ bl, (rg r (bn : Int)).1 = bl := ⟨_, rfl⟩
 obtain ⟨bh, C6⟩ : ∃ bh, (rg r (bn : Int)).2 = bh := ⟨_, rfl⟩
 have r0 : V.cell? ⟨w.heap.size + 1, bn * 2, none⟩ = some (.int .i32 bl) := by rw [← hbl]; exact K1.out.lo Uh
 have r1 : V.cell? ⟨w.heap.size + 1, bn * 2 + 1, none⟩ = some (.int .i32 bh) := by rw [← C6]; exact K1.out.hi Uh
 have vr := UZ (show rg r (bn : Int) = (bl, bh) from Prod.ext hbl C6)
 have eD : aK bl ∧ aK bh := by have h := hr.at_ (bn : Int); rw [vr.out] at h; exact h
 have ib : (bn : Int) < 16 := by omega
 have lR : w.heap.size + 1 < V.heap.size := by omega
 clear hbl C6
 rw [vr.out] at HAD
 clear hv
 by_cases he : bh < bl
 ·have d := decide_eq_true he
  rw [HAD.out, if_pos (show emp (bl, bh) = true by unfold emp; exact d)]
  clear he
  rcases ho with rfl | rfl | rfl | rfl
  all_goals
   go_enter Tryz.func18, Tryz.ntmps18
   go_upto_region 1 with fail
   clear hV
   refine ay TY TY ?_
   refine bH T8 _ _ rfl _ _ rfl _ _ tu.out Tryz.underlying64 rfl TY ?_
   (try simp only [U0, U3, U4, Act.put, U5, U6, U7])
   repeat (go_big_quiet_step ((go_at_call 40; exact Calls.au (dI.out _))))
   refine wpQuiet_nil ?_
   rintro _ ⟨x, rfl⟩
   go_wp2_with (go_at_call 51; ((first | (with_reducible refine (Calls.au (cF _)).mono ?_) | (refine (Calls.ext (cF _)).mono ?_)); rintro e _ ⟨rfl, y, rfl⟩))
   all_goals
    refine bodyPost_ret (v := _) ?hr rfl ⟨rfl, ?aB⟩
    case hr =>
     simp [results, Tryz.results18, go_sem, o0, o1, lO]
    case aB =>
     exact Below.setCell (Below.setCell (BV.out.trans (y.h.mono BV.out.size)) Ue _) Ue _
 ·have d := decide_eq_false he
  rw [HAD.out, if_neg (show ¬ emp (bl, bh) = true by unfold emp; simp only [d]; simp)]
  have w1 : wrap64 (wrap64 bl + im) = bl + im := by unfold aK at eD; unfold wrap64; omega
  have w2 : wrap64 (wrap64 bh + im) = bh + im := by unfold aK at eD; unfold wrap64; omega
  clear he eD
  rcases ho with rfl | rfl | rfl | rfl
  all_goals
   go_enter Tryz.func18, Tryz.ntmps18
   go_upto_region 1 with fail
   clear hV
   refine ay TY TY ?_
   refine bH T8 _ _ rfl _ _ rfl _ _ tu.out Tryz.underlying64 rfl TY ?_
   (try simp only [U0, U3, U4, Act.put, U5, U6, U7])
   repeat (go_big_quiet_step ((go_at_call 40; exact Calls.au (dI.out _))))
   refine wpQuiet_nil ?_
   rintro _ ⟨x, rfl⟩
   go_upto_region 3 with fail
   refine aT 23 TY TY ?_
   simp only [U8, List.take_zero, U9, List.drop_zero]
   repeat (go_big_quiet_step ((go_at_call 52; exact Calls.bO (y7 _ _))))
   refine wpQuiet_nil ?_
   rintro _ ⟨y, rfl⟩
   go_wp2_with fail
   refine bodyPost_ret (v := _) ?hr rfl ⟨rfl, ?aB⟩
   case hr =>
    simp [results, Tryz.results18, go_sem, o0, o1, lO, w1, w2]
   case aB =>
    exact Below.setCell (Below.setCell (BV.out.trans (y.h.mono BV.out.size)) Ue _) Ue _
theorem su (op a b c im : Int) (h0 : 0 ≤ op) (r : RG) (hr : R16 r) (w : World) :
  Calls Tryz.prog 18 #[.agg #[.int .u8 op, .int .i64 a, .int .i64 b, .int .i64 c, .int .i64 im], .agg (aa r).toArray] w fun e w' => e = .returned (.agg #[.int .i32 (b8 ⟨op, a, b, c, im⟩ r).1, .int .i32 (b8 ⟨op, a, b, c, im⟩ r).2]) ∧ Below w.heap.size w w' := by
 have hno : ∀ h : ¬ ((op = 18 ∨ op = 19 ∨ op = 20 ∨ op = 21) ∧ aL ⟨op, a, b, c, im⟩ = true), b8 ⟨op, a, b, c, im⟩ r = (1, 0) := fun h => by unfold b8; exact if_neg (fun h' => h ⟨h'.1, h'.2.1⟩)
 cases hv : aL ⟨op, a, b, c, im⟩
 ·rw [hno (by simp [hv])]
  exact Cn op a b c im h0 r hr w hv
 by_cases ho : op = 18 ∨ op = 19 ∨ op = 20 ∨ op = 21
 ·obtain ⟨k, g1, g2, ⟨a1, a2⟩, ⟨b1, b2⟩, ⟨c1, c2⟩, i1, i2⟩ := (dy (i := ⟨op, a, b, c, im⟩) h0).1 hv
  obtain ⟨s1, s2, s3, s4, s5⟩ := nZ k g2
  simp only at g1 a1 a2 b1 b2 c1 c2 i1 i2
  obtain ⟨bn, rfl⟩ : ∃ n : Nat, b = (n : Int) := ⟨b.toNat, by omega⟩
  exact Co op a c im h0 r hr w bn TX TX hv ho
 ·rw [hno (fun h => ho h.1)]
  exact Cm op a b c im h0 r hr w hv ho
end
section
open Go.RowKit
theorem xW : (Tryz.prog.info? 56).map (·.size) = some 32 := by kernel_rfl
theorem KL : (Tryz.prog.info? 59).map (·.size) = some 32 := by kernel_rfl
theorem JE {r : RG} {k : Nat} (hk : k < r.length) (w : World) : (part 58 (aa r).toArray (k * 2)).run Tryz.prog w = .ok (.agg #[.int .i32 (rg r (k : Int)).1, .int .i32 (rg r (k : Int)).2]) w := by
 have h1 : (isAgg 58).run Tryz.prog w = .ok true w := by kernel_rfl
 have h2 : (sizeOf 58).run Tryz.prog w = .ok 2 w := by kernel_rfl
 unfold part
 simp only [Sem.run_bind, h1, h2, Result.andThen_ok, if_true, Sem.run_pure]
 rw [pT hk]
theorem G2 {r : RG} (hr : r.length = 16) {k : Nat} (hk : k < 16) (w : World) : (Instr.index 59 (.agg (aa r).toArray) (.int .i64 (k : Int))).run Tryz.prog w = .ok (.agg #[.int .i32 (rg r (k : Int)).1, .int .i32 (rg r (k : Int)).2]) w := by
 have h2 : (sizeOf 58).run Tryz.prog w = .ok 2 w := by kernel_rfl
 have h3 : (0 : Int) ≤ k ∧ (k : Int) < ((16 : Nat) : Int) := by omega
 have h4 := JE (r := r) (k := k) TX w
 simp [Instr.index, run_underlying Tryz.underlying59, asIntOf, Sem.run_bind, h2, hk, h4]
theorem B7 {x z : RG} (hx : x.length = 16) (hz : z.length = 16) (h : ∀ j : Nat, j < 16 → rg z (j : Int) = rg x (j : Int)) : z = x := by
 apply List.ext_getElem?
 intro i
 by_cases hi : i < 16
 ·rw [fe TX, fe TX, h i hi]
 ·rw [List.getElem?_eq_none TX, List.getElem?_eq_none TX]
theorem qN (r : RG) (hr : r.length = 16) (w : World) : Calls Tryz.prog 11 #[.agg (aa r).toArray] w fun e w' => e = .returned (.agg (aa r).toArray) ∧ Below w.heap.size w w' := by
 obtain ⟨V, hV, k0, k1, k2, bV, sV⟩ := aW w (aa r).toArray Va.toArray Va.toArray 61 56 56
 have K0 := UZ (show aC V w.heap.size 61 r from k0)
 have K1 := UZ (show V.heap[(w.heap.size + 1)]? = some (.cells (aa ak).toArray 56 (0, 0)) from k1)
 have K2 := UZ (show aC V (w.heap.size + 1 + 1) 56 ak from k2)
 have BV := UZ bV
 have HR := UZ hr
 have l0 : w.heap.size < V.heap.size := by omega
 clear k0 k1 k2 bV hr
 go_enter Tryz.func11, Tryz.ntmps11
 go_upto_region 3 with (refine wpList_load_mid rfl _ _ rfl _ _ rfl (aa r) _ K0.out.range Tryz.underlying59 rfl (rn KL HR.out) ?_)
 clear hV
 go_loopw [4, 5, 8] (fun _ _ a8 wr => ∃ k : Nat, ∃ z : RG, k ≤ 16 ∧ a8 = .int .i64 (k : Int) ∧ z.length = 16 ∧ (∀ j : Nat, j < k → rg z (j : Int) = rg r (j : Int)) ∧ Below (w.heap.size + 1 + 1) V wr ∧ aC wr (w.heap.size + 1 + 1) 56 z) (fun _ _ a8 _ => 16 - (intOf a8).toNat)
 case atStart => exact ⟨0, ak, by omega, rfl, rfl, fun j hj => by omega, Below.refl _ _, K2.out⟩
 case round =>
  obtain ⟨k, z, hk, rfl, hz, hall, hb, kz⟩ := hrel
  have HA := UZ hall
  have HB := UZ hb
  have HZ := UZ hz
  have Mm := hb.size
  have KZ := UZ kz
  have l3 := kz.lt
  clear hall hb hz
  by_cases hlt : k < 16
  ·have dl : decide ((k : Int) < 16) = true := decide_eq_true TX
   have ik : (k : Int) < 16 := by omega
   have hix := G2 HR.out hlt
   obtain ⟨lo, hlo⟩ : ∃ lo, (rg r (k : Int)).1 = lo := ⟨_, rfl⟩
   obtain ⟨hi, hhi⟩ : ∃ hi, (rg r (k : Int)).2 = hi := ⟨_, rfl⟩
   rw [hlo, hhi] at hix
   have HE := UZ (show rg r (k : Int) = (lo, hi) from Prod.ext hlo hhi)
   have f0 := kz.fz (k * 2)
   have f1 := kz.fz (k * 2 + 1)
   have z0 := kz.lo (k := k) Uz
   have z1 := kz.hi (k := k) Uz
   clear hlo hhi kz
   go_wp2_with fail
   go_roundw
   case rel =>
    refine ⟨k + 1, z.set k (lo, hi), by omega, by go_num, by rw [List.length_set]; exact HZ.out, fun j hj => ?_, ?_, ((KZ.out.set k (lo, hi)).keep ((Below.refl _ _).alloc (Nat.le_refl _) _))⟩
    ·by_cases hjk : j = k
     ·subst hjk
      rw [HE.out, fZ]
      simp [List.getD, show j < z.length by rw [HZ.out]; exact hlt]
     ·rw [← HA.out j TX, fZ, fZ]
      simp [List.getD, List.getElem?_set, Ne.symm hjk]
    ·exact (Below.setCell (p := ⟨(w.heap.size + 1 + 1), k * 2 + 1, none⟩) (Below.setCell (p := ⟨(w.heap.size + 1 + 1), k * 2, none⟩) HB.out (Nat.le_refl _) (.int .i32 lo)) (Nat.le_refl _) (.int .i32 hi)).alloc T9 _
   case measure => simp [intOf]; omega
  ·obtain rfl : k = 16 := by omega
   have he := B7 HR.out HZ.out HA.out
   subst he
   have KO := UZ ((HB.out.block _ TX).trans K1.out)
   clear kz
   go_wp2_with (first | (refine wpList_load_mid rfl _ _ rfl _ _ rfl (aa z) _ KZ.out.range Tryz.underlying56 rfl (rn xW HZ.out) ?_) | (refine wpList_store_row rfl 56 (.tmp 2) (.tmp 20) rfl (w.heap.size + 1) (aa z).toArray rfl rfl 56 _ KO.out (ra xW HZ.out) (hi6 HZ.out ag) (aj z) ?_))
   refine bodyPost_ret (aX (P := Tryz.prog) Tryz.results11 _ _ (w.heap.size + 1) (aa z) _ rfl (aq (setRow_heap _ _ _ _ _ _ KO.out)) Tryz.underlying56 rfl (rn xW HZ.out)) rfl ⟨rfl, below_setRow (BV.out.trans (HB.out.mono TX)) TX _⟩
theorem kA (r : RG) (hr : r.length = 16) (w : World) : Calls Tryz.prog 14 #[.agg (aa r).toArray] w fun e w' => e = .returned (.agg (aa r).toArray) ∧ Below w.heap.size w w' := by
 obtain ⟨V, hV, k0, k1, k2, bV, sV⟩ := aW w (aa r).toArray Va.toArray Va.toArray 56 61 61
 have K0 := UZ (show aC V w.heap.size 56 r from k0)
 have K1 := UZ (show V.heap[(w.heap.size + 1)]? = some (.cells (aa ak).toArray 61 (0, 0)) from k1)
 have K2 := UZ (show aC V (w.heap.size + 1 + 1) 61 ak from k2)
 have BV := UZ bV
 have HR := UZ hr
 have l0 : w.heap.size < V.heap.size := by omega
 clear k0 k1 k2 bV hr
 go_enter Tryz.func14, Tryz.ntmps14
 go_upto_region 3 with (refine wpList_load_mid rfl _ _ rfl _ _ rfl (aa r) _ K0.out.range Tryz.underlying56 rfl (rn xW HR.out) ?_)
 clear hV
 go_loopw [4, 5, 7] (fun _ _ a8 wr => ∃ k : Nat, ∃ z : RG, k ≤ 16 ∧ a8 = .int .i64 (k : Int) ∧ z.length = 16 ∧ (∀ j : Nat, j < k → rg z (j : Int) = rg r (j : Int)) ∧ Below (w.heap.size + 1 + 1) V wr ∧ aC wr (w.heap.size + 1 + 1) 61 z) (fun _ _ a8 _ => 16 - (intOf a8).toNat)
 case atStart => exact ⟨0, ak, by omega, rfl, rfl, fun j hj => by omega, Below.refl _ _, K2.out⟩
 case round =>
  obtain ⟨k, z, hk, rfl, hz, hall, hb, kz⟩ := hrel
  have HA := UZ hall
  have HB := UZ hb
  have HZ := UZ hz
  have Mm := hb.size
  have KZ := UZ kz
  have l3 := kz.lt
  clear hall hb hz
  by_cases hlt : k < 16
  ·have dl : decide ((k : Int) < 16) = true := decide_eq_true TX
   have ik : (k : Int) < 16 := by omega
   have hix := pF HR.out hlt
   obtain ⟨lo, hlo⟩ : ∃ lo, (rg r (k : Int)).1 = lo := ⟨_, rfl⟩
   obtain ⟨hi, hhi⟩ : ∃ hi, (rg r (k : Int)).2 = hi := ⟨_, rfl⟩
   rw [hlo, hhi] at hix
   have HE := UZ (show rg r (k : Int) = (lo, hi) from Prod.ext hlo hhi)
   have f0 := kz.fz (k * 2)
   have f1 := kz.fz (k * 2 + 1)
   have z0 := kz.lo (k := k) Uz
   have z1 := kz.hi (k := k) Uz
   clear hlo hhi kz
   go_wp2_with fail
   go_roundw
   case rel =>
    refine ⟨k + 1, z.set k (lo, hi), by omega, by go_num, by rw [List.length_set]; exact HZ.out, fun j hj => ?_, ?_, ((KZ.out.set k (lo, hi)).keep ((Below.refl _ _).alloc (Nat.le_refl _) _))⟩
    ·by_cases hjk : j = k
     ·subst hjk
      rw [HE.out, fZ]
      simp [List.getD, show j < z.length by rw [HZ.out]; exact hlt]
     ·rw [← HA.out j TX, fZ, fZ]
      simp [List.getD, List.getElem?_set, Ne.symm hjk]
    ·exact (Below.setCell (p := ⟨(w.heap.size + 1 + 1), k * 2 + 1, none⟩) (Below.setCell (p := ⟨(w.heap.size + 1 + 1), k * 2, none⟩) HB.out (Nat.le_refl _) (.int .i32 lo)) (Nat.le_refl _) (.int .i32 hi)).alloc T9 _
   case measure => simp [intOf]; omega
  ·obtain rfl : k = 16 := by omega
   have he := B7 HR.out HZ.out HA.out
   subst he
   have KO := UZ ((HB.out.block _ TX).trans K1.out)
   clear kz
   go_wp2_with (first | (refine wpList_load_mid rfl _ _ rfl _ _ rfl (aa z) _ KZ.out.range Tryz.underlying61 rfl (rn aZ HZ.out) ?_) | (refine wpList_store_row rfl 61 (.tmp 2) (.tmp 20) rfl (w.heap.size + 1) (aa z).toArray rfl rfl 61 _ KO.out (ra aZ HZ.out) (hi6 HZ.out ag) (aj z) ?_))
   refine bodyPost_ret (aX (P := Tryz.prog) Tryz.results14 _ _ (w.heap.size + 1) (aa z) _ rfl (aq (setRow_heap _ _ _ _ _ _ KO.out)) Tryz.underlying61 rfl (rn aZ HZ.out)) rfl ⟨rfl, below_setRow (BV.out.trans (HB.out.mono TX)) TX _⟩
end
end Go.Proofs.YtebklpnkcicpjaaGreatDoor
