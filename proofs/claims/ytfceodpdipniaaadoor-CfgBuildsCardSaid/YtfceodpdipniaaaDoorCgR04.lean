/-
  What is proved here: what the functions of ontimeref04 return.
-/
import Derived.Test.YtfceodpdipniaaaDoorCgCode
namespace Go.Proofs.YtfceodpdipniaaaDoor
open Go.RowKit
set_option linter.unusedVariables false
set_option linter.unusedSimpArgs false

def fStr (k : Nat) : List UInt8 := match shpOf k with | .non => [] | .abc => [65, 66, 67] | .abi => [65, 66] | .ai => [65] | .i => []
def fLo (k : Nat) : Int := if k < 14 then 1 else immLo k
def fHi (k : Nat) : Int := if k < 14 then 0 else immHi k
def FmtIs (op : Int) (k : Nat) : Prop := ∀ w : World, Calls Tryd.prog 59 #[.int .u8 op] w fun e w' => e = .returned (.tuple #[.string ⟨(fStr k).toArray⟩, .int .i64 (fLo k), .int .i64 (fHi k), .bool true]) ∧ w = w'

set_option maxHeartbeats 1000000 in
theorem format_0 : FmtIs 0 0 := by
  intro w
  go_enter Tryd.func59, Tryd.ntmps59
  go_wp2_with fail
  refine bodyPost_ret (v := .tuple #[.string ⟨(fStr 0).toArray⟩, .int .i64 (fLo 0), .int .i64 (fHi 0), .bool true]) (by simp [results, Tryd.results59, go_sem, *]; first | done | decide) rfl ⟨rfl, by first | rfl | trivial⟩
set_option maxHeartbeats 1000000 in
theorem format_1 : FmtIs 1 1 := by
  intro w
  go_enter Tryd.func59, Tryd.ntmps59
  go_wp2_with fail
  refine bodyPost_ret (v := .tuple #[.string ⟨(fStr 1).toArray⟩, .int .i64 (fLo 1), .int .i64 (fHi 1), .bool true]) (by simp [results, Tryd.results59, go_sem, *]; first | done | decide) rfl ⟨rfl, by first | rfl | trivial⟩
set_option maxHeartbeats 1000000 in
theorem format_2 : FmtIs 2 2 := by
  intro w
  go_enter Tryd.func59, Tryd.ntmps59
  go_wp2_with fail
  refine bodyPost_ret (v := .tuple #[.string ⟨(fStr 2).toArray⟩, .int .i64 (fLo 2), .int .i64 (fHi 2), .bool true]) (by simp [results, Tryd.results59, go_sem, *]; first | done | decide) rfl ⟨rfl, by first | rfl | trivial⟩
set_option maxHeartbeats 1000000 in
theorem format_3 : FmtIs 3 3 := by
  intro w
  go_enter Tryd.func59, Tryd.ntmps59
  go_wp2_with fail
  refine bodyPost_ret (v := .tuple #[.string ⟨(fStr 3).toArray⟩, .int .i64 (fLo 3), .int .i64 (fHi 3), .bool true]) (by simp [results, Tryd.results59, go_sem, *]; first | done | decide) rfl ⟨rfl, by first | rfl | trivial⟩
set_option maxHeartbeats 1000000 in
theorem format_4 : FmtIs 4 4 := by
  intro w
  go_enter Tryd.func59, Tryd.ntmps59
  go_wp2_with fail
  refine bodyPost_ret (v := .tuple #[.string ⟨(fStr 4).toArray⟩, .int .i64 (fLo 4), .int .i64 (fHi 4), .bool true]) (by simp [results, Tryd.results59, go_sem, *]; first | done | decide) rfl ⟨rfl, by first | rfl | trivial⟩
set_option maxHeartbeats 1000000 in
theorem format_5 : FmtIs 5 5 := by
  intro w
  go_enter Tryd.func59, Tryd.ntmps59
  go_wp2_with fail
  refine bodyPost_ret (v := .tuple #[.string ⟨(fStr 5).toArray⟩, .int .i64 (fLo 5), .int .i64 (fHi 5), .bool true]) (by simp [results, Tryd.results59, go_sem, *]; first | done | decide) rfl ⟨rfl, by first | rfl | trivial⟩
set_option maxHeartbeats 1000000 in
theorem format_6 : FmtIs 6 6 := by
  intro w
  go_enter Tryd.func59, Tryd.ntmps59
  go_wp2_with fail
  refine bodyPost_ret (v := .tuple #[.string ⟨(fStr 6).toArray⟩, .int .i64 (fLo 6), .int .i64 (fHi 6), .bool true]) (by simp [results, Tryd.results59, go_sem, *]; first | done | decide) rfl ⟨rfl, by first | rfl | trivial⟩
set_option maxHeartbeats 1000000 in
theorem format_7 : FmtIs 7 7 := by
  intro w
  go_enter Tryd.func59, Tryd.ntmps59
  go_wp2_with fail
  refine bodyPost_ret (v := .tuple #[.string ⟨(fStr 7).toArray⟩, .int .i64 (fLo 7), .int .i64 (fHi 7), .bool true]) (by simp [results, Tryd.results59, go_sem, *]; first | done | decide) rfl ⟨rfl, by first | rfl | trivial⟩
set_option maxHeartbeats 1000000 in
theorem format_8 : FmtIs 8 8 := by
  intro w
  go_enter Tryd.func59, Tryd.ntmps59
  go_wp2_with fail
  refine bodyPost_ret (v := .tuple #[.string ⟨(fStr 8).toArray⟩, .int .i64 (fLo 8), .int .i64 (fHi 8), .bool true]) (by simp [results, Tryd.results59, go_sem, *]; first | done | decide) rfl ⟨rfl, by first | rfl | trivial⟩
set_option maxHeartbeats 1000000 in
theorem format_9 : FmtIs 9 9 := by
  intro w
  go_enter Tryd.func59, Tryd.ntmps59
  go_wp2_with fail
  refine bodyPost_ret (v := .tuple #[.string ⟨(fStr 9).toArray⟩, .int .i64 (fLo 9), .int .i64 (fHi 9), .bool true]) (by simp [results, Tryd.results59, go_sem, *]; first | done | decide) rfl ⟨rfl, by first | rfl | trivial⟩
set_option maxHeartbeats 1000000 in
theorem format_10 : FmtIs 10 10 := by
  intro w
  go_enter Tryd.func59, Tryd.ntmps59
  go_wp2_with fail
  refine bodyPost_ret (v := .tuple #[.string ⟨(fStr 10).toArray⟩, .int .i64 (fLo 10), .int .i64 (fHi 10), .bool true]) (by simp [results, Tryd.results59, go_sem, *]; first | done | decide) rfl ⟨rfl, by first | rfl | trivial⟩
set_option maxHeartbeats 1000000 in
theorem format_11 : FmtIs 11 11 := by
  intro w
  go_enter Tryd.func59, Tryd.ntmps59
  go_wp2_with fail
  refine bodyPost_ret (v := .tuple #[.string ⟨(fStr 11).toArray⟩, .int .i64 (fLo 11), .int .i64 (fHi 11), .bool true]) (by simp [results, Tryd.results59, go_sem, *]; first | done | decide) rfl ⟨rfl, by first | rfl | trivial⟩
set_option maxHeartbeats 1000000 in
theorem format_12 : FmtIs 12 12 := by
  intro w
  go_enter Tryd.func59, Tryd.ntmps59
  go_wp2_with fail
  refine bodyPost_ret (v := .tuple #[.string ⟨(fStr 12).toArray⟩, .int .i64 (fLo 12), .int .i64 (fHi 12), .bool true]) (by simp [results, Tryd.results59, go_sem, *]; first | done | decide) rfl ⟨rfl, by first | rfl | trivial⟩
set_option maxHeartbeats 1000000 in
theorem format_13 : FmtIs 13 13 := by
  intro w
  go_enter Tryd.func59, Tryd.ntmps59
  go_wp2_with fail
  refine bodyPost_ret (v := .tuple #[.string ⟨(fStr 13).toArray⟩, .int .i64 (fLo 13), .int .i64 (fHi 13), .bool true]) (by simp [results, Tryd.results59, go_sem, *]; first | done | decide) rfl ⟨rfl, by first | rfl | trivial⟩
set_option maxHeartbeats 1000000 in
theorem format_14 : FmtIs 14 14 := by
  intro w
  go_enter Tryd.func59, Tryd.ntmps59
  go_wp2_with fail
  refine bodyPost_ret (v := .tuple #[.string ⟨(fStr 14).toArray⟩, .int .i64 (fLo 14), .int .i64 (fHi 14), .bool true]) (by simp [results, Tryd.results59, go_sem, *]; first | done | decide) rfl ⟨rfl, by first | rfl | trivial⟩
set_option maxHeartbeats 1000000 in
theorem format_15 : FmtIs 15 15 := by
  intro w
  go_enter Tryd.func59, Tryd.ntmps59
  go_wp2_with fail
  refine bodyPost_ret (v := .tuple #[.string ⟨(fStr 15).toArray⟩, .int .i64 (fLo 15), .int .i64 (fHi 15), .bool true]) (by simp [results, Tryd.results59, go_sem, *]; first | done | decide) rfl ⟨rfl, by first | rfl | trivial⟩
set_option maxHeartbeats 1000000 in
theorem format_16 : FmtIs 16 16 := by
  intro w
  go_enter Tryd.func59, Tryd.ntmps59
  go_wp2_with fail
  refine bodyPost_ret (v := .tuple #[.string ⟨(fStr 16).toArray⟩, .int .i64 (fLo 16), .int .i64 (fHi 16), .bool true]) (by simp [results, Tryd.results59, go_sem, *]; first | done | decide) rfl ⟨rfl, by first | rfl | trivial⟩
set_option maxHeartbeats 1000000 in
theorem format_17 : FmtIs 17 17 := by
  intro w
  go_enter Tryd.func59, Tryd.ntmps59
  go_wp2_with fail
  refine bodyPost_ret (v := .tuple #[.string ⟨(fStr 17).toArray⟩, .int .i64 (fLo 17), .int .i64 (fHi 17), .bool true]) (by simp [results, Tryd.results59, go_sem, *]; first | done | decide) rfl ⟨rfl, by first | rfl | trivial⟩
set_option maxHeartbeats 1000000 in
theorem format_18 : FmtIs 18 18 := by
  intro w
  go_enter Tryd.func59, Tryd.ntmps59
  go_wp2_with fail
  refine bodyPost_ret (v := .tuple #[.string ⟨(fStr 18).toArray⟩, .int .i64 (fLo 18), .int .i64 (fHi 18), .bool true]) (by simp [results, Tryd.results59, go_sem, *]; first | done | decide) rfl ⟨rfl, by first | rfl | trivial⟩
set_option maxHeartbeats 1000000 in
theorem format_19 : FmtIs 19 19 := by
  intro w
  go_enter Tryd.func59, Tryd.ntmps59
  go_wp2_with fail
  refine bodyPost_ret (v := .tuple #[.string ⟨(fStr 19).toArray⟩, .int .i64 (fLo 19), .int .i64 (fHi 19), .bool true]) (by simp [results, Tryd.results59, go_sem, *]; first | done | decide) rfl ⟨rfl, by first | rfl | trivial⟩
set_option maxHeartbeats 1000000 in
theorem format_20 : FmtIs 20 20 := by
  intro w
  go_enter Tryd.func59, Tryd.ntmps59
  go_wp2_with fail
  refine bodyPost_ret (v := .tuple #[.string ⟨(fStr 20).toArray⟩, .int .i64 (fLo 20), .int .i64 (fHi 20), .bool true]) (by simp [results, Tryd.results59, go_sem, *]; first | done | decide) rfl ⟨rfl, by first | rfl | trivial⟩
set_option maxHeartbeats 1000000 in
theorem format_21 : FmtIs 21 21 := by
  intro w
  go_enter Tryd.func59, Tryd.ntmps59
  go_wp2_with fail
  refine bodyPost_ret (v := .tuple #[.string ⟨(fStr 21).toArray⟩, .int .i64 (fLo 21), .int .i64 (fHi 21), .bool true]) (by simp [results, Tryd.results59, go_sem, *]; first | done | decide) rfl ⟨rfl, by first | rfl | trivial⟩
set_option maxHeartbeats 1000000 in
theorem format_22 : FmtIs 22 22 := by
  intro w
  go_enter Tryd.func59, Tryd.ntmps59
  go_wp2_with fail
  refine bodyPost_ret (v := .tuple #[.string ⟨(fStr 22).toArray⟩, .int .i64 (fLo 22), .int .i64 (fHi 22), .bool true]) (by simp [results, Tryd.results59, go_sem, *]; first | done | decide) rfl ⟨rfl, by first | rfl | trivial⟩
set_option maxHeartbeats 1000000 in
theorem format_23 : FmtIs 23 23 := by
  intro w
  go_enter Tryd.func59, Tryd.ntmps59
  go_wp2_with fail
  refine bodyPost_ret (v := .tuple #[.string ⟨(fStr 23).toArray⟩, .int .i64 (fLo 23), .int .i64 (fHi 23), .bool true]) (by simp [results, Tryd.results59, go_sem, *]; first | done | decide) rfl ⟨rfl, by first | rfl | trivial⟩
set_option maxHeartbeats 1000000 in
theorem format_24 : FmtIs 24 24 := by
  intro w
  go_enter Tryd.func59, Tryd.ntmps59
  go_wp2_with fail
  refine bodyPost_ret (v := .tuple #[.string ⟨(fStr 24).toArray⟩, .int .i64 (fLo 24), .int .i64 (fHi 24), .bool true]) (by simp [results, Tryd.results59, go_sem, *]; first | done | decide) rfl ⟨rfl, by first | rfl | trivial⟩
set_option maxHeartbeats 1000000 in
theorem format_25 : FmtIs 25 25 := by
  intro w
  go_enter Tryd.func59, Tryd.ntmps59
  go_wp2_with fail
  refine bodyPost_ret (v := .tuple #[.string ⟨(fStr 25).toArray⟩, .int .i64 (fLo 25), .int .i64 (fHi 25), .bool true]) (by simp [results, Tryd.results59, go_sem, *]; first | done | decide) rfl ⟨rfl, by first | rfl | trivial⟩
set_option maxHeartbeats 1000000 in
theorem format_26 : FmtIs 26 26 := by
  intro w
  go_enter Tryd.func59, Tryd.ntmps59
  go_wp2_with fail
  refine bodyPost_ret (v := .tuple #[.string ⟨(fStr 26).toArray⟩, .int .i64 (fLo 26), .int .i64 (fHi 26), .bool true]) (by simp [results, Tryd.results59, go_sem, *]; first | done | decide) rfl ⟨rfl, by first | rfl | trivial⟩
set_option maxHeartbeats 1000000 in
theorem format_27 : FmtIs 27 27 := by
  intro w
  go_enter Tryd.func59, Tryd.ntmps59
  go_wp2_with fail
  refine bodyPost_ret (v := .tuple #[.string ⟨(fStr 27).toArray⟩, .int .i64 (fLo 27), .int .i64 (fHi 27), .bool true]) (by simp [results, Tryd.results59, go_sem, *]; first | done | decide) rfl ⟨rfl, by first | rfl | trivial⟩
set_option maxHeartbeats 1000000 in
theorem format_28 : FmtIs 28 28 := by
  intro w
  go_enter Tryd.func59, Tryd.ntmps59
  go_wp2_with fail
  refine bodyPost_ret (v := .tuple #[.string ⟨(fStr 28).toArray⟩, .int .i64 (fLo 28), .int .i64 (fHi 28), .bool true]) (by simp [results, Tryd.results59, go_sem, *]; first | done | decide) rfl ⟨rfl, by first | rfl | trivial⟩
set_option maxHeartbeats 1000000 in
theorem format_29 : FmtIs 29 29 := by
  intro w
  go_enter Tryd.func59, Tryd.ntmps59
  go_wp2_with fail
  refine bodyPost_ret (v := .tuple #[.string ⟨(fStr 29).toArray⟩, .int .i64 (fLo 29), .int .i64 (fHi 29), .bool true]) (by simp [results, Tryd.results59, go_sem, *]; first | done | decide) rfl ⟨rfl, by first | rfl | trivial⟩
theorem format_any (k : Nat) (hk : k < 30) : FmtIs (k : Int) k := by
  obtain rfl | rfl | rfl | rfl | rfl | rfl | rfl | rfl | rfl | rfl | rfl | rfl | rfl | rfl | rfl | rfl | rfl | rfl | rfl | rfl | rfl | rfl | rfl | rfl | rfl | rfl | rfl | rfl | rfl | rfl : k = 0 ∨ k = 1 ∨ k = 2 ∨ k = 3 ∨ k = 4 ∨ k = 5 ∨ k = 6 ∨ k = 7 ∨ k = 8 ∨ k = 9 ∨ k = 10 ∨ k = 11 ∨ k = 12 ∨ k = 13 ∨ k = 14 ∨ k = 15 ∨ k = 16 ∨ k = 17 ∨ k = 18 ∨ k = 19 ∨ k = 20 ∨ k = 21 ∨ k = 22 ∨ k = 23 ∨ k = 24 ∨ k = 25 ∨ k = 26 ∨ k = 27 ∨ k = 28 ∨ k = 29 := by omega
  · exact format_0
  · exact format_1
  · exact format_2
  · exact format_3
  · exact format_4
  · exact format_5
  · exact format_6
  · exact format_7
  · exact format_8
  · exact format_9
  · exact format_10
  · exact format_11
  · exact format_12
  · exact format_13
  · exact format_14
  · exact format_15
  · exact format_16
  · exact format_17
  · exact format_18
  · exact format_19
  · exact format_20
  · exact format_21
  · exact format_22
  · exact format_23
  · exact format_24
  · exact format_25
  · exact format_26
  · exact format_27
  · exact format_28
  · exact format_29
set_option maxHeartbeats 1000000 in
theorem format_far (op : Int) (h0 : 30 ≤ op) (w : World) : Calls Tryd.prog 59 #[.int .u8 op] w fun e w' => e = .returned (.tuple #[.string ⟨#[]⟩, .int .i64 1, .int .i64 0, .bool false]) ∧ w = w' := by
  have e0 : decide (2 ≤ op) = true := decide_eq_true (by omega)
  have e1 : decide (op ≤ 13) = false := decide_eq_false (by omega)
  have q0 : (op == 0) = false := beq_eq_false_iff_ne.2 (by omega)
  have q1 : (op == 1) = false := beq_eq_false_iff_ne.2 (by omega)
  have q14 : (op == 14) = false := beq_eq_false_iff_ne.2 (by omega)
  have q15 : (op == 15) = false := beq_eq_false_iff_ne.2 (by omega)
  have q16 : (op == 16) = false := beq_eq_false_iff_ne.2 (by omega)
  have q17 : (op == 17) = false := beq_eq_false_iff_ne.2 (by omega)
  have q18 : (op == 18) = false := beq_eq_false_iff_ne.2 (by omega)
  have q19 : (op == 19) = false := beq_eq_false_iff_ne.2 (by omega)
  have q20 : (op == 20) = false := beq_eq_false_iff_ne.2 (by omega)
  have q21 : (op == 21) = false := beq_eq_false_iff_ne.2 (by omega)
  have q22 : (op == 22) = false := beq_eq_false_iff_ne.2 (by omega)
  have q23 : (op == 23) = false := beq_eq_false_iff_ne.2 (by omega)
  have q24 : (op == 24) = false := beq_eq_false_iff_ne.2 (by omega)
  have q25 : (op == 25) = false := beq_eq_false_iff_ne.2 (by omega)
  have q26 : (op == 26) = false := beq_eq_false_iff_ne.2 (by omega)
  have q27 : (op == 27) = false := beq_eq_false_iff_ne.2 (by omega)
  have q28 : (op == 28) = false := beq_eq_false_iff_ne.2 (by omega)
  have q29 : (op == 29) = false := beq_eq_false_iff_ne.2 (by omega)
  clear h0
  go_enter Tryd.func59, Tryd.ntmps59
  go_wp2_with fail
  refine bodyPost_ret (v := .tuple #[.string ⟨#[]⟩, .int .i64 1, .int .i64 0, .bool false]) (by simp [results, Tryd.results59, go_sem, *]) rfl ⟨rfl, by first | rfl | trivial⟩

def regB (x : Int) (u : Bool) : Bool := if u = true then decide (0 ≤ x) && decide (x < 16) else decide (x = 0)
set_option maxHeartbeats 1000000 in
theorem reg_any (x : Int) (u : Bool) (w : World) : Calls Tryd.prog 69 #[.int .i64 x, .bool u] w fun e w' => e = .returned (.bool (regB x u)) ∧ w = w' := by
  cases u with
  | false =>
    rcases h : (x == 0)
    all_goals
      go_enter Tryd.func69, Tryd.ntmps69
      go_wp2_with fail
      go_ret
      simp at h
      exact ⟨ret_bool (by simp [regB, h]), by first | rfl | trivial⟩
  | true =>
    rcases h : decide (0 ≤ x) <;> rcases h2 : decide (x < 16)
    all_goals
      go_enter Tryd.func69, Tryd.ntmps69
      go_wp2_with fail
      go_ret
      exact ⟨ret_bool (by simp only [regB, if_true, h, h2]; rfl), by first | rfl | trivial⟩

theorem nS : ∀ k, k < 30 → (0 < (fStr k).length ↔ (shpOf k).aHi = 15) ∧ (1 < (fStr k).length ↔ (shpOf k).bHi = 15) ∧ (2 < (fStr k).length ↔ (shpOf k).cHi = 15) ∧ ((shpOf k).aHi = 15 ∨ (shpOf k).aHi = 0) ∧ ((shpOf k).bHi = 15 ∨ (shpOf k).bHi = 0) ∧ ((shpOf k).cHi = 15 ∨ (shpOf k).cHi = 0) := by decide
theorem loHi : ∀ k, k < 30 → (fHi k < fLo k ∧ immLo k = 0 ∧ immHi k = 0) ∨ (fLo k ≤ fHi k ∧ immLo k = fLo k ∧ immHi k = fHi k) := by decide
theorem regB_iff {x h : Int} {n m : Nat} (h1 : m < n ↔ h = 15) (h2 : h = 15 ∨ h = 0) : regB x (decide (m < n)) = true ↔ 0 ≤ x ∧ x ≤ h := by
  unfold regB
  by_cases e : m < n
  · rw [decide_eq_true e, if_pos rfl, h1.1 e]
    simp
    omega
  · have : h = 0 := by rcases h2 with h2 | h2; exact absurd (h1.2 h2) e; exact h2
    rw [decide_eq_false e, if_neg (by simp), this]
    simp
    omega

set_option maxHeartbeats 2000000 in
theorem valid4_any (i : Ins) (h0 : 0 ≤ i.op) (w : World) : Calls Tryd.prog 60 #[.agg #[.int .u8 i.op, .int .i64 i.a, .int .i64 i.b, .int .i64 i.c, .int .i64 i.imm]] w fun e w' => e = .returned (.bool (validI i)) ∧ Below w.heap.size w w' := by
  have HV := Lib.hid (validI_iff h0)
  obtain ⟨vi, hvi⟩ : ∃ vi, validI i = vi := ⟨_, rfl⟩
  rw [hvi] at HV ⊢
  clear hvi
  obtain ⟨op, a, b, c, imm⟩ := i
  simp only at h0 HV ⊢
  obtain ⟨V, hV⟩ : ∃ V, w.alloc (.cells #[.int .u8 op, .int .i64 a, .int .i64 b, .int .i64 c, .int .i64 imm] 53) = V := ⟨_, rfl⟩
  have bV : Below w.heap.size w V := hV ▸ (Below.refl _ _).alloc (Nat.le_refl _) _
  have kV : V.heap[w.heap.size]? = some (.cells #[.int .u8 op, .int .i64 a, .int .i64 b, .int .i64 c, .int .i64 imm] 53) := hV ▸ heap_alloc_new _ _
  have y0 : V.cell? ⟨w.heap.size, 0, none⟩ = some (.int .u8 op) := by simp [World.cell?, kV]
  have y1 : V.cell? ⟨w.heap.size, 1, none⟩ = some (.int .i64 a) := by simp [World.cell?, kV]
  have y2 : V.cell? ⟨w.heap.size, 2, none⟩ = some (.int .i64 b) := by simp [World.cell?, kV]
  have y3 : V.cell? ⟨w.heap.size, 3, none⟩ = some (.int .i64 c) := by simp [World.cell?, kV]
  have y4 : V.cell? ⟨w.heap.size, 4, none⟩ = some (.int .i64 imm) := by simp [World.cell?, kV]
  have sV : w.heap.size < V.heap.size := by rw [← hV]; simp
  have BV := Lib.hid bV
  clear bV kV
  by_cases ho : op < 30
  case neg =>
    have HF := Lib.hid (fun W => format_far op (by omega) W)
    have hn : vi = false := by
      cases vi with
      | false => rfl
      | true => obtain ⟨k, hk⟩ := HV.out.1 rfl; have := hk.op; have := hk.lt; simp only at *; omega
    subst hn
    clear ho HV h0
    go_enter Tryd.func60, Tryd.ntmps60
    go_wp2_with (go_at_call 59; refine (HF.out _).mono ?_; rintro e w' ⟨rfl, rfl⟩)
    go_ret
    exact ⟨rfl, BV.out⟩
  obtain ⟨k, rfl⟩ : ∃ k : Nat, op = (k : Int) := ⟨op.toNat, by omega⟩
  have hk : k < 30 := by omega
  have HF := Lib.hid (fun W => format_any k hk W)
  obtain ⟨n1, n2, n3, n4, n5, n6⟩ := nS k hk
  have HL := Lib.hid (loHi k hk)
  have RA := Lib.hid (regB_iff (x := a) n1 n4)
  have RB := Lib.hid (regB_iff (x := b) n2 n5)
  have RC := Lib.hid (regB_iff (x := c) n3 n6)
  have HG := Lib.hid (show vi = true ↔ (regB a (decide (0 < (fStr k).length)) = true ∧ regB b (decide (1 < (fStr k).length)) = true ∧ regB c (decide (2 < (fStr k).length)) = true) ∧ (immLo k ≤ imm ∧ imm ≤ immHi k) from by
    rw [HV.out, RA.out, RB.out, RC.out]
    constructor
    · rintro ⟨k', g1, g2, g3, g4, g5, g6⟩
      have : k = k' := by simp only at g1; omega
      subst this
      exact ⟨⟨g3, g4, g5⟩, g6⟩
    · rintro ⟨⟨g3, g4, g5⟩, g6⟩
      exact ⟨k, rfl, hk, g3, g4, g5, g6⟩)
  have hsz : (ByteArray.mk (fStr k).toArray).size = (fStr k).length := by simp [ByteArray.size]
  obtain ⟨fs, hfs⟩ : ∃ fs : ByteArray, (⟨(fStr k).toArray⟩ : ByteArray) = fs := ⟨_, rfl⟩
  obtain ⟨lo, hlo⟩ : ∃ lo, fLo k = lo := ⟨_, rfl⟩
  obtain ⟨hi, hhi⟩ : ∃ hi, fHi k = hi := ⟨_, rfl⟩
  unfold FmtIs at HF
  rw [hfs] at hsz
  have HF' := Lib.hid (show ∀ W, Calls Tryd.prog 59 #[.int .u8 (k : Int)] W fun e w' => e = .returned (.tuple #[.string fs, .int .i64 lo, .int .i64 hi, .bool true]) ∧ W = w' from fun W => by rw [← hfs, ← hlo, ← hhi]; exact HF.out W)
  rw [hlo, hhi] at HL
  rw [← hsz] at HG
  obtain ⟨uA, huA⟩ : ∃ uA, decide (0 < fs.size) = uA := ⟨_, rfl⟩
  obtain ⟨uB, huB⟩ : ∃ uB, decide (1 < fs.size) = uB := ⟨_, rfl⟩
  obtain ⟨uC, huC⟩ : ∃ uC, decide (2 < fs.size) = uC := ⟨_, rfl⟩
  have iA : decide ((0 : Int) < (fs.size : Int)) = uA := by rw [← huA]; exact decide_eq_decide.2 (by omega)
  have iB : decide ((1 : Int) < (fs.size : Int)) = uB := by rw [← huB]; exact decide_eq_decide.2 (by omega)
  have iC : decide ((2 : Int) < (fs.size : Int)) = uC := by rw [← huC]; exact decide_eq_decide.2 (by omega)
  rw [huA, huB, huC] at HG
  have GA := Lib.hid (fun W => reg_any a uA W)
  have GB := Lib.hid (fun W => reg_any b uB W)
  have GC := Lib.hid (fun W => reg_any c uC W)
  clear hlo hhi hfs hsz HF RA RB RC n1 n2 n3 n4 n5 n6 HV ho h0 hk
  rcases hA : regB a uA
  · rw [hA] at HG GA
    have hn : vi = false := by cases vi with | false => rfl | true => simpa using (HG.out.1 rfl).1.1
    clear hA
    go_enter Tryd.func60, Tryd.ntmps60
    go_wp2_with (first | (go_at_call 59; refine (HF'.out _).mono ?_; rintro e w' ⟨rfl, rfl⟩) | (go_at_call 69; refine (GA.out _).mono ?_; rintro e w' ⟨rfl, rfl⟩))
    go_ret
    exact ⟨by subst hn; rfl, BV.out⟩
  rw [hA] at HG GA
  clear hA
  rcases hB : regB b uB
  · rw [hB] at HG GB
    have hn : vi = false := by cases vi with | false => rfl | true => simpa using (HG.out.1 rfl).1.2.1
    clear hB
    go_enter Tryd.func60, Tryd.ntmps60
    go_wp2_with (first | (go_at_call 59; refine (HF'.out _).mono ?_; rintro e w' ⟨rfl, rfl⟩) | (go_at_call 69; first | (with_reducible refine (GA.out _).mono ?_; rintro e w' ⟨rfl, rfl⟩) | (with_reducible refine (GB.out _).mono ?_; rintro e w' ⟨rfl, rfl⟩)))
    go_ret
    exact ⟨by subst hn; rfl, BV.out⟩
  rw [hB] at HG GB
  clear hB
  rcases hC : regB c uC
  · rw [hC] at HG GC
    have hn : vi = false := by cases vi with | false => rfl | true => simpa using (HG.out.1 rfl).1.2.2
    clear hC
    go_enter Tryd.func60, Tryd.ntmps60
    go_wp2_with (first | (go_at_call 59; refine (HF'.out _).mono ?_; rintro e w' ⟨rfl, rfl⟩) | (go_at_call 69; first | (with_reducible refine (GA.out _).mono ?_; rintro e w' ⟨rfl, rfl⟩) | (with_reducible refine (GB.out _).mono ?_; rintro e w' ⟨rfl, rfl⟩) | (with_reducible refine (GC.out _).mono ?_; rintro e w' ⟨rfl, rfl⟩)))
    go_ret
    exact ⟨by subst hn; rfl, BV.out⟩
  rw [hC] at HG GC
  clear hC
  rcases HL.out with ⟨l1, l2, l3⟩ | ⟨l1, l2, l3⟩
  · have d : decide (hi < lo) = true := decide_eq_true l1
    have hn : vi = (imm == 0) := by
      apply Bool.eq_iff_iff.2
      rw [HG.out, l2, l3]
      simp
      omega
    clear l1 l2 l3 HL
    go_enter Tryd.func60, Tryd.ntmps60
    go_wp2_with (first | (go_at_call 59; refine (HF'.out _).mono ?_; rintro e w' ⟨rfl, rfl⟩) | (go_at_call 69; first | (with_reducible refine (GA.out _).mono ?_; rintro e w' ⟨rfl, rfl⟩) | (with_reducible refine (GB.out _).mono ?_; rintro e w' ⟨rfl, rfl⟩) | (with_reducible refine (GC.out _).mono ?_; rintro e w' ⟨rfl, rfl⟩)))
    go_ret
    exact ⟨by subst hn; rfl, BV.out⟩
  · have d : decide (hi < lo) = false := decide_eq_false (by omega)
    have hn : vi = (decide (lo ≤ imm) && decide (imm ≤ hi)) := by
      apply Bool.eq_iff_iff.2
      rw [HG.out, l2, l3]
      simp
    clear l1 l2 l3 HL
    rcases h5 : decide (lo ≤ imm) <;> rcases h6 : decide (imm ≤ hi)
    all_goals
      rw [h5, h6] at hn
      go_enter Tryd.func60, Tryd.ntmps60
      go_wp2_with (first | (go_at_call 59; refine (HF'.out _).mono ?_; rintro e w' ⟨rfl, rfl⟩) | (go_at_call 69; first | (with_reducible refine (GA.out _).mono ?_; rintro e w' ⟨rfl, rfl⟩) | (with_reducible refine (GB.out _).mono ?_; rintro e w' ⟨rfl, rfl⟩) | (with_reducible refine (GC.out _).mono ?_; rintro e w' ⟨rfl, rfl⟩)))
      go_ret
      exact ⟨by subst hn; rfl, BV.out⟩

end Go.Proofs.YtfceodpdipniaaaDoor
