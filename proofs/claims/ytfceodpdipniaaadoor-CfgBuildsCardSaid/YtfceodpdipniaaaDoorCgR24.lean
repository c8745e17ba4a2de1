/-
  What is proved here: what the reference's after, In, ends and Reach return.
-/
import Derived.Test.YtfceodpdipniaaaDoorCgReached
namespace Go.Proofs.YtfceodpdipniaaaDoor
open Go.RowKit
set_option linter.unusedVariables false
set_option linter.unusedSimpArgs false

/-- The instructions in memory. -/
def Inss (w : World) (v : Value) (n : Nat) (c : Nat → Ins) : Prop :=
  ∃ A cap, v = .slice A n cap ∧ n ≤ cap ∧ cap ≤ maxLen ∧ (0 < n → ∃ b off, A = some ⟨b, off, none⟩ ∧ b < w.heap.size ∧ ∀ i, i < n →
    w.cell? ⟨b, off + i * 5, none⟩ = some (.int .u8 (c i).op) ∧ w.cell? ⟨b, off + i * 5 + 1, none⟩ = some (.int .i64 (c i).a) ∧ w.cell? ⟨b, off + i * 5 + 2, none⟩ = some (.int .i64 (c i).b) ∧ w.cell? ⟨b, off + i * 5 + 3, none⟩ = some (.int .i64 (c i).c) ∧ w.cell? ⟨b, off + i * 5 + 4, none⟩ = some (.int .i64 (c i).imm))
theorem Inss.below {w w' : World} {v : Value} {n : Nat} {c : Nat → Ins} (h : Inss w v n c) (hb : Below w.heap.size w w') : Inss w' v n c := by
  obtain ⟨A, cap, h1, h2, h3, h4⟩ := h
  refine ⟨A, cap, h1, h2, h3, fun h0 => ?_⟩
  obtain ⟨b, off, ha, hlt, hc⟩ := h4 h0
  refine ⟨b, off, ha, by have := hb.size; omega, fun i hi => ?_⟩
  obtain ⟨c0, c1, c2, c3, c4⟩ := hc i hi
  exact ⟨(hb.cell (p := ⟨b, _, none⟩) hlt).trans c0, (hb.cell (p := ⟨b, _, none⟩) hlt).trans c1, (hb.cell (p := ⟨b, _, none⟩) hlt).trans c2, (hb.cell (p := ⟨b, _, none⟩) hlt).trans c3, (hb.cell (p := ⟨b, _, none⟩) hlt).trans c4⟩
theorem Inss.slice {w : World} {v : Value} {n : Nat} {c : Nat → Ins} (h : Inss w v n c) : ∃ A cap, v = .slice A n cap ∧ n ≤ cap ∧ cap ≤ 2 ^ 63 - 1 := by
  obtain ⟨A, cap, h1, h2, h3, _⟩ := h
  unfold maxLen at h3
  exact ⟨A, cap, h1, h2, h3⟩
theorem Inss.at_ {w wr : World} {A : Option Addr} {n cap : Nat} {c : Nat → Ins} (h : Inss w (.slice A n cap) n c) (hb : Below w.heap.size w wr) {i : Nat} (hi : i < n) :
    ∃ b off, A = some ⟨b, off, none⟩ ∧ b < w.heap.size ∧ wr.cell? ⟨b, off + i * 5, none⟩ = some (.int .u8 (c i).op) ∧ wr.cell? ⟨b, off + i * 5 + 1, none⟩ = some (.int .i64 (c i).a) ∧ wr.cell? ⟨b, off + i * 5 + 2, none⟩ = some (.int .i64 (c i).b) ∧ wr.cell? ⟨b, off + i * 5 + 3, none⟩ = some (.int .i64 (c i).c) ∧ wr.cell? ⟨b, off + i * 5 + 4, none⟩ = some (.int .i64 (c i).imm) := by
  obtain ⟨A', cap', hv, _, _, h4⟩ := h.below hb
  cases hv
  obtain ⟨A', cap', hv, _, _, h4'⟩ := h
  cases hv
  obtain ⟨b, off, rfl, hlt, hc⟩ := h4' (by omega)
  obtain ⟨b', off', e, _, hc'⟩ := h4 (by omega)
  cases e
  exact ⟨b, off, rfl, hlt, hc' i hi⟩

theorem ints_empty (w : World) (a : Option Addr) : Ints w (.slice a 0 0) [] := ⟨a, 0, rfl, Nat.le_refl _, by unfold maxLen; omega, fun h => by simp at h⟩

set_option maxHeartbeats 1000000 in
theorem after_any (i : Ins) (at_ : Int) (w : World) (h1 : 0 ≤ at_) (h2 : at_ ≤ 1000000) (h3 : -1000000 ≤ i.imm) (h4 : i.imm ≤ 1000000) :
    Calls Tryd.prog 45 #[.agg #[.int .u8 i.op, .int .i64 i.a, .int .i64 i.b, .int .i64 i.c, .int .i64 i.imm], .int .i64 at_] w fun e w' => (∃ v, e = .returned v ∧ Ints w' v (succI i at_) ∧ ∀ q, v.ownBlock = some q → w.heap.size ≤ q) ∧ Below w.heap.size w w' := by
  have w1 : IntKind.i64.wrap (at_ + 1) = at_ + 1 := IntWalk.i64_in _ (by omega)
  have w2 : IntKind.i64.wrap (at_ + 1 + i.imm) = at_ + 1 + i.imm := IntWalk.i64_in _ (by omega)
  obtain ⟨op, ia, ib, ic, imm⟩ := i
  simp only at h3 h4 w2 ⊢
  obtain ⟨V, hV⟩ : ∃ V, w.alloc (.cells #[.int .u8 op, .int .i64 ia, .int .i64 ib, .int .i64 ic, .int .i64 imm] 53) = V := ⟨_, rfl⟩
  have bV : Below w.heap.size w V := hV ▸ (Below.refl _ _).alloc (Nat.le_refl _) _
  have kV : V.heap[w.heap.size]? = some (.cells #[.int .u8 op, .int .i64 ia, .int .i64 ib, .int .i64 ic, .int .i64 imm] 53) := hV ▸ heap_alloc_new _ _
  have y0 : V.cell? ⟨w.heap.size, 0, none⟩ = some (.int .u8 op) := by simp [World.cell?, kV]
  have y4 : V.cell? ⟨w.heap.size, 4, none⟩ = some (.int .i64 imm) := by simp [World.cell?, kV]
  have sV : w.heap.size < V.heap.size := by rw [← hV]; simp
  have BV := Lib.hid bV
  clear bV kV
  by_cases q1 : op = 1
  · have d1 : (op == 1) = true := by simp [q1]
    have HS := Lib.hid (show succI ⟨op, ia, ib, ic, imm⟩ at_ = [] by simp [succI, q1])
    clear q1
    go_enter Tryd.func45, Tryd.ntmps45
    go_wp2_with fail
    go_ret
    rw [HS.out]
    exact ⟨⟨_, rfl, ints_empty _ _, fun q hq => by cases hq; exact Nat.le_of_lt sV⟩, by first | exact BV.out | exact BV.out.alloc (by omega) _⟩
  · have d1 : (op == 1) = false := by simp [q1]
    by_cases q2 : op = 24
    · have d2 : (op == 24) = true := by simp [q2]
      have HS := Lib.hid (show succI ⟨op, ia, ib, ic, imm⟩ at_ = [at_ + 1 + imm] by simp [succI, q2])
      clear q1 q2
      go_enter Tryd.func45, Tryd.ntmps45
      go_wp2_with fail
      go_ret
      rw [HS.out]
      exact ⟨⟨_, rfl, ints_new1' _ _ (by go_num), fun q hq => by cases hq; exact Nat.le_of_lt sV⟩, BV.out.alloc (by omega) _⟩
    · have d2 : (op == 24) = false := by simp [q2]
      by_cases q3 : op = 22
      · have d3 : (op == 22) = true := by simp [q3]
        have HS := Lib.hid (show succI ⟨op, ia, ib, ic, imm⟩ at_ = [at_ + 1, at_ + 1 + imm] by simp [succI, q3])
        clear q1 q2 q3
        go_enter Tryd.func45, Tryd.ntmps45
        go_wp2_with fail
        go_ret
        rw [HS.out]
        exact ⟨⟨_, rfl, ints_new2' _ _ (by go_num) (by go_num), fun q hq => by cases hq; exact Nat.le_of_lt sV⟩, BV.out.alloc (by omega) _⟩
      · have d3 : (op == 22) = false := by simp [q3]
        by_cases q4 : op = 23
        · have d4 : (op == 23) = true := by simp [q4]
          have HS := Lib.hid (show succI ⟨op, ia, ib, ic, imm⟩ at_ = [at_ + 1, at_ + 1 + imm] by simp [succI, q4])
          clear q1 q2 q3 q4
          go_enter Tryd.func45, Tryd.ntmps45
          go_wp2_with fail
          go_ret
          rw [HS.out]
          exact ⟨⟨_, rfl, ints_new2' _ _ (by go_num) (by go_num), fun q hq => by cases hq; exact Nat.le_of_lt sV⟩, BV.out.alloc (by omega) _⟩
        · have d4 : (op == 23) = false := by simp [q4]
          have HS := Lib.hid (show succI ⟨op, ia, ib, ic, imm⟩ at_ = [at_ + 1] by simp [succI, q1, q2, q3, q4])
          clear q1 q2 q3 q4
          go_enter Tryd.func45, Tryd.ntmps45
          go_wp2_with fail
          go_ret
          rw [HS.out]
          exact ⟨⟨_, rfl, ints_new1' _ _ (by go_num), fun q hq => by cases hq; exact Nat.le_of_lt sV⟩, BV.out.alloc (by omega) _⟩

set_option maxHeartbeats 1000000 in
theorem in_any (v : Value) (l : List Int) (x : Int) (w : World) (H : Ints w v l) :
    Calls Tryd.prog 49 #[v, .int .i64 x] w fun e w' => e = .returned (.bool (decide (x ∈ l))) ∧ w = w' := by
  obtain ⟨A, cap, rfl, h2, h3, h4⟩ := H
  have HC := Lib.hid h4
  unfold maxLen at h3
  clear h4
  go_enter Tryd.func49, Tryd.ntmps49
  go_upto_region 2 with fail
  go_loopw [5] (fun a5 wr => ∃ j : Nat, j ≤ l.length ∧ a5 = .int .i64 (j : Int) ∧ x ∉ l.take j ∧ wr = w) (fun a5 _ => l.length - (intOf a5).toNat)
  case atStart => exact ⟨0, Nat.zero_le _, rfl, by simp, rfl⟩
  case round =>
    obtain ⟨j, hj, rfl, hno, hw⟩ := hrel
    subst hw
    have HNO := Lib.hid hno
    clear hno
    by_cases hlt : j < l.length
    · obtain ⟨b, off, rfl, hb, hc⟩ := HC.out (by omega)
      obtain ⟨s, hs⟩ : ∃ s, l[j] = s := ⟨_, rfl⟩
      have x1 : wr.cell? ⟨b, off + j, none⟩ = some (.int .i64 s) := by rw [hc j hlt, ← hs]; simp [List.getD, List.getElem?_eq_getElem hlt]
      have HS := Lib.hid (show l[j]? = some s by rw [List.getElem?_eq_getElem hlt, hs])
      have dl : decide ((j : Int) < (l.length : Int)) = true := by simpa using hlt
      clear hc hs
      by_cases q : x = s
      · have d : (s == x) = true := by simp [q]
        have HM := Lib.hid (show x ∈ l by rw [q]; exact List.mem_of_getElem? HS.out)
        clear q
        go_wp2_with fail
        go_ret
        exact ⟨ret_bool (by simp [HM.out]), rfl⟩
      · have d : (s == x) = false := by simp; exact fun h => q h.symm
        have HQ := Lib.hid q
        clear q
        go_wp2_with fail
        go_roundw
        case rel =>
          refine ⟨j + 1, by omega, by go_num, ?_, by first | rfl | trivial⟩
          rw [take_snoc HS.out]
          intro h
          rcases List.mem_append.1 h with h | h
          · exact HNO.out h
          · simp at h; exact HQ.out h
        case measure => simp [intOf]; omega
    · obtain rfl : j = l.length := by omega
      have dl : decide ((l.length : Int) < (l.length : Int)) = false := by simp
      rw [List.take_length] at HNO
      go_wp2_with fail
      go_ret
      exact ⟨ret_bool (by simp [HNO.out]), rfl⟩

def endB (op : Int) : Bool := decide (op = 1) || decide (op = 24) || decide (op = 22) || decide (op = 23)
set_option maxHeartbeats 1000000 in
theorem ends_any (op : Int) (w : World) : Calls Tryd.prog 47 #[.int .u8 op] w fun e w' => e = .returned (.bool (endB op)) ∧ w = w' := by
  go_enter Tryd.func47, Tryd.ntmps47
  rcases h1 : (op == 1) <;> rcases h2 : (op == 24) <;> rcases h3 : (op == 22) <;> rcases h4 : (op == 23)
  all_goals
    go_wp2_with fail
    go_ret
    refine ⟨ret_bool ?_, by first | rfl | trivial⟩
    simp at h1 h2 h3 h4
    simp [endB, h1, h2, h3, h4]

theorem SM.below {w wr wr' : World} {g n : Nat} {sn : Nat → Bool} (h : SM w wr g n sn) (hb : Below wr.heap.size wr wr') : SM w wr' g n sn :=
  ⟨h.bel.trans (hb.mono h.bel.size), ownsRow_below h.row hb⟩
/-- The marks of Reach. -/
structure RT (C : Int → Ins) (st en : Nat) (n : Nat) (sn : Nat → Bool) : Prop where
  zero : sn st = true
  sound : ∀ i : Nat, i < n → sn i = true → Rch C st en (i : Int)
theorem RT.add {C : Int → Ins} {st en n : Nat} {sn : Nat → Bool} (h : RT C st en n sn) {b t : Nat} (hb : b < n) (hs : sn b = true) (ht : (t : Int) ∈ succI (C (b : Int)) (b : Int)) (h1 : st ≤ t) (h2 : t < en) : RT C st en n (upd sn t true) := by
  refine ⟨?_, fun i hi hs' => ?_⟩
  · unfold upd; split; rfl; exact h.zero
  · unfold upd at hs'
    split at hs'
    · rename_i e; rw [e]; exact Rch.step (h.sound b hb hs) ht (by omega) (by omega)
    · exact h.sound i hi hs'
/-- What a pass of Reach has done. -/
def PassR (C : Int → Ins) (st en n : Nat) (sn : Nat → Bool) (c0 : Nat) (ag : Bool) (b : Nat) (l : List Int) : Prop :=
  (ag = false ∧ cntS n sn = c0 ∧ (∀ b' : Nat, st ≤ b' → b' < b → sn b' = true → ∀ t : Nat, (t : Int) ∈ succI (C (b' : Int)) (b' : Int) → st ≤ t → t < en → sn t = true) ∧ ∀ t : Nat, (t : Int) ∈ l → st ≤ t → t < en → sn t = true) ∨ (ag = true ∧ c0 < cntS n sn)

end Go.Proofs.YtfceodpdipniaaaDoor
