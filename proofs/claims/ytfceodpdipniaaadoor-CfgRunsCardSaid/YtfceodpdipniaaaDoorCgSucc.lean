/-
  What is proved here: what cfg.successors returns, and the small functions of the linker.
-/
import Derived.Test.YtfceodpdipniaaaDoorCgDec
import Derived.Test.YtfceodpdipniaaaDoorIMap
namespace Go.Proofs.YtfceodpdipniaaaDoor
open Go.RowKit
set_option linter.unusedVariables false
set_option linter.unusedSimpArgs false

/-- The list in memory. -/
def Ints (w : World) (v : Value) (l : List Int) : Prop :=
  ∃ A cap, v = .slice A l.length cap ∧ l.length ≤ cap ∧ cap ≤ maxLen ∧ (0 < l.length → ∃ b off, A = some ⟨b, off, none⟩ ∧ b < w.heap.size ∧ ∀ i, i < l.length → w.cell? ⟨b, off + i, none⟩ = some (.int .i64 (l.getD i 0)))
theorem Ints.below {w w' : World} {v : Value} {l : List Int} (h : Ints w v l) (hb : Below w.heap.size w w') : Ints w' v l := by
  obtain ⟨A, cap, h1, h2, h3, h4⟩ := h
  refine ⟨A, cap, h1, h2, h3, fun h0 => ?_⟩
  obtain ⟨b, off, ha, hlt, hc⟩ := h4 h0
  exact ⟨b, off, ha, by have := hb.size; omega, fun i hi => (hb.cell (p := ⟨b, off + i, none⟩) hlt).trans (hc i hi)⟩

def succI (i : Ins) (at_ : Int) : List Int := if i.op = 1 then [] else if i.op = 24 then [at_ + 1 + i.imm] else if i.op = 22 ∨ i.op = 23 then [at_ + 1, at_ + 1 + i.imm] else [at_ + 1]
theorem succI_len (i : Ins) (at_ : Int) : (succI i at_).length ≤ 2 := by
  unfold succI
  split
  · simp
  · split
    · simp
    · split <;> simp

theorem ints_new1 (w : World) (a : Int) (t : TypeId) : Ints (w.alloc (.cells #[.int .i64 a] t)) (.slice (some ⟨w.heap.size, 0, none⟩) 1 1) [a] := by
  refine ⟨_, 1, rfl, Nat.le_refl _, by unfold maxLen; omega, fun _ => ⟨_, 0, rfl, by simp, fun i hi => ?_⟩⟩
  obtain rfl : i = 0 := by simp at hi; omega
  unfold World.cell?
  rw [heap_alloc_new]
  rfl
theorem ints_new2 (w : World) (a b : Int) (t : TypeId) : Ints (w.alloc (.cells #[.int .i64 a, .int .i64 b] t)) (.slice (some ⟨w.heap.size, 0, none⟩) 2 2) [a, b] := by
  refine ⟨_, 2, rfl, Nat.le_refl _, by unfold maxLen; omega, fun _ => ⟨_, 0, rfl, by simp, fun i hi => ?_⟩⟩
  obtain rfl | rfl : i = 0 ∨ i = 1 := by simp at hi; omega
  all_goals
    unfold World.cell?
    rw [heap_alloc_new]
    rfl

theorem ints_new1' (w : World) {a a' : Int} (t : TypeId) (h : a = a') : Ints (w.alloc (.cells #[.int .i64 a] t)) (.slice (some ⟨w.heap.size, 0, none⟩) 1 1) [a'] := h ▸ ints_new1 w a t
theorem ints_new2' (w : World) {a a' b b' : Int} (t : TypeId) (h : a = a') (h' : b = b') : Ints (w.alloc (.cells #[.int .i64 a, .int .i64 b] t)) (.slice (some ⟨w.heap.size, 0, none⟩) 2 2) [a', b'] := h ▸ h' ▸ ints_new2 w a b t
theorem Ints.grown {w w' : World} {v : Value} {l : List Int} {row : Option Nat} (h : Ints w v l) (hg : w.grownBy w' row) (hne : ∀ q, v.ownBlock = some q → row ≠ some q) : Ints w' v l := by
  obtain ⟨A, cap, rfl, h2, h3, h4⟩ := h
  refine ⟨A, cap, rfl, h2, h3, fun h0 => ?_⟩
  obtain ⟨b, off, rfl, hlt, hc⟩ := h4 h0
  exact ⟨b, off, rfl, by have := hg.size; omega, fun i hi => (World.cell?_of_block (w := w) (a := ⟨b, off + i, none⟩) (hg.block b hlt (Ne.symm (hne b rfl)))).trans (hc i hi)⟩
theorem ints_nil (w : World) : Ints w (.slice none 0 0) [] := ⟨none, 0, rfl, Nat.le_refl _, by unfold maxLen; omega, fun h => by simp at h⟩

set_option maxHeartbeats 1000000 in
theorem successors_any (i : Ins) (at_ : Int) (w : World) (h1 : 0 ≤ at_) (h2 : at_ ≤ 1000000) (h3 : -1000000 ≤ i.imm) (h4 : i.imm ≤ 1000000) :
    Calls Tryd.prog 38 #[.agg #[.int .u8 i.op, .int .i64 i.a, .int .i64 i.b, .int .i64 i.c, .int .i64 i.imm], .int .i64 at_] w fun e w' => (∃ v, e = .returned v ∧ Ints w' v (succI i at_) ∧ ∀ q, v.ownBlock = some q → w.heap.size ≤ q) ∧ Below w.heap.size w w' := by
  have w1 : IntKind.i64.wrap (at_ + 1) = at_ + 1 := IntWalk.i64_in _ (by omega)
  have w2 : IntKind.i64.wrap (at_ + 1 + i.imm) = at_ + 1 + i.imm := IntWalk.i64_in _ (by omega)
  have HT := fun W : World => target_any i at_ W w1 w2
  obtain ⟨tg, htg⟩ : ∃ tg, (if isBr i.op = true then at_ + 1 + i.imm else 0) = tg := ⟨_, rfl⟩
  rw [htg] at HT
  have HG := Lib.hid htg
  clear htg w2
  have fin : ∀ (y : Ext (w.alloc (.cells #[.int .u8 i.op, .int .i64 i.a, .int .i64 i.b, .int .i64 i.c, .int .i64 i.imm] 53))), Below w.heap.size w y.w := fun y => Ext.below ((Below.refl _ _).alloc (Nat.le_refl _) _) (by simp) y
  have fin2 : ∀ (y : Ext (w.alloc (.cells #[.int .u8 i.op, .int .i64 i.a, .int .i64 i.b, .int .i64 i.c, .int .i64 i.imm] 53))) (o : Obj), Below w.heap.size w (y.w.alloc o) := fun y o => (fin y).alloc ((fin y).size) _
  have FIN := Lib.hid fin
  have FIN2 := Lib.hid fin2
  clear fin fin2
  obtain ⟨op, ia, ib, ic, imm⟩ := i
  simp only at HT HG FIN FIN2 h3 h4 ⊢
  have G := HG.out
  by_cases q1 : op = 1
  · have d1 : (op == 1) = true := by simp [q1]
    have HS := Lib.hid (show succI ⟨op, ia, ib, ic, imm⟩ at_ = [] by simp [succI, q1])
    clear G q1 HG
    go_enter Tryd.func38, Tryd.ntmps38
    go_wp2_with (go_at_call 26; refine (Calls.ext (HT _)).mono ?_; rintro e w' ⟨rfl, y, rfl⟩)
    go_ret
    rw [HS.out]
    exact ⟨⟨.slice none 0 0, rfl, ints_nil _, fun q hq => by cases hq⟩, FIN.out y⟩
  · have d1 : (op == 1) = false := by simp [q1]
    by_cases q2 : op = 24
    · have d2 : (op == 24) = true := by simp [q2]
      have HS := Lib.hid (show succI ⟨op, ia, ib, ic, imm⟩ at_ = [tg] by rw [← G]; simp [succI, q2, isBr])
      clear G q1 q2 HG
      go_enter Tryd.func38, Tryd.ntmps38
      go_wp2_with (go_at_call 26; refine (Calls.ext (HT _)).mono ?_; rintro e w' ⟨rfl, y, rfl⟩)
      go_ret
      rw [HS.out]
      exact ⟨⟨.slice (some ⟨y.w.heap.size, 0, none⟩) 1 1, rfl, ints_new1 _ _ _, fun q hq => by cases hq; exact (FIN.out y).size⟩, FIN2.out y _⟩
    · have d2 : (op == 24) = false := by simp [q2]
      by_cases q3 : op = 22
      · have d3 : (op == 22) = true := by simp [q3]
        have HS := Lib.hid (show succI ⟨op, ia, ib, ic, imm⟩ at_ = [at_ + 1, tg] by rw [← G]; simp [succI, q3, isBr])
        clear G q1 q2 q3 HG
        go_enter Tryd.func38, Tryd.ntmps38
        go_wp2_with (go_at_call 26; refine (Calls.ext (HT _)).mono ?_; rintro e w' ⟨rfl, y, rfl⟩)
        go_ret
        rw [HS.out]
        exact ⟨⟨.slice (some ⟨y.w.heap.size, 0, none⟩) 2 2, rfl, ints_new2 _ _ _ _, fun q hq => by cases hq; exact (FIN.out y).size⟩, FIN2.out y _⟩
      · have d3 : (op == 22) = false := by simp [q3]
        by_cases q4 : op = 23
        · have d4 : (op == 23) = true := by simp [q4]
          have HS := Lib.hid (show succI ⟨op, ia, ib, ic, imm⟩ at_ = [at_ + 1, tg] by rw [← G]; simp [succI, q4, isBr])
          clear G q1 q2 q3 q4 HG
          go_enter Tryd.func38, Tryd.ntmps38
          go_wp2_with (go_at_call 26; refine (Calls.ext (HT _)).mono ?_; rintro e w' ⟨rfl, y, rfl⟩)
          go_ret
          rw [HS.out]
          exact ⟨⟨.slice (some ⟨y.w.heap.size, 0, none⟩) 2 2, rfl, ints_new2 _ _ _ _, fun q hq => by cases hq; exact (FIN.out y).size⟩, FIN2.out y _⟩
        · have d4 : (op == 23) = false := by simp [q4]
          have HS := Lib.hid (show succI ⟨op, ia, ib, ic, imm⟩ at_ = [at_ + 1] by simp [succI, q1, q2, q3, q4])
          clear G q1 q2 q3 q4 HG
          go_enter Tryd.func38, Tryd.ntmps38
          go_wp2_with (go_at_call 26; refine (Calls.ext (HT _)).mono ?_; rintro e w' ⟨rfl, y, rfl⟩)
          go_ret
          rw [HS.out]
          exact ⟨⟨.slice (some ⟨y.w.heap.size, 0, none⟩) 1 1, rfl, ints_new1 _ _ _, fun q hq => by cases hq; exact (FIN.out y).size⟩, FIN2.out y _⟩

set_option maxHeartbeats 400000 in
theorem between_any (n m : Int) (w : World) : Calls Tryd.prog 40 #[.int .i64 n, .int .i64 m] w fun e w' => e = .returned (.bool (decide (0 ≤ n ∧ n ≤ m))) ∧ w = w' := by
  go_enter Tryd.func40, Tryd.ntmps40
  go_wp2
  all_goals
    go_ret
    refine ⟨ret_bool ?_, rfl⟩
    rename_i h
    first | (simp [h]; done) | (simp; omega)
set_option maxHeartbeats 400000 in
theorem goodName_any (s : ByteArray) (w : World) (hs : s.size ≤ maxLen) : Calls Tryd.prog 41 #[.string s] w fun e w' => e = .returned (.bool (decide (1 ≤ s.size ∧ s.size ≤ 12))) ∧ w = w' := by
  unfold maxLen at hs
  go_enter Tryd.func41, Tryd.ntmps41
  go_wp2
  all_goals
    go_ret
    refine ⟨ret_bool ?_, rfl⟩
    rename_i h
    have : (1 : Int) ≤ s.size ↔ 1 ≤ s.size := by omega
    have : (s.size : Int) ≤ 12 ↔ s.size ≤ 12 := by omega
    first | (simp_all; done) | (simp; omega)

end Go.Proofs.YtfceodpdipniaaaDoor
