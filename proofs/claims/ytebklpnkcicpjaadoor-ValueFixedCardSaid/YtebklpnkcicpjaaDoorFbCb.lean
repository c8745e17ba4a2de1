/-
 What is proved here: the code of an instruction as a number (plain): Decode is the inverse of Encode.
-/
import Derived.Test.YtebklpnkcicpjaaDoorFbCa
import Derived.Test.YtebklpnkcicpjaaDoorFbT
import Derived.Maps.AppendAt
import Derived.Laws.OwnMore
import Derived.WalkSmall
import Derived.Deep.CutBlock
import Derived.Deep.DeepCutAuto
import Derived.IntWalk
import Derived.Laws.MakeOwn
import Derived.RangeFuncBox
import Derived.OneCell
namespace Go.Proofs.YtebklpnkcicpjaaDoor
open Go.RowKit
set_option linter.unusedVariables false
set_option linter.unusedSimpArgs false

def Ints (w : World) (v : Value) (l : List Int) : Prop :=
 ∃ A cap, v = .slice A l.length cap ∧ l.length ≤ cap ∧ cap ≤ maxLen ∧ (0 < l.length → ∃ b off, A = some ⟨b, off, none⟩ ∧ b < w.heap.size ∧ ∀ i, i < l.length → w.cell? ⟨b, off + i, none⟩ = some (.int .i64 (l.getD i 0)))
theorem Ints.below {w w' : World} {v : Value} {l : List Int} (h : Ints w v l) (hb : Below w.heap.size w w') : Ints w' v l := by
 obtain ⟨A, cap, h1, h2, h3, h4⟩ := h
 refine ⟨A, cap, h1, h2, h3, fun h0 => ?_⟩
 obtain ⟨b, off, ha, hlt, hc⟩ := h4 h0
 exact ⟨b, off, ha, by have := hb.size; omega, fun i hi => (hb.cell (p := ⟨b, off + i, none⟩) hlt).trans (hc i hi)⟩

def succI (i : Ins) (at_ : Int) : List Int := if i.op = 1 then [] else if i.op = 24 then [at_ + 1 + i.imm] else if i.op = 22 ∨ i.op = 23 then [at_ + 1, at_ + 1 + i.imm] else [at_ + 1]
theorem succI_len (i : Ins) (at_ : Int) : (succI i at_).length ≤ 2 := by
 unfold succI
 split
 ·simp
 ·split
  ·simp
  ·split <;> simp

theorem ints_new1 (w : World) (a : Int) (t : TypeId) : Ints (w.alloc (.cells #[.int .i64 a] t)) (.slice (some ⟨w.heap.size, 0, none⟩) 1 1) [a] := by
 refine ⟨_, 1, rfl, Nat.le_refl _, by unfold maxLen; omega, fun _ => ⟨_, 0, rfl, by simp, fun i hi => ?_⟩⟩
 obtain rfl : i = 0 := by simp at hi; omega
 unfold World.cell?
 rw [heap_alloc_new]
 rfl
theorem ints_new2 (w : World) (a b : Int) (t : TypeId) : Ints (w.alloc (.cells #[.int .i64 a, .int .i64 b] t)) (.slice (some ⟨w.heap.size, 0, none⟩) 2 2) [a, b] := by
 refine ⟨_, 2, rfl, Nat.le_refl _, by unfold maxLen; omega, fun _ => ⟨_, 0, rfl, by simp, fun i hi => ?_⟩⟩
 obtain rfl | rfl : i = 0 ∨ i = 1 := by simp at hi; omega
 all_goals
  unfold World.cell?
  rw [heap_alloc_new]
  rfl

theorem Ints.grown {w w' : World} {v : Value} {l : List Int} {row : Option Nat} (h : Ints w v l) (hg : w.grownBy w' row) (hne : ∀ q, v.ownBlock = some q → row ≠ some q) : Ints w' v l := by
 obtain ⟨A, cap, rfl, h2, h3, h4⟩ := h
 refine ⟨A, cap, rfl, h2, h3, fun h0 => ?_⟩
 obtain ⟨b, off, rfl, hlt, hc⟩ := h4 h0
 exact ⟨b, off, rfl, by have := hg.size; omega, fun i hi => (World.cell?_of_block (w := w) (a := ⟨b, off + i, none⟩) (hg.block b hlt (Ne.symm (hne b rfl)))).trans (hc i hi)⟩
theorem ints_nil (w : World) : Ints w (.slice none 0 0) [] := ⟨none, 0, rfl, Nat.le_refl _, by unfold maxLen; omega, fun h => by simp at h⟩

set_option maxHeartbeats 1000000 in
theorem successors_any (i : Ins) (at_ : Int) (w : World) (h1 : 0 ≤ at_) (h2 : at_ ≤ 1000000) (h3 : -1000000 ≤ i.imm) (h4 : i.imm ≤ 1000000) :
  Calls Tryd.prog 57 #[.agg #[.int .u8 i.op, .int .i64 i.a, .int .i64 i.b, .int .i64 i.c, .int .i64 i.imm], .int .i64 at_] w fun e w' => (∃ v, e = .returned v ∧ Ints w' v (succI i at_) ∧ ∀ q, v.ownBlock = some q → w.heap.size ≤ q) ∧ Below w.heap.size w w' := by
 have w1 : IntKind.i64.wrap (at_ + 1) = at_ + 1 := IntWalk.i64_in _ (by omega)
 have w2 : IntKind.i64.wrap (at_ + 1 + i.imm) = at_ + 1 + i.imm := IntWalk.i64_in _ (by omega)
 have HT := fun W : World => target_any i at_ W w1 w2
 obtain ⟨tg, htg⟩ : ∃ tg, (if isBr i.op = true then at_ + 1 + i.imm else 0) = tg := ⟨_, rfl⟩
 rw [htg] at HT
 have HG := Lib.hid htg
 clear htg w2
 have fin : ∀ (y : Ext (w.alloc (.cells #[.int .u8 i.op, .int .i64 i.a, .int .i64 i.b, .int .i64 i.c, .int .i64 i.imm] 23))), Below w.heap.size w y.w := fun y => Ext.below ((Below.refl _ _).alloc (Nat.le_refl _) _) (by simp) y
 have fin2 : ∀ (y : Ext (w.alloc (.cells #[.int .u8 i.op, .int .i64 i.a, .int .i64 i.b, .int .i64 i.c, .int .i64 i.imm] 23))) (o : Obj), Below w.heap.size w (y.w.alloc o) := fun y o => (fin y).alloc ((fin y).size) _
 have FIN := Lib.hid fin
 have FIN2 := Lib.hid fin2
 clear fin fin2
 obtain ⟨op, ia, ib, ic, imm⟩ := i
 simp only at HT HG FIN FIN2 h3 h4 ⊢
 have G := HG.out
 by_cases q1 : op = 1
 ·have d1 : (op == 1) = true := by simp [q1]
  have HS := Lib.hid (show succI ⟨op, ia, ib, ic, imm⟩ at_ = [] by simp [succI, q1])
  clear G q1 HG
  go_enter Tryd.func57, Tryd.ntmps57
  go_wp2_with (go_at_call 81; refine (Calls.ext (HT _)).mono ?_; rintro e w' ⟨rfl, y, rfl⟩)
  go_ret
  rw [HS.out]
  exact ⟨⟨.slice none 0 0, rfl, ints_nil _, fun q hq => by cases hq⟩, FIN.out y⟩
 ·have d1 : (op == 1) = false := by simp [q1]
  by_cases q2 : op = 24
  ·have d2 : (op == 24) = true := by simp [q2]
   have HS := Lib.hid (show succI ⟨op, ia, ib, ic, imm⟩ at_ = [tg] by rw [← G]; simp [succI, q2, isBr])
   clear G q1 q2 HG
   go_enter Tryd.func57, Tryd.ntmps57
   go_wp2_with (go_at_call 81; refine (Calls.ext (HT _)).mono ?_; rintro e w' ⟨rfl, y, rfl⟩)
   go_ret
   rw [HS.out]
   exact ⟨⟨.slice (some ⟨y.w.heap.size, 0, none⟩) 1 1, rfl, ints_new1 _ _ _, fun q hq => by cases hq; exact (FIN.out y).size⟩, FIN2.out y _⟩
  ·have d2 : (op == 24) = false := by simp [q2]
   by_cases q3 : op = 22
   ·have d3 : (op == 22) = true := by simp [q3]
    have HS := Lib.hid (show succI ⟨op, ia, ib, ic, imm⟩ at_ = [at_ + 1, tg] by rw [← G]; simp [succI, q3, isBr])
    clear G q1 q2 q3 HG
    go_enter Tryd.func57, Tryd.ntmps57
    go_wp2_with (go_at_call 81; refine (Calls.ext (HT _)).mono ?_; rintro e w' ⟨rfl, y, rfl⟩)
    go_ret
    rw [HS.out]
    exact ⟨⟨.slice (some ⟨y.w.heap.size, 0, none⟩) 2 2, rfl, ints_new2 _ _ _ _, fun q hq => by cases hq; exact (FIN.out y).size⟩, FIN2.out y _⟩
   ·have d3 : (op == 22) = false := by simp [q3]
    by_cases q4 : op = 23
    ·have d4 : (op == 23) = true := by simp [q4]
     have HS := Lib.hid (show succI ⟨op, ia, ib, ic, imm⟩ at_ = [at_ + 1, tg] by rw [← G]; simp [succI, q4, isBr])
     clear G q1 q2 q3 q4 HG
     go_enter Tryd.func57, Tryd.ntmps57
     go_wp2_with (go_at_call 81; refine (Calls.ext (HT _)).mono ?_; rintro e w' ⟨rfl, y, rfl⟩)
     go_ret
     rw [HS.out]
     exact ⟨⟨.slice (some ⟨y.w.heap.size, 0, none⟩) 2 2, rfl, ints_new2 _ _ _ _, fun q hq => by cases hq; exact (FIN.out y).size⟩, FIN2.out y _⟩
    ·have d4 : (op == 23) = false := by simp [q4]
     have HS := Lib.hid (show succI ⟨op, ia, ib, ic, imm⟩ at_ = [at_ + 1] by simp [succI, q1, q2, q3, q4])
     clear G q1 q2 q3 q4 HG
     go_enter Tryd.func57, Tryd.ntmps57
     go_wp2_with (go_at_call 81; refine (Calls.ext (HT _)).mono ?_; rintro e w' ⟨rfl, y, rfl⟩)
     go_ret
     rw [HS.out]
     exact ⟨⟨.slice (some ⟨y.w.heap.size, 0, none⟩) 1 1, rfl, ints_new1 _ _ _, fun q hq => by cases hq; exact (FIN.out y).size⟩, FIN2.out y _⟩

set_option maxHeartbeats 400000 in
theorem between_any (n m : Int) (w : World) : Calls Tryd.prog 78 #[.int .i64 n, .int .i64 m] w fun e w' => e = .returned (.bool (decide (0 ≤ n ∧ n ≤ m))) ∧ w = w' := by
 go_enter Tryd.func78, Tryd.ntmps78
 go_wp2
 all_goals
  go_ret
  refine ⟨ret_bool ?_, rfl⟩
  rename_i h
  first | (simp [h]; done) | (simp; omega)
set_option maxHeartbeats 400000 in
theorem goodName_any (s : ByteArray) (w : World) (hs : s.size ≤ maxLen) : Calls Tryd.prog 79 #[.string s] w fun e w' => e = .returned (.bool (decide (1 ≤ s.size ∧ s.size ≤ 12))) ∧ w = w' := by
 unfold maxLen at hs
 go_enter Tryd.func79, Tryd.ntmps79
 go_wp2
 all_goals
  go_ret
  refine ⟨ret_bool ?_, rfl⟩
  rename_i h
  have : (1 : Int) ≤ s.size ↔ 1 ≤ s.size := by omega
  have : (s.size : Int) ≤ 12 ↔ s.size ≤ 12 := by omega
  first | (simp_all; done) | (simp; omega)

end Go.Proofs.YtebklpnkcicpjaaDoor

namespace Go.Proofs.YtebklpnkcicpjaaDoor
open Go.RowKit
set_option linter.unusedVariables false
set_option linter.unusedSimpArgs false

theorem fm_imm : ∀ k, k < 30 → -131072 ≤ lowOf (fm k) 3 ∧ highOf (fm k) 3 ≤ 131071 := by decide
theorem decI_imm (x : Int) (h0 : 0 ≤ x) : -131072 ≤ (decI x).1.imm ∧ (decI x).1.imm ≤ 131071 := by
 unfold decI
 split
 ·rename_i h
  obtain ⟨h1, h2⟩ := h
  have hv : validI (decOf x) = true := by
   unfold encI at h2
   split at h2
   ·assumption
   ·simp at h2
  unfold validI at hv
  simp only [Bool.and_eq_true, decide_eq_true_eq] at hv
  obtain ⟨v1, ⟨v2, v3⟩, v4⟩ := hv
  have ho : (decOf x).op = x / 67108864 := decF_op x _
  obtain ⟨k, hk⟩ : ∃ k : Nat, x / 67108864 = (k : Int) := ⟨(x / 67108864).toNat, by omega⟩
  rw [ho, hk] at v4
  have hk30 : k < 30 := by omega
  have := fm_imm k hk30
  unfold okAt at v4
  simp only [Int.toNat_natCast] at v4
  have e : (decOf x).at_ 3 = (decOf x).imm := rfl
  rw [e] at v4
  simp only
  omega
 ·simp
theorem decI_op (x : Int) (h0 : 0 ≤ x) (h1 : x < 4294967296) : 0 ≤ (decI x).1.op ∧ (decI x).1.op < 30 := by
 unfold decI
 split
 ·rename_i h
  have ho : (decOf x).op = x / 67108864 := decF_op x _
  simp only [ho]
  omega
 ·simp

section
variable (c : Int → Ins) (st en : Int)

def pushI (at_ : Int) (p : List Int × Int) (s : Int) : List Int × Int := if st ≤ s ∧ s < en then (p.1 ++ [s], p.2) else (p.1, if p.2 < 0 ∨ at_ < p.2 then at_ else p.2)

inductive Rch : Int → Prop
 | start : Rch st
 | step {a t : Int} : Rch a → t ∈ succI (c a) a → st ≤ t → t < en → Rch t
theorem Rch.range {a : Int} (h : Rch c st en a) (hs : st < en) : st ≤ a ∧ a < en := by
 cases h with
 | start => omega
 | step _ _ h1 h2 => exact ⟨h1, h2⟩
def Bads (a : Int) : Prop := ∃ t ∈ succI (c a) a, ¬ (st ≤ t ∧ t < en)

structure RInv (D W : List Int) (bad : Int) : Prop where
 nd : D.Nodup
 dr : ∀ a ∈ D, Rch c st en a
 wr : ∀ a ∈ W, Rch c st en a
 cl : ∀ a ∈ D, ∀ t ∈ succI (c a) a, st ≤ t → t < en → t ∈ D ∨ t ∈ W
 s : st ∈ D ∨ st ∈ W
 b : (bad = -1 ∧ ∀ a ∈ D, ¬ Bads c st en a) ∨ (bad ∈ D ∧ Bads c st en bad ∧ ∀ a ∈ D, Bads c st en a → bad ≤ a)
variable {c st en}
theorem RInv.first : RInv c st en [] [st] (-1) :=
 ⟨by simp, by simp, by simpa using Rch.start, by simp, by simp, .inl ⟨rfl, by simp⟩⟩
theorem RInv.skip {D W : List Int} {bad a : Int} (h : RInv c st en D (W ++ [a]) bad) (ha : a ∈ D) : RInv c st en D W bad :=
 ⟨h.nd, h.dr, fun x hx => h.wr x (by simp [hx]), fun x hx t ht h1 h2 => by
   rcases h.cl x hx t ht h1 h2 with h3 | h3
   ·exact .inl h3
   ·rcases List.mem_append.1 h3 with h4 | h4
    ·exact .inr h4
    ·simp at h4; exact .inl (h4 ▸ ha), by
   rcases h.s with h3 | h3
   ·exact .inl h3
   ·rcases List.mem_append.1 h3 with h4 | h4
    ·exact .inr h4
    ·simp at h4; exact .inl (h4 ▸ ha), h.b⟩
theorem push_spec (a : Int) (ha : 0 ≤ a) : ∀ (l : List Int) (W : List Int) (bad : Int), (bad = -1 ∨ 0 ≤ bad) →
  (∀ x, x ∈ (l.foldl (pushI st en a) (W, bad)).1 ↔ x ∈ W ∨ (x ∈ l ∧ st ≤ x ∧ x < en)) ∧
  ((∀ t ∈ l, st ≤ t ∧ t < en) → (l.foldl (pushI st en a) (W, bad)).2 = bad) ∧
  ((∃ t ∈ l, ¬ (st ≤ t ∧ t < en)) → (l.foldl (pushI st en a) (W, bad)).2 = if bad < 0 ∨ a < bad then a else bad) ∧
  (l.foldl (pushI st en a) (W, bad)).1.length ≤ W.length + l.length := by
 intro l
 induction l with
 | nil => intro W bad hb; exact ⟨by simp, by simp, by simp, by simp⟩
 | cons s l ih =>
  intro W bad hb
  rw [List.foldl_cons]
  by_cases hs : st ≤ s ∧ s < en
  ·have e : pushI st en a (W, bad) s = (W ++ [s], bad) := by unfold pushI; rw [if_pos hs]
   rw [e]
   obtain ⟨i1, i2, i3, i4⟩ := ih (W ++ [s]) bad hb
   refine ⟨fun x => ?_, fun h => i2 (fun t ht => h t (by simp [ht])), fun ⟨t, ht, hn⟩ => i3 ⟨t, ?_, hn⟩, ?_⟩
   ·rw [i1]
    constructor
    ·rintro (h | ⟨h1, h2⟩)
     ·rcases List.mem_append.1 h with h | h
      ·exact .inl h
      ·simp at h; subst h; exact .inr ⟨by simp, hs⟩
     ·exact .inr ⟨by simp [h1], h2⟩
    ·rintro (h | ⟨h1, h2⟩)
     ·exact .inl (by simp [h])
     ·rcases List.mem_cons.1 h1 with rfl | h1
      ·exact .inl (by simp)
      ·exact .inr ⟨h1, h2⟩
   ·rcases List.mem_cons.1 ht with rfl | ht
    ·exact absurd hs hn
    ·exact ht
   ·simp at i4 ⊢; omega
  ·have e : pushI st en a (W, bad) s = (W, if bad < 0 ∨ a < bad then a else bad) := by unfold pushI; rw [if_neg hs]
   rw [e]
   obtain ⟨i1, i2, i3, i4⟩ := ih W (if bad < 0 ∨ a < bad then a else bad) (by split <;> omega)
   refine ⟨fun x => ?_, fun h => absurd (h s (by simp)) hs, fun _ => ?_, ?_⟩
   ·rw [i1]
    constructor
    ·rintro (h | ⟨h1, h2⟩)
     ·exact .inl h
     ·exact .inr ⟨by simp [h1], h2⟩
    ·rintro (h | ⟨h1, h2⟩)
     ·exact .inl h
     ·rcases List.mem_cons.1 h1 with rfl | h1
      ·exact absurd h2 hs
      ·exact .inr ⟨h1, h2⟩
   ·by_cases hl : ∀ t ∈ l, st ≤ t ∧ t < en
    ·exact i2 hl
    ·simp only [Classical.not_forall] at hl
     obtain ⟨t, ht, hn⟩ := hl
     rw [i3 ⟨t, ht, hn⟩]
     split
     ·rename_i h; split <;> simp
     ·rfl
   ·simp; omega
theorem RInv.push {D W : List Int} {bad a : Int} (h : RInv c st en D (W ++ [a]) bad) (ha : a ∉ D) (h0 : 0 ≤ st) (hse : st < en) :
  RInv c st en (a :: D) ((succI (c a) a).foldl (pushI st en a) (W, bad)).1 ((succI (c a) a).foldl (pushI st en a) (W, bad)).2 := by
 have ra := h.wr a (by simp)
 have hr := ra.range c st en hse
 have hbd : bad = -1 ∨ 0 ≤ bad := by
  rcases h.b with h1 | h1
  ·exact .inl h1.1
  ·have := (h.dr bad h1.1).range c st en hse
   omega
 obtain ⟨p1, p2, p3, p4⟩ := push_spec (st := st) (en := en) a (by omega) (succI (c a) a) W bad hbd
 refine ⟨by simp [ha, h.nd], fun x hx => ?_, fun x hx => ?_, fun x hx t ht h1 h2 => ?_, ?_, ?_⟩
 ·rcases List.mem_cons.1 hx with rfl | hx
  ·exact ra
  ·exact h.dr x hx
 ·rcases (p1 x).1 hx with h1 | ⟨h1, h2, h3⟩
  ·exact h.wr x (by simp [h1])
  ·exact Rch.step ra h1 h2 h3
 ·rcases List.mem_cons.1 hx with rfl | hx
  ·exact .inr ((p1 t).2 (.inr ⟨ht, h1, h2⟩))
  ·rcases h.cl x hx t ht h1 h2 with h3 | h3
   ·exact .inl (by simp [h3])
   ·rcases List.mem_append.1 h3 with h4 | h4
    ·exact .inr ((p1 t).2 (.inl h4))
    ·simp at h4; exact .inl (by simp [h4])
 ·rcases h.s with h3 | h3
  ·exact .inl (by simp [h3])
  ·rcases List.mem_append.1 h3 with h4 | h4
   ·exact .inr ((p1 _).2 (.inl h4))
   ·simp at h4; exact .inl (by simp [h4])
 ·by_cases hB : Bads c st en a
  ·right
   rw [p3 hB]
   rcases h.b with ⟨rfl, h2⟩ | ⟨h1, h2, h3⟩
   ·rw [if_pos (by omega)]
    refine ⟨by simp, hB, fun x hx hx2 => ?_⟩
    rcases List.mem_cons.1 hx with rfl | hx
    ·omega
    ·exact absurd hx2 (h2 x hx)
   ·have := (h.dr bad h1).range c st en hse
    split
    ·rename_i hlt
     refine ⟨by simp, hB, fun x hx hx2 => ?_⟩
     rcases List.mem_cons.1 hx with rfl | hx
     ·omega
     ·have := h3 x hx hx2; omega
    ·rename_i hlt
     refine ⟨by simp [h1], h2, fun x hx hx2 => ?_⟩
     rcases List.mem_cons.1 hx with rfl | hx
     ·omega
     ·exact h3 x hx hx2
  ·have hall : ∀ t ∈ succI (c a) a, st ≤ t ∧ t < en := fun t ht => Classical.byContradiction fun hn => hB ⟨t, ht, hn⟩
   rw [p2 hall]
   rcases h.b with ⟨h1, h2⟩ | ⟨h1, h2, h3⟩
   ·refine .inl ⟨h1, fun x hx => ?_⟩
    rcases List.mem_cons.1 hx with rfl | hx
    ·exact hB
    ·exact h2 x hx
   ·refine .inr ⟨by simp [h1], h2, fun x hx hx2 => ?_⟩
    rcases List.mem_cons.1 hx with rfl | hx
    ·exact absurd hx2 hB
    ·exact h3 x hx hx2
theorem RInv.mem {D : List Int} {bad : Int} (h : RInv c st en D [] bad) (hse : st < en) (a : Int) : a ∈ D ↔ Rch c st en a := by
 constructor
 ·exact h.dr a
 ·intro ha
  induction ha with
  | start => rcases h.s with h1 | h1; exact h1; cases h1
  | step h1 h2 h3 h4 ih => rcases h.cl _ ih _ h2 h3 h4 with h5 | h5; exact h5; cases h5
theorem RInv.count {D W : List Int} {bad : Int} (h : RInv c st en D W bad) (hse : st < en) : D.length ≤ (en - st).toNat := by
 have key : ∀ (n : Nat) (D : List Int), D.Nodup → (∀ a ∈ D, st ≤ a ∧ a < st + n) → D.length ≤ n := by
  intro n
  induction n with
  | zero =>
   intro D _ hD
   cases D with
   | nil => simp
   | cons a D => have := hD a (by simp); omega
  | succ n ih =>
   intro D hn hD
   have h1 : (D.erase (st + n)).length ≤ n := ih _ (hn.erase _) (fun a ha => by
    have h2 := (hn.mem_erase_iff).1 ha
    have := hD a h2.2
    have := h2.1
    omega)
   rw [List.length_erase] at h1
   split at h1 <;> omega
 refine key _ D h.nd (fun a ha => ?_)
 have := (h.dr a ha).range c st en hse
 omega
end

def fnd (c : Int → Ins) (D : List Int) : Int → Option Value := fun k => if k ∈ D then some (c k).val else none
theorem fnd_nil (c : Int → Ins) : fnd c [] = fun _ => none := by funext k; simp [fnd]
theorem fnd_cons (c : Int → Ins) (D : List Int) (a : Int) : updo (fnd c D) a (c a).val = fnd c (a :: D) := by
 funext k
 unfold updo fnd
 by_cases h : k = a
 ·simp [h]
 ·simp [h]

end Go.Proofs.YtebklpnkcicpjaaDoor

namespace Go.Proofs.YtebklpnkcicpjaaDoor
open Go.RowKit
set_option linter.unusedVariables false
set_option linter.unusedSimpArgs false

theorem ownsRow_below {w w' : World} {base : Nat} {e : TypeId} {size : Nat} {v : Value} {n : Nat} {xs : List Value} (h : w.ownsRow base e size v n xs) (hb : Below w.heap.size w w') : w'.ownsRow base e size v n xs :=
 h.kept (row := none) ⟨hb.os, hb.tape, hb.output, hb.size, fun k hk _ => hb.block k hk⟩ (by
  cases hv : v.ownBlock with
  | none => exact .inl rfl
  | some k => exact .inr (by simp))
theorem ownsRow_base {w : World} {base base' : Nat} {e : TypeId} {size : Nat} {v : Value} {n : Nat} {xs : List Value} (h : w.ownsRow base e size v n xs) (hb : base' ≤ base) : w.ownsRow base' e size v n xs := by
 refine ⟨h.1, ?_⟩
 rcases h.2 with h1 | ⟨g, cap, cur, h1, h2, h3⟩
 ·exact .inl h1
 ·exact .inr ⟨g, cap, cur, h1, by omega, h3⟩
abbrev ivs (l : List Int) : List Value := l.map (Value.int .i64)

structure Words (w : World) (v : Value) (n : Nat) (cd : Nat → Int) : Prop where
 le : n ≤ 1000000
 wd : ∀ i, i < n → 0 ≤ cd i ∧ cd i < 4294967296
 at_ : ∃ A cap, v = .slice A n cap ∧ n ≤ cap ∧ cap ≤ maxLen ∧ (0 < n → ∃ b off, A = some ⟨b, off, none⟩ ∧ b < w.heap.size ∧ ∀ i, i < n → w.cell? ⟨b, off + i, none⟩ = some (.int .u32 (cd i)))
theorem Words.below {w w' : World} {v : Value} {n : Nat} {cd : Nat → Int} (h : Words w v n cd) (hb : Below w.heap.size w w') : Words w' v n cd := by
 obtain ⟨A, cap, h1, h2, h3, h4⟩ := h.at_
 refine ⟨h.le, h.wd, A, cap, h1, h2, h3, fun h0 => ?_⟩
 obtain ⟨b, off, ha, hlt, hc⟩ := h4 h0
 exact ⟨b, off, ha, by have := hb.size; omega, fun i hi => (hb.cell (p := ⟨b, off + i, none⟩) hlt).trans (hc i hi)⟩
def insAt (cd : Nat → Int) (a : Int) : Ins := (decI (cd a.toNat)).1

structure RC (w wr : World) (eb mb : Nat) (cv ev : Value) (sh lk : Int) (nm : ByteArray) (st en da : Int) (f : Int → Option Value) : Prop where
 e1 : eb = w.heap.size + 1
 m1 : mb = w.heap.size + 2
 sz : w.heap.size + 3 ≤ wr.heap.size
 bel : Below w.heap.size w wr
 i0 : wr.heap[w.heap.size]? = some (.cells #[cv, ev, .int .i64 sh, .int .i64 lk] 38 (0, 0))
 e0 : wr.heap[eb]? = some (.cells #[.string nm, .int .i64 st, .int .i64 en, .int .i64 da] 102 (0, 0))
 map : Im wr mb f
theorem RC.below {w wr wr' : World} {eb mb : Nat} {cv ev : Value} {sh lk : Int} {nm : ByteArray} {st en da : Int} {f : Int → Option Value} (h : RC w wr eb mb cv ev sh lk nm st en da f) (hb : Below (w.heap.size + 3) wr wr') : RC w wr' eb mb cv ev sh lk nm st en da f :=
 ⟨h.e1, h.m1, by have := hb.size; have := h.sz; omega, h.bel.trans (hb.mono (by omega)), (hb.block _ (by omega)).trans h.i0, (hb.block _ (by have := h.e1; omega)).trans h.e0, h.map.keep (hb.block _ (by have := h.m1; omega))⟩
theorem RC.put {w wr wr' : World} {eb mb : Nat} {cv ev : Value} {sh lk : Int} {nm : ByteArray} {st en da : Int} {f g : Int → Option Value} (h : RC w wr eb mb cv ev sh lk nm st en da f) (hm : Im wr' mb g) (ho : wr'.os = wr.os) (ht : wr'.tape = wr.tape) (hp : wr'.output = wr.output) (hs : wr'.heap.size = wr.heap.size) (hk : ∀ i, i ≠ mb → wr'.heap[i]? = wr.heap[i]?) : RC w wr' eb mb cv ev sh lk nm st en da g :=
 ⟨h.e1, h.m1, by have := h.sz; omega, h.bel.trans ⟨ho, ht, hp, by omega, fun k hk' => hk k (by have := h.m1; omega)⟩, (hk _ (by have := h.m1; omega)).trans h.i0, (hk _ (by have := h.m1; have := h.e1; omega)).trans h.e0, hm⟩
theorem RC.cells {w wr : World} {eb mb : Nat} {cv ev : Value} {sh lk : Int} {nm : ByteArray} {st en da : Int} {f : Int → Option Value} (h : RC w wr eb mb cv ev sh lk nm st en da f) :
  wr.cell? ⟨w.heap.size, 0, none⟩ = some cv ∧ wr.cell? ⟨eb, 1, none⟩ = some (.int .i64 st) ∧ wr.cell? ⟨eb, 2, none⟩ = some (.int .i64 en) :=
 ⟨by simp [World.cell?, h.i0], by simp [World.cell?, h.e0], by simp [World.cell?, h.e0]⟩

theorem heap_alloc_at (w : World) (o : Obj) {k : Nat} (h : k = w.heap.size) : (w.alloc o).heap[k]? = some o := by rw [h]; exact heap_alloc_new w o
theorem infoI : (Tryd.prog.info? 3).map (fun i => (i.zero, i.size, i.bytes)) = some (some (.int .i64 0), 1, 8) := by kernel_rfl
theorem grown_setBlock {w w' : World} {b : Nat} (ho : w'.os = w.os) (ht : w'.tape = w.tape) (hp : w'.output = w.output) (hs : w'.heap.size = w.heap.size) (hk : ∀ i, i ≠ b → w'.heap[i]? = w.heap[i]?) : w.grownBy w' (some b) :=
 ⟨ho, ht, hp, by omega, fun k _ hne => hk k (fun e => hne (by rw [e]))⟩
theorem push_len {st en a : Int} (ha : 0 ≤ a) (l W : List Int) (bad : Int) (hb : bad = -1 ∨ 0 ≤ bad) : (l.foldl (pushI st en a) (W, bad)).1.length ≤ W.length + l.length := (push_spec (st := st) (en := en) a ha l W bad hb).2.2.2
theorem foldl_take {α β : Type} (f : β → α → β) (b : β) (l : List α) (j : Nat) (h : j < l.length) : (l.take (j + 1)).foldl f b = f ((l.take j).foldl f b) l[j] := by
 rw [List.take_add_one, List.getElem?_eq_getElem h, List.foldl_append]
 rfl
theorem ins_zero (w : World) : (zeroValue 23).run Tryd.prog w = .ok (.agg #[.int .u8 0, .int .i64 0, .int .i64 0, .int .i64 0, .int .i64 0]) w := by kernel_rfl
theorem snoc_cases {α : Type} (l : List α) : l = [] ∨ ∃ t a, l = t ++ [a] := by
 rcases List.eq_nil_or_concat l with h | ⟨t, a, h⟩
 ·exact .inl h
 ·exact .inr ⟨t, a, by simpa using h⟩

set_option maxHeartbeats 4000000 in
set_option maxRecDepth 20000 in
theorem reach_any (cv ev : Value) (sh lk : Int) (nm : ByteArray) (st en da : Int) (n : Nat) (cd : Nat → Int) (w : World) (T : Tab w) (HW : Words w cv n cd) (h0 : 0 ≤ st) (h1 : st < en) (h2 : en ≤ n) :
  Calls Tryd.prog 55 #[.agg #[cv, ev, .int .i64 sh, .int .i64 lk], .agg #[.string nm, .int .i64 st, .int .i64 en, .int .i64 da]] w fun e w' => ∃ D bad mb, e = .returned (.tuple #[.map (some mb), .int .i64 bad]) ∧ w.heap.size ≤ mb ∧ RInv (insAt cd) st en D [] bad ∧ Im w' mb (fnd (insAt cd) D) ∧ Below w.heap.size w w' := by
 have hn := HW.le
 obtain ⟨A, cap, rfl, hc1, hc2, hrd⟩ := HW.at_
 obtain ⟨b, off, rfl, hb, hcell⟩ := hrd (by omega)
 have HWd := Lib.hid HW.wd
 have HCell := Lib.hid hcell
 have HT := Lib.hid T
 clear HW hrd hcell T
 obtain ⟨i0, hi0, hz0, hz1, hz2⟩ := info_parts infoI
 have mk := fun W : World => (show (Instr.makeMap 130 none).run Tryd.prog W = .ok (.map (some W.heap.size)) (W.alloc (.map #[] 0)) from rfl)
 go_enter Tryd.func55, Tryd.ntmps55
 go_upto_region 4 with fail
 obtain ⟨V, hV⟩ : ∃ V, (((w.alloc (.cells #[.slice (some ⟨b, off, none⟩) n cap, ev, .int .i64 sh, .int .i64 lk] 38)).alloc (.cells #[.string nm, .int .i64 st, .int .i64 en, .int .i64 da] 102)).alloc (.map #[] 0)).alloc (.cells #[.int .i64 st] 3) = V := ⟨_, rfl⟩
 have hr0 : RC w V (w.heap.size + 1) (w.heap.size + 1 + 1) (.slice (some ⟨b, off, none⟩) n cap) ev sh lk nm st en da (fnd (insAt cd) []) := by
  subst hV
  refine ⟨rfl, rfl, by simp, ?_, ?_, ?_, ?_⟩
  ·exact ((((Below.refl _ _).alloc (Nat.le_refl _) _).alloc (by simp) _).alloc (by simp; omega) _).alloc (by simp; omega) _
  ·rw [heap_alloc_old _ _ (by simp; omega), heap_alloc_old _ _ (by simp; omega), heap_alloc_old _ _ (by simp)]
   exact heap_alloc_new _ _
  ·rw [heap_alloc_old _ _ (by simp; try omega), heap_alloc_old _ _ (by simp)]
   exact heap_alloc_at _ _ (by simp)
  ·rw [fnd_nil]
   have e : w.heap.size + 1 + 1 = ((w.alloc (.cells #[.slice (some ⟨b, off, none⟩) n cap, ev, .int .i64 sh, .int .i64 lk] 38)).alloc (.cells #[.string nm, .int .i64 st, .int .i64 en, .int .i64 da] 102)).heap.size := by simp
   rw [e]
   exact (Im.made _).keep (heap_alloc_old _ _ (by simp))
 have hw0 : V.ownsRow (w.heap.size + 3) 3 1 (.slice (some ⟨w.heap.size + 1 + 1 + 1, 0, none⟩) 1 1) 1 (ivs [st]) := by
  subst hV
  refine ⟨rfl, .inr ⟨w.heap.size + 3, 1, #[.int .i64 st], rfl, Nat.le_refl _, ?_, Nat.le_refl _, by unfold maxLen; omega, rfl, rfl⟩⟩
  exact heap_alloc_at _ _ (by simp)
 rw [hV]
 obtain ⟨eb, heb⟩ : ∃ eb, w.heap.size + 1 = eb := ⟨_, rfl⟩
 rw [heb] at hr0 hw0 ⊢
 obtain ⟨mb, hmb⟩ : ∃ mb, eb + 1 = mb := ⟨_, rfl⟩
 rw [hmb] at hr0 hw0 ⊢
 have HR0 := Lib.hid hr0
 have HW0 := Lib.hid hw0
 clear hV hr0 hw0
 have HI0 := Lib.hid (RInv.first (c := insAt cd) (st := st) (en := en))
 go_loopg [7, 8, 9, 10, 11, 12, 13, 15] (3 * (en - st).toNat + 1) (fun gk a7 a8 a9 a10 a11 a12 a13 a15 wr => ∃ (D W : List Int) (bad : Int), a7 = .int .i64 bad ∧ gk ≤ 3 * (en - st).toNat + 1 ∧ 3 * D.length + gk = 3 * (en - st).toNat + W.length ∧ RInv (insAt cd) st en D W bad ∧ wr.ownsRow (w.heap.size + 3) 3 1 a8 W.length (ivs W) ∧ RC w wr eb mb (.slice (some ⟨b, off, none⟩) n cap) ev sh lk nm st en da (fnd (insAt cd) D))
 case atStart => exact ⟨[], [st], -1, rfl, Nat.le_refl _, by simp, HI0.out, HW0.out, HR0.out⟩
 case round =>
  obtain ⟨D, W, bad, rfl, hgk0, hgk, hI, hown, hC⟩ := hrel
  have HI := Lib.hid hI
  have HO := Lib.hid hown
  have HC := Lib.hid hC
  clear hI hown HI0 HW0 HR0
  obtain ⟨c0, c1, c2⟩ := hC.cells
  have csz := hC.sz
  clear hC
  rcases snoc_cases W with rfl | ⟨W, at_, rfl⟩
  ·have hv : ∃ A cap', u8 = .slice A 0 cap' := by
    rcases HO.out.2 with ⟨h, _⟩ | ⟨g, cap', cur, h, _⟩
    ·exact ⟨_, _, h⟩
    ·exact ⟨_, _, h⟩
   obtain ⟨A, cap', rfl⟩ := hv
   go_wp2_with fail
   go_ret2
   exact ⟨D, bad, mb, rfl, by omega, HI.out, HC.out.map, HC.out.bel⟩
  ·have hat := (HI.out.wr at_ (by simp)).range _ _ _ h1
   obtain ⟨k, rfl⟩ : ∃ k : Nat, at_ = (k : Int) := ⟨at_.toNat, by omega⟩
   have hkn : k < n := by omega
   obtain ⟨g, cap', hv, hg3, hgs, hown', hcl⟩ : ∃ g cap', u8 = .slice (some ⟨g, 0, none⟩) (W.length + 1) cap' ∧ w.heap.size + 3 ≤ g ∧ (g < wr.heap.size ∧ W.length + 1 ≤ cap' ∧ cap' ≤ maxLen) ∧ wr.ownsRow (w.heap.size + 3) 3 1 (.slice (some ⟨g, 0, none⟩) W.length cap') W.length (ivs W) ∧ wr.cell? ⟨g, W.length, none⟩ = some (.int .i64 (k : Int)) := by
    have h := HO.out
    have e1 : ivs (W ++ [(k : Int)]) = ivs W ++ [.int .i64 (k : Int)] := by simp [ivs]
    have e2 : (W ++ [(k : Int)]).length = W.length + 1 := by simp
    rw [e1, e2] at h
    rcases h.2 with ⟨_, hz⟩ | ⟨g, cap', cur, hv, hg, hgs, hcap, hmax, hs1, hs2⟩
    ·omega
    ·subst hv
     refine ⟨g, cap', rfl, hg, ⟨(Array.getElem?_eq_some_iff.1 hgs).1, hcap, hmax⟩, ownsRow_pop (by simp [ivs]) h, ?_⟩
     rw [h.cellAt W.length (by omega)]
     simp [ivs]
   subst hv
   have HO' := Lib.hid hown'
   unfold maxLen at hgs
   clear hown' HO
   have hbr : b < wr.heap.size := by have := HC.out.bel.size; omega
   have x1 : wr.cell? ⟨b, off + k, none⟩ = some (.int .u32 (cd k)) := by rw [HC.out.bel.cell (p := ⟨b, off + k, none⟩) hb]; exact HCell.out k hkn
   obtain ⟨i, hi⟩ : ∃ i, insAt cd k = i := ⟨_, rfl⟩
   have hdi : (decI (cd k)).1 = i := by rw [← hi]; simp [insAt]
   have him := decI_imm (cd k) (HWd.out k hkn).1
   rw [hdi] at him
   have hcnt := HI.out.count h1
   have hgk' : 3 * D.length + gk = 3 * (en - st).toNat + (W.length + 1) := by simpa using hgk
   clear hgk
   by_cases hD : (k : Int) ∈ D
   ·have l1 := HC.out.map.look_some (P := Tryd.prog) (kt := 3) (t := 130) (e := 23) Tryd.underlying3 Tryd.underlying130 (k := (k : Int)) (v := i.val) (by unfold fnd; rw [if_pos hD, hi]) true
    simp only [↓reduceIte, Ins.val, kv] at l1
    have HG := Lib.hid (And.intro hgk' hcnt)
    clear hcnt hgk' him hdi x1 hat hkn
    go_wp2_with fail
    go_roundg (gk - 1)
    case measure => obtain ⟨hq1, hq2⟩ := HG.out; omega
    case rel =>
     refine ⟨D, W, bad, rfl, by omega, by obtain ⟨hq1, hq2⟩ := HG.out; omega, HI.out.skip hD, ownsRow_below HO'.out ((Below.refl _ _).alloc (Nat.le_refl _) _), HC.out.below ((Below.refl _ _).alloc csz _)⟩
   ·have l1 := HC.out.map.look_none (P := Tryd.prog) (kt := 3) (t := 130) (e := 23) Tryd.underlying3 Tryd.underlying130 (ins_zero wr) (k := (k : Int)) (kwf_of (by omega) (by omega)) (by unfold fnd; rw [if_neg hD]) true
    simp only [↓reduceIte, kv] at l1
    have hWl : W.length ≤ 6000000 := by omega
    have HG := Lib.hid (And.intro hgk' hcnt)
    have HPI := Lib.hid (HI.out.push hD h0 h1)
    have HCT := Lib.hid (HPI.out.count h1)
    rw [hi] at HPI
    have HDE := Lib.hid (fun (W : World) (hW : Below w.heap.size w W) => decode_any (cd k) (HWd.out k hkn).1 (HWd.out k hkn).2 W (HT.out.below hW))
    obtain ⟨er, her⟩ : ∃ er, (decI (cd k)).2 = er := ⟨_, rfl⟩
    simp only [hdi, her, Ins.val] at HDE
    obtain ⟨op, ia, ib, ic, imm⟩ := i
    simp only at HDE him
    clear hcnt hgk' hdi her
    go_upto_region 9 with fail
    obtain ⟨V1, hV1⟩ : ∃ V1, wr.alloc (.cells #[.int .u8 0, .int .i64 0, .int .i64 0, .int .i64 0, .int .i64 0] 23) = V1 := ⟨_, rfl⟩
    have b1 : Below wr.heap.size wr V1 := hV1 ▸ (Below.refl _ _).alloc (Nat.le_refl _) _
    rw [hV1]
    clear hV1
    have z1 : V1.cell? ⟨b, off + k, none⟩ = some (.int .u32 (cd k)) := by rw [b1.cell (p := ⟨b, off + k, none⟩) hbr]; exact x1
    have z2 : V1.cell? ⟨w.heap.size, 0, none⟩ = some (.slice (some ⟨b, off, none⟩) n cap) := by rw [b1.cell (p := ⟨w.heap.size, 0, none⟩) (by show w.heap.size < _; omega)]; exact c0
    have HD1 := Lib.hid (HDE.out V1 (HC.out.bel.trans (b1.mono (by omega))))
    have B1 := Lib.hid b1
    clear b1 x1 l1 c0
    go_upto_region 10 with (go_at_call 19; refine (Calls.ext HD1.out).mono ?_; rintro e w' ⟨rfl, y, rfl⟩)
    have b2 : Below wr.heap.size wr (y.w.alloc (.cells #[.int .u8 op, .int .i64 ia, .int .i64 ib, .int .i64 ic, .int .i64 imm] 23)) := (Ext.below B1.out B1.out.size y).alloc (Nat.le_trans B1.out.size y.h.size) _
    have k2 := heap_alloc_new y.w (.cells #[.int .u8 op, .int .i64 ia, .int .i64 ib, .int .i64 ic, .int .i64 imm] 23)
    have k3 : wr.heap.size ≤ y.w.heap.size := Nat.le_trans B1.out.size y.h.size
    obtain ⟨V2, hV2⟩ : ∃ V2, y.w.alloc (.cells #[.int .u8 op, .int .i64 ia, .int .i64 ib, .int .i64 ic, .int .i64 imm] 23) = V2 := ⟨_, rfl⟩
    rw [hV2] at b2 k2 ⊢
    obtain ⟨q, hq⟩ : ∃ q, y.w.heap.size = q := ⟨_, rfl⟩
    rw [hq] at k2 k3 ⊢
    clear hV2 hq y z1 z2 HD1 B1
    have C2 := Lib.hid (HC.out.below (b2.mono csz))
    obtain ⟨V3, l2, m3, o1, o2, o3, o4, o5⟩ := C2.out.map.put (P := Tryd.prog) (kt := 3) (t := 130) (e := 23) Tryd.underlying3 Tryd.underlying130 (k := (k : Int)) (kwf_of (by omega) (by omega)) (.agg #[.int .u8 op, .int .i64 ia, .int .i64 ib, .int .i64 ic, .int .i64 imm])
    simp only [kv] at l2
    have hupd := fnd_cons (insAt cd) D (k : Int)
    rw [hi] at hupd
    simp only [Ins.val] at hupd
    rw [hupd] at m3
    have C3 := Lib.hid (C2.out.put m3 o1 o2 o3 o4 o5)
    have hmq : q ≠ mb := by omega
    have own3 := Lib.hid ((ownsRow_below HO'.out b2).kept (grown_setBlock o1 o2 o3 o4 o5) (.inr (by simp [Value.ownBlock]; omega)))
    have y20 : V2.cell? ⟨q, 0, none⟩ = some (.int .u8 op) := by simp [World.cell?, k2]
    have y21 : V2.cell? ⟨q, 1, none⟩ = some (.int .i64 ia) := by simp [World.cell?, k2]
    have y22 : V2.cell? ⟨q, 2, none⟩ = some (.int .i64 ib) := by simp [World.cell?, k2]
    have y23 : V2.cell? ⟨q, 3, none⟩ = some (.int .i64 ic) := by simp [World.cell?, k2]
    have y24 : V2.cell? ⟨q, 4, none⟩ = some (.int .i64 imm) := by simp [World.cell?, k2]
    have k2' := (o5 q hmq).trans k2
    have y30 : V3.cell? ⟨q, 0, none⟩ = some (.int .u8 op) := by simp [World.cell?, k2']
    have y31 : V3.cell? ⟨q, 1, none⟩ = some (.int .i64 ia) := by simp [World.cell?, k2']
    have y32 : V3.cell? ⟨q, 2, none⟩ = some (.int .i64 ib) := by simp [World.cell?, k2']
    have y33 : V3.cell? ⟨q, 3, none⟩ = some (.int .i64 ic) := by simp [World.cell?, k2']
    have y34 : V3.cell? ⟨q, 4, none⟩ = some (.int .i64 imm) := by simp [World.cell?, k2']
    have HSC := Lib.hid (successors_any ⟨op, ia, ib, ic, imm⟩ (k : Int) V3 (by omega) (by omega) (by simp only; omega) (by simp only; omega))
    have s3 : g < V3.heap.size := by have := b2.size; omega
    clear k2 k2' o1 o2 o3 o5 m3 b2 hupd HO'
    simp only at HSC
    go_upto_region 12 with (go_at_call 57; refine HSC.out.mono ?_; rintro e W4 ⟨⟨v, rfl, ⟨SA, scap, rfl, sc1, sc2, sc3⟩, sc4⟩, hb4⟩)
    obtain ⟨L, hL⟩ : ∃ L, succI ⟨op, ia, ib, ic, imm⟩ (k : Int) = L := ⟨_, rfl⟩
    have hL2 : L.length ≤ 2 := hL ▸ succI_len _ _
    rw [hL] at HPI sc1 sc3 sc4 ⊢
    have hwb : bad = -1 ∨ 0 ≤ bad := by
     rcases HI.out.b with q1 | q1
     ·exact .inl q1.1
     ·have := (HI.out.dr bad q1.1).range _ _ _ h1
      omega
    have hpl := push_len (st := st) (en := en) (a := (k : Int)) (by omega) L W bad hwb
    have HE := Lib.hid (show (3 * ((k : Int) :: D).length + (3 * (en - st).toNat + (L.foldl (pushI st en k) (W, bad)).1.length - 3 * (D.length + 1)) = 3 * (en - st).toNat + (L.foldl (pushI st en k) (W, bad)).1.length) ∧ 3 * (en - st).toNat + (L.foldl (pushI st en k) (W, bad)).1.length - 3 * (D.length + 1) < gk by
     have e1 := HG.out
     have e2 := HCT.out
     simp only [List.length_cons] at e2 ⊢
     omega)
    have HPL := Lib.hid (show ∀ j, ((L.take j).foldl (pushI st en k) (W, bad)).1.length ≤ W.length + 2 from fun j => by
     have := push_len (st := st) (en := en) (a := (k : Int)) (by omega) (L.take j) W bad hwb
     have e : (L.take j).length ≤ L.length := by simp; omega
     omega)
    have C4 := Lib.hid (C3.out.below (hb4.mono (by have := C3.out.sz; omega)))
    have own4 := Lib.hid (ownsRow_below own3.out hb4)
    have I4 := Lib.hid (show Ints W4 (.slice SA L.length scap) L from ⟨SA, scap, rfl, sc1, sc2, sc3⟩)
    have dj : ∀ q, (Value.slice (some ⟨g, 0, none⟩) W.length cap').ownBlock = some q → (Value.slice SA L.length scap).ownBlock ≠ some q := fun q hq hq2 => by
     have := sc4 q hq2
     simp [Value.ownBlock] at hq
     omega
    have DJ := Lib.hid dj
    have s4 := hb4.size
    clear hL sc1 sc2 sc3 sc4 hpl hwb HG HCT dj hb4 C3 own3 C2 l2 y20 y21 y22 y23 y24 y30 y31 y32 y33 y34 HSC HDE HI hcl c1 c2 him hi hmq o4 s3 k3 HC
    obtain ⟨wo, rfl⟩ : ∃ wo : World, wo = wr := ⟨_, rfl⟩
    go_loopw [7, 8, 15, 57] (fun a7 a8 a15 a57 wr => ∃ j : Nat, j ≤ L.length ∧ a57 = .int .i64 (j : Int) ∧ a7 = .int .i64 ((L.take j).foldl (pushI st en k) (W, bad)).2 ∧ wr.ownsRow (w.heap.size + 3) 3 1 a8 ((L.take j).foldl (pushI st en k) (W, bad)).1.length (ivs ((L.take j).foldl (pushI st en k) (W, bad)).1) ∧ RC w wr eb mb (.slice (some ⟨b, off, none⟩) n cap) ev sh lk nm st en da (fnd (insAt cd) ((k : Int) :: D)) ∧ Ints wr (.slice SA L.length scap) L ∧ ∀ q, a8.ownBlock = some q → (Value.slice SA L.length scap).ownBlock ≠ some q) (fun _ _ _ a57 _ => L.length - (intOf a57).toNat)
    case atStart => exact ⟨0, Nat.zero_le _, rfl, rfl, own4.out, C4.out, I4.out, DJ.out⟩
    case round =>
     obtain ⟨j, hj, rfl, rfl, hown, hC, hI, hdj⟩ := hrel
     clear C4 own4 I4 DJ
     obtain ⟨c0, c1, c2⟩ := hC.cells
     have csz' := hC.sz
     have HO := Lib.hid hown
     have HC := Lib.hid hC
     have HI := Lib.hid hI
     have HJ := Lib.hid hdj
     clear hown hC hI hdj
     by_cases hlt : j < L.length
     ·have ft := foldl_take (pushI st en k) (W, bad) L j hlt
      have HF := Lib.hid ft
      clear ft
      have hpj := HPL.out j
      obtain ⟨⟨Wj, bj⟩, hWj⟩ : ∃ p, (L.take j).foldl (pushI st en k) (W, bad) = p := ⟨_, rfl⟩
      rw [hWj] at HF HO hpj ⊢
      simp only at HO hpj ⊢
      obtain ⟨A', cap2, hv, i1, i2, i3⟩ := HI.out
      cases hv
      obtain ⟨sb, so, rfl, hsb, hsc⟩ := i3 (by omega)
      obtain ⟨s, hs⟩ : ∃ s, L[j] = s := ⟨_, rfl⟩
      have x1 : wr.cell? ⟨sb, so + j, none⟩ = some (.int .i64 s) := by rw [hsc j hlt, ← hs]; simp [List.getD, List.getElem?_eq_getElem hlt]
      rw [hs] at HF
      have dl : decide ((j : Int) < (L.length : Int)) = true := by simpa using hlt
      unfold maxLen at i2
      clear hsc i3 hs
      by_cases hin : st ≤ s ∧ s < en
      ·have d1 : decide (st ≤ s) = true := decide_eq_true hin.1
       have d2 : decide (s < en) = true := decide_eq_true hin.2
       have HP := Lib.hid (show pushI st en k (Wj, bj) s = (Wj ++ [s], bj) by unfold pushI; rw [if_pos hin])
       clear hin
       go_wp2_with (at_builtin; refine wpList_append_own_at _ rfl (.tmp 71) (.tmp 73) 62 rfl (w.heap.size + 3) 3 i0 (.int .i64 0) 1 8 Tryd.underlying62 hi0 hz0 hz1 hz2 rfl (by decide) u8 _ _ rfl (HO.out.alloc _) ⟨wr.heap.size, 0, none⟩ 1 1 [.int .i64 s] rfl rfl (cell_one_new _ _ _) (by simp [Value.oneCell']) (by unfold maxLen; omega) (by omega) (by rw [World.size_alloc]; omega) ?_; intro v' W' hown' hgrow _ hob)
       have eF := HF.out.trans HP.out
       have bA := (Below.refl wr.heap.size wr).alloc (Nat.le_refl _) (.cells #[.int .i64 s] 3)
       have bG : Below (w.heap.size + 3) wr W' := ((Below.refl _ _).alloc csz' _).grown hgrow (by rw [World.size_alloc]; omega) (fun q hq => (HO.out.lt q hq).1)
       go_roundw
       case rel =>
        refine ⟨j + 1, by omega, by go_num, by rw [eF], ?_, HC.out.below bG, (HI.out.below bA).grown hgrow (fun q hq hq2 => HJ.out q hq2 hq), fun q hq => ?_⟩
        ·rw [eF]
         simpa [ivs] using hown'
        ·rcases hob with h | h
         ·rw [h] at hq; exact HJ.out q hq
         ·rw [h, World.size_alloc] at hq
          cases hq
          intro h2
          simp [Value.ownBlock] at h2
          omega
       case measure => simp [intOf]; omega
      ·have HP := Lib.hid (show pushI st en k (Wj, bj) s = (Wj, if bj < 0 ∨ (k : Int) < bj then (k : Int) else bj) by unfold pushI; rw [if_neg hin])
       have eF := Lib.hid (HF.out.trans HP.out)
       go_wp2_with fail
       all_goals
        go_roundw
        case rel =>
         refine ⟨j + 1, by omega, by go_num, ?_, ?_, HC.out, HI.out, HJ.out⟩
         ·rw [eF.out]
          first
           | (rw [if_pos (by omega)]; done)
           | (rw [if_neg (by omega)]; done)
         ·rw [eF.out]; exact HO.out
        case measure => simp [intOf]; omega
     ·obtain rfl : j = L.length := by omega
      have dl : decide ((L.length : Int) < (L.length : Int)) = false := by simp
      rw [List.take_length] at HO ⊢
      go_wp2_with fail
      go_roundg (3 * (en - st).toNat + (L.foldl (pushI st en k) (W, bad)).1.length - 3 * (D.length + 1))
      case measure => exact HE.out.2
      case rel => exact ⟨(k : Int) :: D, _, _, rfl, by have := HE.out.2; omega, HE.out.1, HPI.out, HO.out, HC.out⟩

end Go.Proofs.YtebklpnkcicpjaaDoor

namespace Go.Proofs.YtebklpnkcicpjaaDoor
open Go.RowKit
set_option linter.unusedVariables false
set_option linter.unusedSimpArgs false

def marksI (i : Ins) (a : Int) : List Int := if isBr i.op = true then succI i a else if i.op = 28 then [a] else if i.op = 29 then [a + 1] else []
def Lead (c : Int → Ins) (st : Int) (D : List Int) (x : Int) : Prop := x = st ∨ ∃ a ∈ D, x ∈ marksI (c a) a
structure MInv (c : Int → Ins) (st : Int) (D : List Int) (g : Int → Option Value) (left : List Int) : Prop where
 sound : ∀ x, g x = none ∨ (g x = some (.bool true) ∧ Lead c st D x)
 start : g st = some (.bool true)
 done : ∀ a ∈ D, a ∈ left ∨ ∀ x ∈ marksI (c a) a, g x = some (.bool true)
theorem MInv.add {c : Int → Ins} {st : Int} {D : List Int} {g : Int → Option Value} {left : List Int} (h : MInv c st D g left) {x : Int} (hx : Lead c st D x) : MInv c st D (updo g x (.bool true)) left := by
 refine ⟨fun y => ?_, ?_, fun a ha => ?_⟩
 ·unfold updo
  by_cases e : y = x
  ·rw [if_pos e]; exact .inr ⟨rfl, e ▸ hx⟩
  ·rw [if_neg e]; exact h.sound y
 ·unfold updo; split; rfl; exact h.start
 ·rcases h.done a ha with h1 | h1
  ·exact .inl h1
  ·refine .inr fun y hy => ?_
   unfold updo; split; rfl; exact h1 y hy
theorem MInv.drop {c : Int → Ins} {st : Int} {D : List Int} {g : Int → Option Value} {left left' : List Int} (h : MInv c st D g left) {a : Int} (hl : ∀ x ∈ left, x = a ∨ x ∈ left') (ha : ∀ x ∈ marksI (c a) a, g x = some (.bool true)) : MInv c st D g left' :=
 ⟨h.sound, h.start, fun b hb => by
  rcases h.done b hb with h1 | h1
  ·rcases hl b h1 with h2 | h2
   ·exact .inr (h2 ▸ ha)
   ·exact .inl h2
  ·exact .inr h1⟩
theorem MInv.lead {c : Int → Ins} {st : Int} {D : List Int} {g : Int → Option Value} (h : MInv c st D g []) (x : Int) : (Lead c st D x ∧ g x = some (.bool true)) ∨ (¬ Lead c st D x ∧ g x = none) := by
 by_cases hx : Lead c st D x
 ·refine .inl ⟨hx, ?_⟩
  rcases hx with rfl | ⟨a, ha, hm⟩
  ·exact h.start
  ·rcases h.done a ha with h1 | h1
   ·cases h1
   ·exact h1 x hm
 ·refine .inr ⟨hx, ?_⟩
  rcases h.sound x with h1 | h1
  ·exact h1
  ·exact absurd h1.2 hx

structure LM (w wr : World) (r fb mb : Nat) (f : Int → Option Value) (left : List Int) (g : Int → Option Value) : Prop where
 m1 : mb = w.heap.size + 1
 r1 : r = w.heap.size + 2
 fb1 : fb < w.heap.size
 bel : Below w.heap.size w wr
 it : Ir wr r fb f left
 map : Im wr mb g
theorem LM.below {w wr wr' : World} {r fb mb : Nat} {f g : Int → Option Value} {left : List Int} (h : LM w wr r fb mb f left g) (hb : Below wr.heap.size wr wr') : LM w wr' r fb mb f left g :=
 ⟨h.m1, h.r1, h.fb1, h.bel.trans (hb.mono h.bel.size), h.it.keep (hb.block _ h.it.lt.1) (hb.block _ h.it.lt.2.1), h.map.below hb h.map.lt⟩
theorem LM.put {w wr wr' : World} {r fb mb : Nat} {f g g' : Int → Option Value} {left : List Int} (h : LM w wr r fb mb f left g) (hm : Im wr' mb g') (ho : wr'.os = wr.os) (ht : wr'.tape = wr.tape) (hp : wr'.output = wr.output) (hs : wr'.heap.size = wr.heap.size) (hk : ∀ i, i ≠ mb → wr'.heap[i]? = wr.heap[i]?) : LM w wr' r fb mb f left g' :=
 ⟨h.m1, h.r1, h.fb1, h.bel.trans ⟨ho, ht, hp, by omega, fun k hk' => hk k (by have := h.m1; omega)⟩, h.it.keep (hk _ (by have := h.m1; have := h.r1; omega)) (hk _ (by have := h.m1; have := h.fb1; omega)), hm⟩
theorem LM.step {w wr wr' : World} {r fb mb : Nat} {f g : Int → Option Value} {left left' : List Int} (h : LM w wr r fb mb f left g) (hi : Ir wr' r fb f left') (ho : wr'.os = wr.os) (ht : wr'.tape = wr.tape) (hp : wr'.output = wr.output) (hs : wr'.heap.size = wr.heap.size) (hk : ∀ i, i ≠ r → wr'.heap[i]? = wr.heap[i]?) : LM w wr' r fb mb f left' g :=
 ⟨h.m1, h.r1, h.fb1, h.bel.trans ⟨ho, ht, hp, by omega, fun k hk' => hk k (by have := h.r1; omega)⟩, hi, h.map.keep (hk _ (by have := h.m1; have := h.r1; omega))⟩
theorem bool_zero (w : World) : (zeroValue 4).run Tryd.prog w = .ok (.bool false) w := by kernel_rfl

set_option maxHeartbeats 4000000 in
set_option maxRecDepth 20000 in
theorem leaders_any (nm : ByteArray) (st en da : Int) (fb : Nat) (c : Int → Ins) (D : List Int) (w : World) (hst : 0 ≤ st ∧ st ≤ 1000000) (hD : ∀ a ∈ D, (0 ≤ a ∧ a ≤ 1000000) ∧ (-1000000 ≤ (c a).imm ∧ (c a).imm ≤ 1000000)) (hF : Im w fb (fnd c D)) :
  Calls Tryd.prog 56 #[.agg #[.string nm, .int .i64 st, .int .i64 en, .int .i64 da], .map (some fb)] w fun e w' => ∃ mb g, e = .returned (.map (some mb)) ∧ w.heap.size ≤ mb ∧ MInv c st D g [] ∧ Im w' mb g ∧ Below w.heap.size w w' := by
 have hfb := hF.lt
 have mk := fun W : World => (show (Instr.makeMap 133 none).run Tryd.prog W = .ok (.map (some W.heap.size)) (W.alloc (.map #[] 0)) from rfl)
 obtain ⟨V0, l0, m0, o1, o2, o3, o4, o5⟩ := (Im.made (w.alloc (.cells #[.string nm, .int .i64 st, .int .i64 en, .int .i64 da] 102))).put (P := Tryd.prog) (kt := 3) (t := 133) (e := 4) Tryd.underlying3 Tryd.underlying133 (k := st) (kwf_of (by omega) (by omega)) (.bool true)
 simp only [kv, World.size_alloc] at l0 m0 o4 o5
 have b0 : Below w.heap.size w V0 := ((((Below.refl _ _).alloc (Nat.le_refl _) _).alloc (by simp) _) : Below w.heap.size w ((w.alloc (.cells #[.string nm, .int .i64 st, .int .i64 en, .int .i64 da] 102)).alloc (.map #[] 0))).trans ⟨o1, o2, o3, by simp; omega, fun k hk => o5 k (by omega)⟩
 obtain ⟨o, left0, l1, r0, hleft⟩ := (hF.below b0 hfb).range (P := Tryd.prog) (kt := 3) (t := 130) (e := 23) Tryd.underlying130
 rw [o4] at l1 r0
 have hm0 : MInv c st D (updo (fun _ => none) st (.bool true)) left0 := by
  refine ⟨fun x => ?_, by simp [updo], fun a ha => .inl (hleft a (c a).val (by simp [fnd, ha]))⟩
  unfold updo
  by_cases e : x = st
  ·rw [if_pos e]; exact .inr ⟨rfl, .inl e⟩
  ·rw [if_neg e]; exact .inl rfl
 have hlm : LM w (V0.alloc o) (w.heap.size + 1 + 1) fb (w.heap.size + 1) (fnd c D) left0 (updo (fun _ => none) st (.bool true)) :=
  ⟨rfl, rfl, hfb, b0.alloc (by have := b0.size; omega) _, r0, m0.keep (heap_alloc_old _ _ (by omega))⟩
 have HM0 := Lib.hid hm0
 have HL0 := Lib.hid hlm
 have HDD := Lib.hid hD
 clear hm0 hlm hD hleft r0 m0 o5 o1 o2 o3 hF b0
 go_enter Tryd.func56, Tryd.ntmps56
 go_upto_region 3 with fail
 obtain ⟨V, hV⟩ : ∃ V, V0.alloc o = V := ⟨_, rfl⟩
 rw [hV] at HL0 ⊢
 obtain ⟨mb, hmb⟩ : ∃ mb, w.heap.size + 1 = mb := ⟨_, rfl⟩
 rw [hmb] at HL0 ⊢
 obtain ⟨r, hr⟩ : ∃ r, mb + 1 = r := ⟨_, rfl⟩
 rw [hr] at HL0 ⊢
 clear hV l0 l1 o4
 go_loopg [6, 7, 9] (left0.length) (fun gk a6 a7 a9 wr => ∃ (left : List Int) (g : Int → Option Value), gk = left.length ∧ MInv c st D g left ∧ LM w wr r fb mb (fnd c D) left g)
 case atStart => exact ⟨left0, _, rfl, HM0.out, HL0.out⟩
 case round =>
  obtain ⟨left, g, rfl, hM, hL⟩ := hrel
  have HM := Lib.hid hM
  have HL := Lib.hid hL
  clear HM0 HL0 hM hL
  rcases HL.out.it.next (P := Tryd.prog) 0 with ⟨hl, hrun⟩ | ⟨a, v, left', Wn, ha, hv, hlen, hcov, hit, hrun, hent, o1, o2, o3, o4, o5⟩
  ·subst hl
   have hnx : ∀ ty, (Instr.next (.pointer (some ⟨r, 0, none⟩)) false ty).run Tryd.prog wr = _ := fun _ => hrun
   clear hrun
   go_wp2_with fail
   go_ret
   exact ⟨mb, g, rfl, by omega, HM.out, HL.out.map, HL.out.bel⟩
  ·have hnx : ∀ ty, (Instr.next (.pointer (some ⟨r, 0, none⟩)) false ty).run Tryd.prog wr = _ := fun _ => hrun
   clear hrun
   have haD : a ∈ D := by
    unfold fnd at hv
    split at hv
    ·assumption
    ·cases hv
   have hva : v = (c a).val := by
    unfold fnd at hv
    rw [if_pos haD] at hv
    exact (Option.some.inj hv).symm
   subst hva
   obtain ⟨⟨p1, p2⟩, p3, p4⟩ := HDD.out a haD
   have HL1 := Lib.hid (HL.out.step hit o1 o2 o3 o4 o5)
   have HCV := Lib.hid hcov
   have HLE := Lib.hid hlen
   have HLd := Lib.hid (fun x (hx : x ∈ marksI (c a) a) => (show Lead c st D x from .inr ⟨a, haD, hx⟩))
   obtain ⟨i, hi⟩ : ∃ i, c a = i := ⟨_, rfl⟩
   rw [hi] at HLd hnx hent p3 p4
   have hdrop : ∀ g', MInv c st D g' left → (∀ x ∈ marksI i a, g' x = some (.bool true)) → MInv c st D g' left' := fun g' q1 q2 => q1.drop hcov (by rw [hi]; exact q2)
   have HDR := Lib.hid hdrop
   clear hit hv hcov hlen hi ha o5 o1 o2 o3 hdrop HL
   simp only [Ins.val, kv] at hnx hent
   obtain ⟨op, ia, ib, ic, imm⟩ := i
   simp only at hnx hent p3 p4
   have HB := isBranch_any op
   rcases hb : isBr op
   ·rw [hb] at HB
    by_cases q1 : op = 28
    ·have d1 : (op == 28) = true := by simp [q1]
     have HMK := Lib.hid (show marksI ⟨op, ia, ib, ic, imm⟩ a = [a] by unfold marksI; rw [if_neg (by simp [hb]), if_pos q1])
     clear hb q1
     go_upto_region 12 with (go_at_call 22; refine (HB _).mono ?_; rintro e w' ⟨rfl, rfl⟩)
     obtain ⟨X, hX⟩ : ∃ X, Wn.alloc (.cells #[.int .u8 op, .int .i64 ia, .int .i64 ib, .int .i64 ic, .int .i64 imm] 23) = X := ⟨_, rfl⟩
     have HLX := Lib.hid (hX ▸ HL1.out.below ((Below.refl _ _).alloc (Nat.le_refl _) _))
     rw [hX]
     obtain ⟨V3, l2, m3, o1, o2, o3, o4', o5⟩ := HLX.out.map.put (P := Tryd.prog) (kt := 3) (t := 133) (e := 4) Tryd.underlying3 Tryd.underlying133 (k := a) (kwf_of (by omega) (by omega)) (.bool true)
     simp only [kv] at l2
     have HL3 := Lib.hid (HLX.out.put m3 o1 o2 o3 o4' o5)
     clear hX m3 o1 o2 o3 o4' o5 hnx hent
     go_wp2_with fail
     go_roundg (left'.length)
     case measure => exact HLE.out
     case rel =>
      refine ⟨left', _, rfl, HDR.out _ (HM.out.add (HLd.out _ ?_)) ?_, HL3.out⟩
      ·rw [HMK.out]; simp
      ·rw [HMK.out]; simp [updo]
    ·have d1 : (op == 28) = false := by simp [q1]
     by_cases q2 : op = 29
     ·have d2 : (op == 29) = true := by simp [q2]
      have HMK := Lib.hid (show marksI ⟨op, ia, ib, ic, imm⟩ a = [a + 1] by unfold marksI; rw [if_neg (by simp [hb]), if_neg q1, if_pos q2])
      have w1 : IntKind.i64.wrap (a + 1) = a + 1 := IntWalk.i64_in _ (by omega)
      clear hb q1 q2
      go_upto_region 14 with (go_at_call 22; refine (HB _).mono ?_; rintro e w' ⟨rfl, rfl⟩)
      obtain ⟨X, hX⟩ : ∃ X, Wn.alloc (.cells #[.int .u8 op, .int .i64 ia, .int .i64 ib, .int .i64 ic, .int .i64 imm] 23) = X := ⟨_, rfl⟩
      have HLX := Lib.hid (hX ▸ HL1.out.below ((Below.refl _ _).alloc (Nat.le_refl _) _))
      rw [hX]
      obtain ⟨V3, l2, m3, o1, o2, o3, o4', o5⟩ := HLX.out.map.put (P := Tryd.prog) (kt := 3) (t := 133) (e := 4) Tryd.underlying3 Tryd.underlying133 (k := a + 1) (kwf_of (by omega) (by omega)) (.bool true)
      simp only [kv] at l2
      have HL3 := Lib.hid (HLX.out.put m3 o1 o2 o3 o4' o5)
      clear hX m3 o1 o2 o3 o4' o5 hnx hent
      go_wp2_with fail
      go_roundg (left'.length)
      case measure => exact HLE.out
      case rel =>
       refine ⟨left', _, rfl, HDR.out _ (HM.out.add (HLd.out _ ?_)) ?_, HL3.out⟩
       ·rw [HMK.out]; simp
       ·rw [HMK.out]; simp [updo]
     ·have d2 : (op == 29) = false := by simp [q2]
      have HMK := Lib.hid (show marksI ⟨op, ia, ib, ic, imm⟩ a = [] by unfold marksI; rw [if_neg (by simp [hb]), if_neg q1, if_neg q2])
      clear hb q1 q2
      go_wp2_with (go_at_call 22; refine (HB _).mono ?_; rintro e w' ⟨rfl, rfl⟩)
      go_roundg (left'.length)
      case measure => exact HLE.out
      case rel => exact ⟨left', _, rfl, HDR.out _ HM.out (by rw [HMK.out]; simp), HL1.out.below ((Below.refl _ _).alloc (Nat.le_refl _) _)⟩
   ·rw [hb] at HB
    have HMK := Lib.hid (show marksI ⟨op, ia, ib, ic, imm⟩ a = succI ⟨op, ia, ib, ic, imm⟩ a by unfold marksI; rw [if_pos hb])
    have HSC := Lib.hid (fun W : World => successors_any ⟨op, ia, ib, ic, imm⟩ a W p1 p2 p3 p4)
    clear hb
    simp only at HSC
    go_upto_region 7 with (first | (go_at_call 22; refine (HB _).mono ?_; rintro e w' ⟨rfl, rfl⟩) | (go_at_call 57; refine (HSC.out _).mono ?_; rintro e W4 ⟨⟨v, rfl, ⟨SA, scap, rfl, sc1, sc2, sc3⟩, sc4⟩, hb4⟩))
    obtain ⟨L, hL⟩ : ∃ L, succI ⟨op, ia, ib, ic, imm⟩ a = L := ⟨_, rfl⟩
    have hL2 : L.length ≤ 2 := hL ▸ succI_len _ _
    rw [hL] at HMK sc1 sc3 sc4 ⊢
    have HLX := Lib.hid ((HL1.out.below ((Below.refl _ _).alloc (Nat.le_refl _) _)).below hb4)
    have I4 := Lib.hid (show Ints W4 (.slice SA L.length scap) L from ⟨SA, scap, rfl, sc1, sc2, sc3⟩)
    have hsz : r < Wn.heap.size := HL1.out.it.lt.1
    have DJ := Lib.hid (show ∀ q, (Value.slice SA L.length scap).ownBlock = some q → some mb ≠ some q from fun q hq e => by
     have := sc4 q hq
     rw [World.size_alloc] at this
     cases e
     omega)
    have HLW := Lib.hid (show ∀ x ∈ L, 0 ≤ x + 2000000 ∧ x ≤ 3000000 from fun x hx => by
     rw [← hL] at hx
     unfold succI at hx
     split at hx
     ·cases hx
     ·split at hx
      ·simp at hx; omega
      ·split at hx
       ·simp at hx; omega
       ·simp at hx; omega)
    clear hL sc1 sc2 sc3 sc4 hb4 hnx hent HSC HB p1 p2 p3 p4 o4
    obtain ⟨wo, rfl⟩ : ∃ wo : World, wo = wr := ⟨_, rfl⟩
    go_loopw [9, 29] (fun a9 a29 wr => ∃ (j : Nat) (g' : Int → Option Value), j ≤ L.length ∧ a29 = .int .i64 (j : Int) ∧ MInv c st D g' left ∧ (∀ x ∈ L.take j, g' x = some (.bool true)) ∧ LM w wr r fb mb (fnd c D) left' g' ∧ Ints wr (.slice SA L.length scap) L) (fun _ a29 _ => L.length - (intOf a29).toNat)
    case atStart => exact ⟨0, g, Nat.zero_le _, rfl, HM.out, by simp, HLX.out, I4.out⟩
    case round =>
     obtain ⟨j, g', hj, rfl, hM', htk, hL', hI'⟩ := hrel
     have HM' := Lib.hid hM'
     have HTK := Lib.hid htk
     have HL' := Lib.hid hL'
     have HI' := Lib.hid hI'
     clear hM' htk hL' hI' HLX I4
     by_cases hlt : j < L.length
     ·obtain ⟨A', cap2, hv, i1, i2, i3⟩ := HI'.out
      cases hv
      obtain ⟨sb, so, rfl, hsb, hsc⟩ := i3 (by omega)
      obtain ⟨s, hs⟩ : ∃ s, L[j] = s := ⟨_, rfl⟩
      have x1 : wr.cell? ⟨sb, so + j, none⟩ = some (.int .i64 s) := by rw [hsc j hlt, ← hs]; simp [List.getD, List.getElem?_eq_getElem hlt]
      have hsm : s ∈ L := hs ▸ List.getElem_mem hlt
      have hsr := HLW.out s hsm
      have HTK2 := Lib.hid (show L.take (j + 1) = L.take j ++ [s] by rw [List.take_add_one, List.getElem?_eq_getElem hlt, hs]; rfl)
      have dl : decide ((j : Int) < (L.length : Int)) = true := by simpa using hlt
      unfold maxLen at i2
      obtain ⟨V3, l2, m3, o1, o2, o3, o4', o5⟩ := HL'.out.map.put (P := Tryd.prog) (kt := 3) (t := 133) (e := 4) Tryd.underlying3 Tryd.underlying133 (k := s) (kwf_of (by omega) (by omega)) (.bool true)
      simp only [kv] at l2
      have HL3 := Lib.hid (HL'.out.put m3 o1 o2 o3 o4' o5)
      have HI3 := Lib.hid (HI'.out.grown (grown_setBlock o1 o2 o3 o4' o5) DJ.out)
      have HM3 := Lib.hid (HM'.out.add (HLd.out s (by rw [HMK.out]; exact hsm)))
      clear hsc i3 hs m3 o1 o2 o3 o4' o5
      go_wp2_with fail
      go_roundw
      case rel =>
       refine ⟨j + 1, _, by omega, by go_num, HM3.out, fun x hx => ?_, HL3.out, HI3.out⟩
       rw [HTK2.out] at hx
       unfold updo
       split
       ·rfl
       ·rename_i hne
        rcases List.mem_append.1 hx with h | h
        ·exact HTK.out x h
        ·simp at h; exact absurd h hne
      case measure => simp [intOf]; omega
     ·obtain rfl : j = L.length := by omega
      have dl : decide ((L.length : Int) < (L.length : Int)) = false := by simp
      rw [List.take_length] at HTK
      go_wp2_with fail
      go_roundg (left'.length)
      case measure => exact HLE.out
      case rel => exact ⟨left', _, rfl, HDR.out _ HM'.out (by rw [HMK.out]; exact HTK.out), HL'.out⟩

end Go.Proofs.YtebklpnkcicpjaaDoor

namespace Go.Proofs.YtebklpnkcicpjaaDoor
open Go.RowKit
set_option linter.unusedVariables false
set_option linter.unusedSimpArgs false

structure Ent where
 nm : ByteArray
 st : Int
 en : Int
 da : Int
structure Ents (w : World) (v : Value) (l : List Ent) : Prop where
 nm : ∀ e ∈ l, e.nm.size ≤ maxLen
 at_ : ∃ A cap, v = .slice A l.length cap ∧ l.length ≤ cap ∧ cap ≤ maxLen ∧ (0 < l.length → ∃ b off, A = some ⟨b, off, none⟩ ∧ b < w.heap.size ∧ ∀ i e, l[i]? = some e →
  w.cell? ⟨b, off + i * 4, none⟩ = some (.string e.nm) ∧ w.cell? ⟨b, off + i * 4 + 1, none⟩ = some (.int .i64 e.st) ∧ w.cell? ⟨b, off + i * 4 + 2, none⟩ = some (.int .i64 e.en) ∧ w.cell? ⟨b, off + i * 4 + 3, none⟩ = some (.int .i64 e.da))
theorem Ents.below {w w' : World} {v : Value} {l : List Ent} (h : Ents w v l) (hb : Below w.heap.size w w') : Ents w' v l := by
 obtain ⟨A, cap, h1, h2, h3, h4⟩ := h.at_
 refine ⟨h.nm, A, cap, h1, h2, h3, fun h0 => ?_⟩
 obtain ⟨b, off, ha, hlt, hc⟩ := h4 h0
 refine ⟨b, off, ha, by have := hb.size; omega, fun i e he => ?_⟩
 obtain ⟨c0, c1, c2, c3⟩ := hc i e he
 exact ⟨(hb.cell (p := ⟨b, _, none⟩) hlt).trans c0, (hb.cell (p := ⟨b, _, none⟩) hlt).trans c1, (hb.cell (p := ⟨b, _, none⟩) hlt).trans c2, (hb.cell (p := ⟨b, _, none⟩) hlt).trans c3⟩

structure OkIns (cd : Nat → Int) (lk st en a : Int) : Prop where
 dec : (decI (cd a.toNat)).2 = 0
 tgt : isBr (insAt cd a).op = true → st ≤ a + 1 + (insAt cd a).imm ∧ a + 1 + (insAt cd a).imm < en
 lock : (insAt cd a).op = 28 ∨ (insAt cd a).op = 29 → (insAt cd a).imm < lk

set_option maxHeartbeats 2000000 in
set_option maxRecDepth 20000 in
theorem checkInstr_any (cv ev : Value) (sh lk : Int) (nm : ByteArray) (st en da : Int) (n : Nat) (cd : Nat → Int) (k : Nat) (hk : k < n) (w : World) (T : Tab w) (HW : Words w cv n cd) :
  Calls Tryd.prog 80 #[.agg #[cv, ev, .int .i64 sh, .int .i64 lk], .agg #[.string nm, .int .i64 st, .int .i64 en, .int .i64 da], .int .i64 (k : Int)] w fun e w' => (∃ r, e = .returned (.int .i64 r) ∧ (r = 0 ↔ OkIns cd lk st en k)) ∧ Below w.heap.size w w' := by
 have hn := HW.le
 obtain ⟨A, cap, rfl, hc1, hc2, hrd⟩ := HW.at_
 obtain ⟨b, off, rfl, hb, hcell⟩ := hrd (by omega)
 have hwd := HW.wd k hk
 have x1 := hcell k hk
 clear HW hrd hcell
 obtain ⟨i, hi⟩ : ∃ i, insAt cd k = i := ⟨_, rfl⟩
 have hdi : (decI (cd k)).1 = i := by rw [← hi]; simp [insAt]
 have him := decI_imm (cd k) hwd.1
 rw [hdi] at him
 have HDE := Lib.hid (fun (W : World) (hW : Below w.heap.size w W) => decode_any (cd k) hwd.1 hwd.2 W (T.below hW))
 obtain ⟨er, her⟩ : ∃ er, (decI (cd k)).2 = er := ⟨_, rfl⟩
 simp only [hdi, her, Ins.val] at HDE
 have HK := Lib.hid (show OkIns cd lk st en k ↔ (er = 0 ∧ (isBr i.op = true → st ≤ (k : Int) + 1 + i.imm ∧ (k : Int) + 1 + i.imm < en) ∧ (i.op = 28 ∨ i.op = 29 → i.imm < lk)) from ⟨fun h => ⟨by rw [← her]; exact h.dec, by rw [← hi]; exact h.tgt, by rw [← hi]; exact h.lock⟩, fun ⟨a1, a2, a3⟩ => ⟨by rw [← her] at a1; exact a1, by rw [hi]; exact a2, by rw [hi]; exact a3⟩⟩)
 have w1 : IntKind.i64.wrap ((k : Int) + 1) = (k : Int) + 1 := IntWalk.i64_in _ (by omega)
 have w2 : IntKind.i64.wrap ((k : Int) + 1 + i.imm) = (k : Int) + 1 + i.imm := IntWalk.i64_in _ (by omega)
 have HTG := Lib.hid (fun W : World => target_any i (k : Int) W w1 w2)
 obtain ⟨op, ia, ib, ic, imm⟩ := i
 simp only at HDE HTG HK him
 obtain ⟨br, hbr⟩ : ∃ br, isBr op = br := ⟨_, rfl⟩
 rw [hbr] at HTG HK
 obtain ⟨tg, htg⟩ : ∃ tg, (if br = true then (k : Int) + 1 + imm else 0) = tg := ⟨_, rfl⟩
 rw [htg] at HTG
 have HG := Lib.hid htg
 clear hi hdi her htg w1 w2 hwd hbr T
 have fin : ∀ W, Below w.heap.size w W → Below w.heap.size w W := fun _ h => h
 obtain ⟨V0, hV0⟩ : ∃ V0, (w.alloc (.cells #[.slice (some ⟨b, off, none⟩) n cap, ev, .int .i64 sh, .int .i64 lk] 38)).alloc (.cells #[.string nm, .int .i64 st, .int .i64 en, .int .i64 da] 102) = V0 := ⟨_, rfl⟩
 have b0 : Below w.heap.size w V0 := hV0 ▸ ((Below.refl _ _).alloc (Nat.le_refl _) _).alloc (by simp) _
 have s0 : w.heap.size + 2 = V0.heap.size := by rw [← hV0]; simp
 have k0 : V0.heap[w.heap.size]? = some (.cells #[.slice (some ⟨b, off, none⟩) n cap, ev, .int .i64 sh, .int .i64 lk] 38) := by rw [← hV0, heap_alloc_old _ _ (by simp)]; exact heap_alloc_new _ _
 have k1 : V0.heap[w.heap.size + 1]? = some (.cells #[.string nm, .int .i64 st, .int .i64 en, .int .i64 da] 102) := by rw [← hV0]; exact heap_alloc_at _ _ (by simp)
 have y1 : V0.cell? ⟨w.heap.size, 0, none⟩ = some (.slice (some ⟨b, off, none⟩) n cap) := by simp [World.cell?, k0]
 have y2 : V0.cell? ⟨b, off + k, none⟩ = some (.int .u32 (cd k)) := by rw [b0.cell (p := ⟨b, off + k, none⟩) hb]; exact x1
 have HD0 := Lib.hid (HDE.out V0 b0)
 go_enter Tryd.func80, Tryd.ntmps80
 go_upto_region 1 with fail
 have K0 := Lib.hid k0
 have K1 := Lib.hid k1
 have B0 := Lib.hid b0
 clear hV0 k0 k1 b0 fin x1 HDE
 go_upto_region 2 with (go_at_call 19; refine (Calls.ext HD0.out).mono ?_; rintro e w' ⟨rfl, y, rfl⟩)
 obtain ⟨V2, hV2⟩ : ∃ V2, y.w.alloc (.cells #[.int .u8 op, .int .i64 ia, .int .i64 ib, .int .i64 ic, .int .i64 imm] 23) = V2 := ⟨_, rfl⟩
 have b2 : Below V0.heap.size V0 V2 := hV2 ▸ y.h.alloc y.h.size _
 have k2 : V2.heap[y.w.heap.size]? = some (.cells #[.int .u8 op, .int .i64 ia, .int .i64 ib, .int .i64 ic, .int .i64 imm] 23) := hV2 ▸ heap_alloc_new _ _
 have s2 : y.w.heap.size < V2.heap.size := by rw [← hV2]; simp
 have s3 := y.h.size
 obtain ⟨q, hq⟩ : ∃ q, y.w.heap.size = q := ⟨_, rfl⟩
 rw [hV2]
 rw [hq] at k2 s2 s3 ⊢
 have e1 : V2.cell? ⟨w.heap.size + 1, 1, none⟩ = some (.int .i64 st) := by rw [b2.cell (p := ⟨w.heap.size + 1, 1, none⟩) (by show w.heap.size + 1 < _; omega)]; simp [World.cell?, K1.out]
 have e2 : V2.cell? ⟨w.heap.size + 1, 2, none⟩ = some (.int .i64 en) := by rw [b2.cell (p := ⟨w.heap.size + 1, 2, none⟩) (by show w.heap.size + 1 < _; omega)]; simp [World.cell?, K1.out]
 have e3 : V2.cell? ⟨w.heap.size, 3, none⟩ = some (.int .i64 lk) := by rw [b2.cell (p := ⟨w.heap.size, 3, none⟩) (by show w.heap.size < _; omega)]; simp [World.cell?, K0.out]
 have g0 : V2.cell? ⟨q, 0, none⟩ = some (.int .u8 op) := by simp [World.cell?, k2]
 have g1 : V2.cell? ⟨q, 1, none⟩ = some (.int .i64 ia) := by simp [World.cell?, k2]
 have g2 : V2.cell? ⟨q, 2, none⟩ = some (.int .i64 ib) := by simp [World.cell?, k2]
 have g3 : V2.cell? ⟨q, 3, none⟩ = some (.int .i64 ic) := by simp [World.cell?, k2]
 have g4 : V2.cell? ⟨q, 4, none⟩ = some (.int .i64 imm) := by simp [World.cell?, k2]
 have B2 := Lib.hid (B0.out.trans (b2.mono (by omega)))
 have s4 : V0.heap.size ≤ V2.heap.size := b2.size
 have s5 : w.heap.size + 1 < V2.heap.size := by omega
 have s6 : w.heap.size < V2.heap.size := by omega
 clear hV2 hq k2 y b2 y1 y2 HD0 K0 K1 B0
 go_wp2_with (go_at_call 81; refine (Calls.ext (HTG.out _)).mono ?_; rintro e w' ⟨rfl, y, rfl⟩)
 all_goals
  go_ret
  refine ⟨⟨_, rfl, ?_⟩, ?_⟩
  ·rw [HK.out]
   have hG := HG.out
   first
    | (simp_all; done)
    | (simp_all; omega)
  ·first
    | exact B2.out
    | exact Ext.below B2.out (by omega) y

end Go.Proofs.YtebklpnkcicpjaaDoor

namespace Go.Proofs.YtebklpnkcicpjaaDoor
open Go.RowKit
set_option linter.unusedVariables false
set_option linter.unusedSimpArgs false

def Chain : Int → List Ent → Int → Prop
 | a, [], z => a = z
 | a, e :: es, z => e.st = a ∧ e.st < e.en ∧ Chain e.en es z
theorem Chain.append {l2 : List Ent} : ∀ {l1 : List Ent} {a z : Int}, Chain a (l1 ++ l2) z ↔ ∃ m, Chain a l1 m ∧ Chain m l2 z
 | [], a, z => ⟨fun h => ⟨a, rfl, h⟩, fun ⟨m, h1, h2⟩ => by cases h1; exact h2⟩
 | e :: l1, a, z => by
  constructor
  ·rintro ⟨h1, h2, h3⟩
   obtain ⟨m, h4, h5⟩ := Chain.append.1 h3
   exact ⟨m, ⟨h1, h2, h4⟩, h5⟩
  ·rintro ⟨m, ⟨h1, h2, h3⟩, h4⟩
   exact ⟨h1, h2, Chain.append.2 ⟨m, h3, h4⟩⟩
theorem Chain.det : ∀ {l : List Ent} {a z z' : Int}, Chain a l z → Chain a l z' → z = z'
 | [], a, z, z', h, h' => by cases h; exact h'
 | e :: l, a, z, z', h, h' => Chain.det h.2.2 h'.2.2
theorem Chain.le : ∀ {l : List Ent} {a z : Int}, Chain a l z → a ≤ z
 | [], a, z, h => by cases h; exact Int.le_refl _
 | e :: l, a, z, ⟨h1, h2, h3⟩ => by have := Chain.le h3; omega
theorem Chain.bounds : ∀ {l : List Ent} {a z : Int}, Chain a l z → ∀ e ∈ l, a ≤ e.st ∧ e.st < e.en ∧ e.en ≤ z
 | [], a, z, h, e, he => by cases he
 | e :: l, a, z, ⟨h1, h2, h3⟩, e', he => by
  rcases List.mem_cons.1 he with rfl | he
  ·have := Chain.le h3; omega
  ·have := Chain.bounds h3 e' he; omega
theorem Chain.snoc {l : List Ent} {e : Ent} {a m : Int} (h : Chain a l m) (h1 : e.st = m) (h2 : e.st < e.en) : Chain a (l ++ [e]) e.en :=
 Chain.append.2 ⟨m, h, h1, h2, rfl⟩

structure GoodI (n : Nat) (cd : Nat → Int) (ents : List Ent) (sh lk : Int) : Prop where
 code : n ≤ 4096
 cnt : ents.length ≤ 8
 shB : 0 ≤ sh ∧ sh ≤ 64
 lkB : 0 ≤ lk ∧ lk ≤ 4
 da : ∀ e ∈ ents, 0 ≤ e.da ∧ e.da ≤ 512
 nm : ∀ e ∈ ents, 1 ≤ e.nm.size ∧ e.nm.size ≤ 12
 ch : Chain 0 ents n
 ins : ∀ e ∈ ents, ∀ k : Nat, e.st ≤ k → (k : Int) < e.en → OkIns cd lk e.st e.en k

theorem take_snoc {α : Type} {l : List α} {j : Nat} {e : α} (h : l[j]? = some e) : l.take (j + 1) = l.take j ++ [e] := by
 rw [List.take_add_one, h]; rfl
theorem Ents.cells {w wr : World} {A : Option Addr} {cap : Nat} {l : List Ent} (h : Ents w (.slice A l.length cap) l) (hb : Below w.heap.size w wr) {j : Nat} (hj : j < l.length) :
  ∃ e b off, l[j]? = some e ∧ A = some ⟨b, off, none⟩ ∧ b < w.heap.size ∧ wr.cell? ⟨b, off + j * 4, none⟩ = some (.string e.nm) ∧ wr.cell? ⟨b, off + j * 4 + 1, none⟩ = some (.int .i64 e.st) ∧ wr.cell? ⟨b, off + j * 4 + 2, none⟩ = some (.int .i64 e.en) ∧ wr.cell? ⟨b, off + j * 4 + 3, none⟩ = some (.int .i64 e.da) := by
 obtain ⟨A', cap', hv, h2, h3, h4⟩ := (h.below hb).at_
 cases hv
 obtain ⟨A', cap', hv, h2', h3', h4'⟩ := h.at_
 cases hv
 obtain ⟨b, off, rfl, hlt, hc⟩ := h4 (by omega)
 obtain ⟨b', off', hA, hlt', _⟩ := h4' (by omega)
 cases hA
 have he : l[j]? = some l[j] := List.getElem?_eq_getElem hj
 obtain ⟨c0, c1, c2, c3⟩ := hc j _ he
 exact ⟨l[j], b, off, he, rfl, hlt', c0, c1, c2, c3⟩

set_option maxHeartbeats 4000000 in
set_option maxRecDepth 20000 in
theorem check_any (cv ev : Value) (sh lk : Int) (n : Nat) (cd : Nat → Int) (ents : List Ent) (w : World) (T : Tab w) (HW : Words w cv n cd) (HE : Ents w ev ents) :
  Calls Tryd.prog 54 #[.agg #[cv, ev, .int .i64 sh, .int .i64 lk]] w fun e w' => (∃ r, e = .returned (.int .i64 r) ∧ (r = 0 ↔ GoodI n cd ents sh lk)) ∧ Below w.heap.size w w' := by
 have hn := HW.le
 obtain ⟨A, cap, hcv, hc1, hc2, hrd⟩ := HW.at_
 obtain ⟨EA, ecap, hev, he1, he2, hed⟩ := HE.at_
 have h63 : ents.length ≤ 2 ^ 63 - 1 := by unfold maxLen at he2; omega
 have HWH := Lib.hid HW
 have HEH := Lib.hid HE
 have HT := Lib.hid T
 clear hrd hed HW HE T
 subst hcv hev
 have HBT := between_any
 obtain ⟨V0, hV0⟩ : ∃ V0, w.alloc (.cells #[.slice A n cap, .slice EA ents.length ecap, .int .i64 sh, .int .i64 lk] 38) = V0 := ⟨_, rfl⟩
 have b0 : Below w.heap.size w V0 := hV0 ▸ (Below.refl _ _).alloc (Nat.le_refl _) _
 have s0 : w.heap.size < V0.heap.size := by rw [← hV0]; simp
 have k0 : V0.heap[w.heap.size]? = some (.cells #[.slice A n cap, .slice EA ents.length ecap, .int .i64 sh, .int .i64 lk] 38) := by rw [← hV0]; exact heap_alloc_new _ _
 have y0 : V0.cell? ⟨w.heap.size, 0, none⟩ = some (.slice A n cap) := by simp [World.cell?, k0]
 have y1 : V0.cell? ⟨w.heap.size, 1, none⟩ = some (.slice EA ents.length ecap) := by simp [World.cell?, k0]
 have y2 : V0.cell? ⟨w.heap.size, 2, none⟩ = some (.int .i64 sh) := by simp [World.cell?, k0]
 have y3 : V0.cell? ⟨w.heap.size, 3, none⟩ = some (.int .i64 lk) := by simp [World.cell?, k0]
 have K0 := Lib.hid k0
 have B0 := Lib.hid b0
 clear k0 b0
 by_cases q1 : n ≤ 4096
 case neg =>
  have d1 : decide ((4096 : Int) < (n : Int)) = true := by simp; omega
  go_enter Tryd.func54, Tryd.ntmps54
  go_wp2_with fail
  go_ret
  exact ⟨⟨2, rfl, by simp; intro h; exact q1 h.code⟩, B0.out⟩
 have d1 : decide ((4096 : Int) < (n : Int)) = false := by simp; omega
 by_cases q2 : ents.length ≤ 8
 case neg =>
  have d2 : decide ((8 : Int) < (ents.length : Int)) = true := by simp; omega
  go_enter Tryd.func54, Tryd.ntmps54
  go_wp2_with fail
  go_ret
  exact ⟨⟨2, rfl, by simp; intro h; exact q2 h.cnt⟩, B0.out⟩
 have d2 : decide ((8 : Int) < (ents.length : Int)) = false := by simp; omega
 by_cases q3 : 0 ≤ sh ∧ sh ≤ 64
 case neg =>
  have d3 : decide (0 ≤ sh ∧ sh ≤ 64) = false := decide_eq_false q3
  have H3 : ∀ W : World, Calls Tryd.prog 78 #[.int .i64 sh, .int .i64 64] W fun e w' => e = .returned (.bool false) ∧ W = w' := fun W => by have := between_any sh 64 W; rwa [d3] at this
  clear d3 HBT
  go_enter Tryd.func54, Tryd.ntmps54
  go_wp2_with (go_at_call 78; refine (H3 _).mono ?_; rintro e w' ⟨rfl, rfl⟩)
  go_ret
  exact ⟨⟨2, rfl, by simp; intro h; exact q3 h.shB⟩, B0.out⟩
 have H3 : ∀ W : World, Calls Tryd.prog 78 #[.int .i64 sh, .int .i64 64] W fun e w' => e = .returned (.bool true) ∧ W = w' := fun W => by have := between_any sh 64 W; rwa [decide_eq_true q3] at this
 by_cases q4 : 0 ≤ lk ∧ lk ≤ 4
 case neg =>
  have H4 : ∀ W : World, Calls Tryd.prog 78 #[.int .i64 lk, .int .i64 4] W fun e w' => e = .returned (.bool false) ∧ W = w' := fun W => by have := between_any lk 4 W; rwa [decide_eq_false q4] at this
  clear HBT
  go_enter Tryd.func54, Tryd.ntmps54
  go_wp2_with (go_at_call 78; (first | (with_reducible refine (H3 _).mono ?_) | (with_reducible refine (H4 _).mono ?_)); rintro e w' ⟨rfl, rfl⟩)
  go_ret
  exact ⟨⟨2, rfl, by simp; intro h; exact q4 h.lkB⟩, B0.out⟩
 have H4 : ∀ W : World, Calls Tryd.prog 78 #[.int .i64 lk, .int .i64 4] W fun e w' => e = .returned (.bool true) ∧ W = w' := fun W => by have := between_any lk 4 W; rwa [decide_eq_true q4] at this
 go_enter Tryd.func54, Tryd.ntmps54
 go_upto_region 5 with (go_at_call 78; (first | (with_reducible refine (H3 _).mono ?_) | (with_reducible refine (H4 _).mono ?_)); rintro e w' ⟨rfl, rfl⟩)
 clear H3 H4 hV0 d1 d2
 go_loopw [5, 42] (fun a5 a42 wr => ∃ j : Nat, j ≤ ents.length ∧ a42 = .int .i64 (j : Int) ∧ (∀ e ∈ ents.take j, 0 ≤ e.da ∧ e.da ≤ 512) ∧ Below V0.heap.size V0 wr) (fun _ a42 _ => ents.length - (intOf a42).toNat)
 case atStart => exact ⟨0, Nat.zero_le _, rfl, by simp, Below.refl _ _⟩
 case round =>
  obtain ⟨j, hj, rfl, hda, hb⟩ := hrel
  have HDA := Lib.hid hda
  have HB := Lib.hid hb
  have BW := Lib.hid (B0.out.trans (hb.mono (by omega)))
  have s1 := hb.size
  clear hda hb
  by_cases hlt : j < ents.length
  ·obtain ⟨e, b, off, he, rfl, hbl, c0, c1, c2, c3⟩ := HEH.out.cells BW.out hlt
   have HTK := Lib.hid (take_snoc he)
   have HEM := Lib.hid (List.mem_of_getElem? he)
   have dl : decide ((j : Int) < (ents.length : Int)) = true := by simpa using hlt
   clear he
   by_cases q5 : 0 ≤ e.da ∧ e.da ≤ 512
   ·have H5 : ∀ W : World, Calls Tryd.prog 78 #[.int .i64 e.da, .int .i64 512] W fun e w' => e = .returned (.bool true) ∧ W = w' := fun W => by have := between_any e.da 512 W; rwa [decide_eq_true q5] at this
    go_wp2_with (go_at_call 78; refine (H5 _).mono ?_; rintro e w' ⟨rfl, rfl⟩)
    go_roundw
    case rel =>
     refine ⟨j + 1, by omega, by go_num, fun x hx => ?_, HB.out.alloc (by omega) _⟩
     rw [HTK.out] at hx
     rcases List.mem_append.1 hx with h | h
     ·exact HDA.out x h
     ·simp at h; rw [h]; exact q5
    case measure => simp [intOf]; omega
   ·have H5 : ∀ W : World, Calls Tryd.prog 78 #[.int .i64 e.da, .int .i64 512] W fun e w' => e = .returned (.bool false) ∧ W = w' := fun W => by have := between_any e.da 512 W; rwa [decide_eq_false q5] at this
    go_wp2_with (go_at_call 78; refine (H5 _).mono ?_; rintro e w' ⟨rfl, rfl⟩)
    go_ret
    exact ⟨⟨2, rfl, by simp; intro h; exact q5 (h.da e HEM.out)⟩, BW.out.alloc (by omega) _⟩
  ·obtain rfl : j = ents.length := by omega
   have dl : decide ((ents.length : Int) < (ents.length : Int)) = false := by simp
   rw [List.take_length] at HDA
   obtain ⟨V1, rfl⟩ : ∃ V1 : World, V1 = wr := ⟨_, rfl⟩
   have z0 : V1.cell? ⟨w.heap.size, 0, none⟩ = some (.slice A n cap) := by rw [HB.out.cell (p := ⟨w.heap.size, 0, none⟩) s0]; exact y0
   have z1 : V1.cell? ⟨w.heap.size, 1, none⟩ = some (.slice EA ents.length ecap) := by rw [HB.out.cell (p := ⟨w.heap.size, 1, none⟩) s0]; exact y1
   clear hlt
   go_upto_region 11 with fail
   go_loopw [7, 55] (fun a7 a55 wr => ∃ j : Nat, j ≤ ents.length ∧ a55 = .int .i64 (j : Int) ∧ (∀ e ∈ ents.take j, 1 ≤ e.nm.size ∧ e.nm.size ≤ 12) ∧ Below V0.heap.size V0 wr) (fun _ a55 _ => ents.length - (intOf a55).toNat)
   case atStart => exact ⟨0, Nat.zero_le _, rfl, by simp, HB.out⟩
   case round =>
    obtain ⟨j, hj, rfl, hnm, hb⟩ := hrel
    have HNM := Lib.hid hnm
    clear HB BW z0 z1
    have HB := Lib.hid hb
    have BW := Lib.hid (B0.out.trans (hb.mono (by omega)))
    have s1 := hb.size
    clear hnm hb dl
    by_cases hlt : j < ents.length
    ·obtain ⟨e, b, off, he, rfl, hbl, c0, c1, c2, c3⟩ := HEH.out.cells BW.out hlt
     have HTK := Lib.hid (take_snoc he)
     have HEM := Lib.hid (List.mem_of_getElem? he)
     have hnl := HEH.out.nm e HEM.out
     have dl : decide ((j : Int) < (ents.length : Int)) = true := by simpa using hlt
     clear he
     by_cases q5 : 1 ≤ e.nm.size ∧ e.nm.size ≤ 12
     ·have H5 : ∀ W : World, Calls Tryd.prog 79 #[.string e.nm] W fun e w' => e = .returned (.bool true) ∧ W = w' := fun W => by have := goodName_any e.nm W hnl; rwa [decide_eq_true q5] at this
      go_wp2_with (go_at_call 79; refine (H5 _).mono ?_; rintro e w' ⟨rfl, rfl⟩)
      go_roundw
      case rel =>
       refine ⟨j + 1, by omega, by go_num, fun x hx => ?_, HB.out.alloc (by omega) _⟩
       rw [HTK.out] at hx
       rcases List.mem_append.1 hx with h | h
       ·exact HNM.out x h
       ·simp at h; rw [h]; exact q5
      case measure => simp [intOf]; omega
     ·have H5 : ∀ W : World, Calls Tryd.prog 79 #[.string e.nm] W fun e w' => e = .returned (.bool false) ∧ W = w' := fun W => by have := goodName_any e.nm W hnl; rwa [decide_eq_false q5] at this
      go_wp2_with (go_at_call 79; refine (H5 _).mono ?_; rintro e w' ⟨rfl, rfl⟩)
      go_ret
      exact ⟨⟨6, rfl, by simp; intro h; exact q5 (h.nm e HEM.out)⟩, BW.out.alloc (by omega) _⟩
    ·obtain rfl : j = ents.length := by omega
     have dl : decide ((ents.length : Int) < (ents.length : Int)) = false := by simp
     rw [List.take_length] at HNM
     obtain ⟨V2, rfl⟩ : ∃ V2 : World, V2 = wr := ⟨_, rfl⟩
     have z0 : V2.cell? ⟨w.heap.size, 0, none⟩ = some (.slice A n cap) := by rw [HB.out.cell (p := ⟨w.heap.size, 0, none⟩) s0]; exact y0
     have z1 : V2.cell? ⟨w.heap.size, 1, none⟩ = some (.slice EA ents.length ecap) := by rw [HB.out.cell (p := ⟨w.heap.size, 1, none⟩) s0]; exact y1
     clear hlt
     go_upto_region 18 with fail
     go_loopw [8, 10, 67] (fun a8 a10 a67 wr => ∃ (j : Nat) (m : Int), j ≤ ents.length ∧ a67 = .int .i64 (j : Int) ∧ a8 = .int .i64 m ∧ Chain 0 (ents.take j) m ∧ Below V0.heap.size V0 wr) (fun _ _ a67 _ => ents.length - (intOf a67).toNat)
     case atStart => exact ⟨0, 0, Nat.zero_le _, rfl, rfl, rfl, HB.out⟩
     case round =>
      obtain ⟨j, m, hj, rfl, rfl, hch, hb⟩ := hrel
      have HCH := Lib.hid hch
      clear HB BW z0 z1
      have HB := Lib.hid hb
      have BW := Lib.hid (B0.out.trans (hb.mono (by omega)))
      have s1 := hb.size
      clear hch hb dl
      by_cases hlt : j < ents.length
      ·obtain ⟨e, b, off, he, rfl, hbl, c0, c1, c2, c3⟩ := HEH.out.cells BW.out hlt
       have HTK := Lib.hid (take_snoc he)
       have HNO := Lib.hid (show ¬ (e.st = m ∧ e.st < e.en) → ∀ z, ¬ Chain 0 ents z from fun hno z hz => by
        have e1 : ents = ents.take j ++ (e :: ents.drop (j + 1)) := by
         have := List.take_append_drop j ents
         rw [List.drop_eq_getElem_cons hlt] at this
         have e2 : ents[j] = e := by rw [List.getElem?_eq_getElem hlt] at he; exact Option.some.inj he
         rw [e2] at this
         exact this.symm
        rw [e1] at hz
        obtain ⟨m', h1, h2⟩ := Chain.append.1 hz
        have := Chain.det HCH.out h1
        exact hno ⟨by rw [this]; exact h2.1, h2.2.1⟩)
       have dl : decide ((j : Int) < (ents.length : Int)) = true := by simpa using hlt
       clear he
       by_cases q5 : e.st = m
       ·by_cases q6 : e.st < e.en
        ·have d5 : (e.st != m) = false := by simp [q5]
         have d6 : decide (e.en ≤ e.st) = false := by simp; omega
         have HQ := Lib.hid (And.intro q5 q6)
         clear q5 q6
         go_wp2_with fail
         go_roundw
         case rel =>
          refine ⟨j + 1, e.en, by omega, by go_num, rfl, ?_, HB.out.alloc (by omega) _⟩
          rw [HTK.out]
          exact HCH.out.snoc HQ.out.1 HQ.out.2
         case measure => simp [intOf]; omega
        ·have d5 : (e.st != m) = false := by simp [q5]
         have d6 : decide (e.en ≤ e.st) = true := by simp; omega
         have HQ := Lib.hid (HNO.out (fun h => q6 h.2))
         clear q5 q6
         go_wp2_with fail
         go_ret
         exact ⟨⟨14, rfl, by simp; intro h; exact HQ.out _ h.ch⟩, BW.out.alloc (by omega) _⟩
       ·have d5 : (e.st != m) = true := by simp [q5]
        have HQ := Lib.hid (HNO.out (fun h => q5 h.1))
        clear q5
        go_wp2_with fail
        go_ret
        exact ⟨⟨14, rfl, by simp; intro h; exact HQ.out _ h.ch⟩, BW.out.alloc (by omega) _⟩
      ·obtain rfl : j = ents.length := by omega
       have dl : decide ((ents.length : Int) < (ents.length : Int)) = false := by simp
       rw [List.take_length] at HCH
       obtain ⟨V3, rfl⟩ : ∃ V3 : World, V3 = wr := ⟨_, rfl⟩
       have z0 : V3.cell? ⟨w.heap.size, 0, none⟩ = some (.slice A n cap) := by rw [HB.out.cell (p := ⟨w.heap.size, 0, none⟩) s0]; exact y0
       have z1 : V3.cell? ⟨w.heap.size, 1, none⟩ = some (.slice EA ents.length ecap) := by rw [HB.out.cell (p := ⟨w.heap.size, 1, none⟩) s0]; exact y1
       clear hlt
       by_cases q7 : m = (n : Int)
       ·have d7 : (m != (n : Int)) = false := by simp [q7]
        have HC2 := Lib.hid (show Chain 0 ents n by rw [← q7]; exact HCH.out)
        clear q7 HCH
        go_upto_region 27 with fail
        go_loopw [12, 13, 14, 93] (fun a12 a13 a14 a93 wr => ∃ j : Nat, j ≤ ents.length ∧ a93 = .int .i64 (j : Int) ∧ (∀ e ∈ ents.take j, ∀ k : Nat, e.st ≤ k → (k : Int) < e.en → OkIns cd lk e.st e.en k) ∧ Below V0.heap.size V0 wr) (fun _ _ _ a93 _ => ents.length - (intOf a93).toNat)
        case atStart => exact ⟨0, Nat.zero_le _, rfl, by simp, HB.out⟩
        case round =>
         obtain ⟨j, hj, rfl, hins, hb⟩ := hrel
         have HIN := Lib.hid hins
         clear HB BW z0 z1 d7
         have HB := Lib.hid hb
         have BW := Lib.hid (B0.out.trans (hb.mono (by omega)))
         have s1 := hb.size
         clear hins hb dl
         by_cases hlt : j < ents.length
         ·obtain ⟨e, b, off, he, rfl, hbl, c0, c1, c2, c3⟩ := HEH.out.cells BW.out hlt
          have HTK := Lib.hid (take_snoc he)
          have HEM := Lib.hid (List.mem_of_getElem? he)
          obtain ⟨g1, g2, g3⟩ := HC2.out.bounds e HEM.out
          have dl : decide ((j : Int) < (ents.length : Int)) = true := by simpa using hlt
          clear he
          go_upto_region 30 with fail
          obtain ⟨X, hX⟩ : ∃ X, wr.alloc (.cells #[.string e.nm, .int .i64 e.st, .int .i64 e.en, .int .i64 e.da] 102) = X := ⟨_, rfl⟩
          have bX : Below V0.heap.size V0 X := hX ▸ HB.out.alloc (by omega) _
          have kX : X.heap[wr.heap.size]? = some (.cells #[.string e.nm, .int .i64 e.st, .int .i64 e.en, .int .i64 e.da] 102) := hX ▸ heap_alloc_new _ _
          have sX : wr.heap.size < X.heap.size := by rw [← hX]; simp
          rw [hX]
          have BX := Lib.hid bX
          have KX := Lib.hid kX
          obtain ⟨q, hq⟩ : ∃ q, wr.heap.size = q := ⟨_, rfl⟩
          rw [hq] at KX sX s1 ⊢
          clear hX bX kX HB BW c0 c1 c2 c3 hq dl
          obtain ⟨p0, hp0⟩ : ∃ p0 : Nat, e.st = (p0 : Int) := ⟨e.st.toNat, by omega⟩
          have HP0 := Lib.hid hp0
          clear hp0
          obtain ⟨wo, rfl⟩ : ∃ wo : World, wo = wr := ⟨_, rfl⟩
          go_loopw [13, 14] (fun a13 a14 wr => ∃ p : Nat, a13 = .int .i64 (p : Int) ∧ e.st ≤ (p : Int) ∧ (p : Int) ≤ e.en ∧ (∀ k : Nat, e.st ≤ k → k < p → OkIns cd lk e.st e.en k) ∧ Below X.heap.size X wr) (fun a13 _ _ => (e.en - intOf a13).toNat)
          case atStart => exact ⟨p0, by rw [HP0.out], by have := HP0.out; omega, by have := HP0.out; omega, fun k h1 h2 => by have := HP0.out; omega, Below.refl _ _⟩
          case round =>
           obtain ⟨p, rfl, hp1, hp2, hok, hb⟩ := hrel
           have HOK := Lib.hid hok
           have HBX := Lib.hid hb
           have HBV := Lib.hid (BX.out.trans (hb.mono (by omega)))
           have BW := Lib.hid (B0.out.trans (HBV.out.mono (by omega)))
           have s2 := hb.size
           have v0 : wr.cell? ⟨q, 0, none⟩ = some (.string e.nm) := by rw [hb.cell (p := ⟨q, 0, none⟩) sX]; simp [World.cell?, KX.out]
           have v1 : wr.cell? ⟨q, 1, none⟩ = some (.int .i64 e.st) := by rw [hb.cell (p := ⟨q, 1, none⟩) sX]; simp [World.cell?, KX.out]
           have v2 : wr.cell? ⟨q, 2, none⟩ = some (.int .i64 e.en) := by rw [hb.cell (p := ⟨q, 2, none⟩) sX]; simp [World.cell?, KX.out]
           have v3 : wr.cell? ⟨q, 3, none⟩ = some (.int .i64 e.da) := by rw [hb.cell (p := ⟨q, 3, none⟩) sX]; simp [World.cell?, KX.out]
           have z0 : wr.cell? ⟨w.heap.size, 0, none⟩ = some (.slice A n cap) := by rw [HBV.out.cell (p := ⟨w.heap.size, 0, none⟩) s0]; exact y0
           have z1 : wr.cell? ⟨w.heap.size, 1, none⟩ = some (.slice (some ⟨b, off, none⟩) ents.length ecap) := by rw [HBV.out.cell (p := ⟨w.heap.size, 1, none⟩) s0]; exact y1
           have z2 : wr.cell? ⟨w.heap.size, 2, none⟩ = some (.int .i64 sh) := by rw [HBV.out.cell (p := ⟨w.heap.size, 2, none⟩) s0]; exact y2
           have z3 : wr.cell? ⟨w.heap.size, 3, none⟩ = some (.int .i64 lk) := by rw [HBV.out.cell (p := ⟨w.heap.size, 3, none⟩) s0]; exact y3
           clear hok hb
           by_cases hpe : (p : Int) < e.en
           ·have dp : decide ((p : Int) < e.en) = true := decide_eq_true hpe
            have HCI := Lib.hid (checkInstr_any (.slice A n cap) (.slice (some ⟨b, off, none⟩) ents.length ecap) sh lk e.nm e.st e.en e.da n cd p (by omega) wr (HT.out.below BW.out) (HWH.out.below BW.out))
            go_wp2_with (go_at_call 80; refine HCI.out.mono ?_; rintro e' W5 ⟨⟨r, rfl, hr⟩, hb5⟩)
            ·rename_i hne
             have hr0 : ¬ (r = 0) := by simpa using hne
             go_ret
             exact ⟨⟨r, rfl, by simp only [hr0, false_iff]; intro h; exact hr0 (hr.2 (h.ins e HEM.out p (by omega) hpe))⟩, BW.out.trans (hb5.mono (by have := BW.out.size; omega))⟩
            ·rename_i hne
             have hr0 : r = 0 := by simpa using hne
             go_roundw
             case rel =>
              refine ⟨p + 1, by go_num, by omega, by omega, fun k h1 h2 => ?_, HBX.out.trans (hb5.mono (by omega))⟩
              by_cases hkp : k = p
              ·rw [hkp]; exact hr.1 hr0
              ·exact HOK.out k h1 (by omega)
             case measure => simp [intOf]; omega
           ·have dp : decide ((p : Int) < e.en) = false := decide_eq_false hpe
            go_wp2_with fail
            go_roundw
            case rel =>
             refine ⟨j + 1, by omega, by go_num, fun x hx k h1 h2 => ?_, HBV.out⟩
             rw [HTK.out] at hx
             rcases List.mem_append.1 hx with h | h
             ·exact HIN.out x h k h1 h2
             ·simp at h
              subst h
              exact HOK.out k h1 (by omega)
            case measure => simp [intOf]; omega
         ·obtain rfl : j = ents.length := by omega
          have dl : decide ((ents.length : Int) < (ents.length : Int)) = false := by simp
          rw [List.take_length] at HIN
          go_wp2_with fail
          go_ret
          exact ⟨⟨0, rfl, by simp; exact ⟨q1, q2, q3, q4, HDA.out, HNM.out, HC2.out, HIN.out⟩⟩, BW.out⟩
       ·have d7 : (m != (n : Int)) = true := by simp [q7]
        go_wp2_with fail
        go_ret
        exact ⟨⟨14, rfl, by simp; intro h; exact q7 (Chain.det HCH.out h.ch)⟩, BW.out⟩

end Go.Proofs.YtebklpnkcicpjaaDoor

namespace Go.Proofs.YtebklpnkcicpjaaDoor
open Go.RowKit
set_option linter.unusedVariables false
set_option linter.unusedSimpArgs false

set_option maxHeartbeats 1000000 in
theorem index_any (v : Value) (l : List Int) (x : Int) (w : World) (H : Ints w v l) :
  Calls Tryd.prog 82 #[v, .int .i64 x] w fun e w' => (∃ r : Int, e = .returned (.int .i64 r) ∧ (0 ≤ r ↔ x ∈ l)) ∧ w = w' := by
 obtain ⟨A, cap, rfl, h2, h3, h4⟩ := H
 have HC := Lib.hid h4
 unfold maxLen at h3
 clear h4
 go_enter Tryd.func82, Tryd.ntmps82
 go_upto_region 2 with fail
 go_loopw [5, 8] (fun a5 a8 wr => ∃ j : Nat, j ≤ l.length ∧ a8 = .int .i64 (j : Int) ∧ x ∉ l.take j ∧ wr = w) (fun _ a8 _ => l.length - (intOf a8).toNat)
 case atStart => exact ⟨0, Nat.zero_le _, rfl, by simp, rfl⟩
 case round =>
  obtain ⟨j, hj, rfl, hno, hw⟩ := hrel
  subst hw
  have HNO := Lib.hid hno
  clear hno
  by_cases hlt : j < l.length
  ·obtain ⟨b, off, rfl, hb, hc⟩ := HC.out (by omega)
   obtain ⟨s, hs⟩ : ∃ s, l[j] = s := ⟨_, rfl⟩
   have x1 : wr.cell? ⟨b, off + j, none⟩ = some (.int .i64 s) := by rw [hc j hlt, ← hs]; simp [List.getD, List.getElem?_eq_getElem hlt]
   have HS := Lib.hid (show l[j]? = some s by rw [List.getElem?_eq_getElem hlt, hs])
   have dl : decide ((j : Int) < (l.length : Int)) = true := by simpa using hlt
   clear hc hs
   by_cases q : x = s
   ·have d : (x == s) = true := by simp [q]
    have HM := Lib.hid (show x ∈ l by rw [q]; exact List.mem_of_getElem? HS.out)
    clear q
    go_wp2_with fail
    go_ret
    exact ⟨⟨(j : Int), rfl, by simp [HM.out]⟩, rfl⟩
   ·have d : (x == s) = false := by simp [q]
    have HQ := Lib.hid q
    clear q
    go_wp2_with fail
    go_roundw
    case rel =>
     refine ⟨j + 1, by omega, by go_num, ?_, by first | rfl | trivial⟩
     rw [take_snoc HS.out]
     intro h
     rcases List.mem_append.1 h with h | h
     ·exact HNO.out h
     ·simp at h; exact HQ.out h
    case measure => simp [intOf]; omega
  ·obtain rfl : j = l.length := by omega
   have dl : decide ((l.length : Int) < (l.length : Int)) = false := by simp
   rw [List.take_length] at HNO
   go_wp2_with fail
   go_ret
   exact ⟨⟨-1, rfl, by simp; exact HNO.out⟩, rfl⟩

set_option maxHeartbeats 1000000 in
theorem gcontains_any (v : Value) (l : List Int) (x : Int) (w : World) (H : Ints w v l) :
  Calls Tryd.prog 58 #[v, .int .i64 x] w fun e w' => e = .returned (.bool (decide (x ∈ l))) ∧ w = w' := by
 have HI := index_any v l x w H
 go_enter Tryd.func58, Tryd.ntmps58
 go_wp2_with (go_at_call 82; refine HI.mono ?_; rintro e w' ⟨⟨r, rfl, hr⟩, rfl⟩)
 go_ret
 refine ⟨ret_bool ?_, rfl⟩
 first | rfl | exact decide_eq_decide.2 hr

/-! ### the blocks -/
section
variable (c : Int → Ins) (st : Int) (D : List Int)
def ldB (x : Int) : Bool := decide (x = st) || D.any (fun a => decide (x ∈ marksI (c a) a))
theorem ldB_iff (x : Int) : ldB c st D x = true ↔ Lead c st D x := by
 unfold ldB Lead
 simp
def setTo (L : List (Int × Int)) (t : Int) : List (Int × Int) := match L.reverse with | [] => [] | (a, _) :: r => (r.reverse) ++ [(a, t)]
def blk : Nat → List (Int × Int)
 | 0 => []
 | m + 1 => if st + m ∈ D then (if ldB c st D (st + m) = true then blk m ++ [(st + m, st + m + 1)] else setTo (blk m) (st + m + 1)) else blk m
end
theorem setTo_snoc (L : List (Int × Int)) (a b t : Int) : setTo (L ++ [(a, b)]) t = L ++ [(a, t)] := by simp [setTo]
theorem snoc_pair (L : List (Int × Int)) (h : L ≠ []) : ∃ M a b, L = M ++ [(a, b)] := by
 rcases snoc_cases L with h' | ⟨t, p, h'⟩
 ·exact absurd h' h
 ·exact ⟨t, p.1, p.2, h'⟩
structure BInv (c : Int → Ins) (st : Int) (D : List Int) (m : Nat) (L : List (Int × Int)) : Prop where
 lo : ∀ p ∈ L, st ≤ p.1 ∧ p.1 < p.2 ∧ p.2 ≤ st + m
 ordd : L.Pairwise (fun p q => p.2 ≤ q.1)
 last : ∀ p ∈ L, p.2 - 1 ∈ D
 lead : ∀ p ∈ L, p.1 ∈ D ∧ ldB c st D p.1 = true
 cl : ∀ p ∈ L, p.2 < st + m → p.2 ∈ D → ldB c st D p.2 = true
 num : ∀ x, st ≤ x → x < st + m → x ∈ D → ldB c st D x = true → ∃ p ∈ L, p.1 = x
 ne : st ∈ D → 0 < m → L ≠ []
theorem ldB_st (c : Int → Ins) (st : Int) (D : List Int) : ldB c st D st = true := by simp [ldB]
theorem blk_inv (c : Int → Ins) (st : Int) (D : List Int) : ∀ m, BInv c st D m (blk c st D m)
 | 0 => ⟨by simp [blk], by simp [blk], by simp [blk], by simp [blk], by simp [blk], fun x h1 h2 => by omega, fun _ h => by omega⟩
 | m + 1 => by
  have h := blk_inv c st D m
  unfold blk
  by_cases hD : st + (m : Int) ∈ D
  ·rw [if_pos hD]
   by_cases hl : ldB c st D (st + m) = true
   ·rw [if_pos hl]
    refine ⟨fun p hp => ?_, ?_, fun p hp => ?_, fun p hp => ?_, fun p hp h1 h2 => ?_, fun x h1 h2 h3 h4 => ?_, fun _ _ => by simp⟩
    ·rcases List.mem_append.1 hp with hp | hp
     ·have := h.lo p hp; omega
     ·simp at hp; subst hp; simp; omega
    ·rw [List.pairwise_append]
     refine ⟨h.ordd, by simp, fun p hp q hq => ?_⟩
     simp at hq
     subst hq
     have := h.lo p hp
     simp; omega
    ·rcases List.mem_append.1 hp with hp | hp
     ·exact h.last p hp
     ·simp at hp; subst hp; simp only; rw [show st + (m : Int) + 1 - 1 = st + m by omega]; exact hD
    ·rcases List.mem_append.1 hp with hp | hp
     ·exact h.lead p hp
     ·simp at hp; subst hp; exact ⟨hD, hl⟩
    ·rcases List.mem_append.1 hp with hp | hp
     ·by_cases e : p.2 = st + m
      ·rw [e]; exact hl
      ·exact h.cl p hp (by omega) h2
     ·simp at hp; subst hp; simp at h1; omega
    ·by_cases e : x = st + m
     ·exact ⟨(st + m, st + m + 1), by simp, e.symm⟩
     ·obtain ⟨p, hp, e⟩ := h.num x h1 (by omega) h3 h4
      exact ⟨p, by simp [hp], e⟩
   ·rw [if_neg hl]
    have hm : 0 < m := by
     rcases Nat.eq_zero_or_pos m with e | e
     ·subst e
      exact absurd (by simpa using ldB_st c st D) hl
     ·exact e
    by_cases hE : blk c st D m = []
    ·rw [hE] at h ⊢
     refine ⟨by simp [setTo], by simp [setTo], by simp [setTo], by simp [setTo], by simp [setTo], fun x h1 h2 h3 h4 => ?_, fun h1 h2 => absurd rfl (h.ne h1 hm)⟩
     by_cases e : x = st + m
     ·rw [e] at h4; exact absurd h4 hl
     ·obtain ⟨p, hp, _⟩ := h.num x h1 (by omega) h3 h4
      cases hp
    ·obtain ⟨M, a, b, hL⟩ := snoc_pair _ hE
     rw [hL, setTo_snoc]
     rw [hL] at h
     have hab := h.lo (a, b) (by simp)
     simp only at hab
     have hord := h.ordd
     rw [List.pairwise_append] at hord
     refine ⟨fun p hp => ?_, ?_, fun p hp => ?_, fun p hp => ?_, fun p hp h1 h2 => ?_, fun x h1 h2 h3 h4 => ?_, fun _ _ => by simp⟩
     ·rcases List.mem_append.1 hp with hp | hp
      ·have := h.lo p (by simp [hp]); omega
      ·simp at hp; subst hp; simp only; omega
     ·rw [List.pairwise_append]
      refine ⟨hord.1, by simp, fun p hp q hq => ?_⟩
      simp at hq
      subst hq
      exact hord.2.2 p hp (a, b) (by simp)
     ·rcases List.mem_append.1 hp with hp | hp
      ·exact h.last p (by simp [hp])
      ·simp at hp; subst hp; simp only; rw [show st + (m : Int) + 1 - 1 = st + m by omega]; exact hD
     ·rcases List.mem_append.1 hp with hp | hp
      ·exact h.lead p (by simp [hp])
      ·simp at hp; subst hp; exact h.lead (a, b) (by simp)
     ·rcases List.mem_append.1 hp with hp | hp
      ·have := hord.2.2 p hp (a, b) (by simp)
       simp only at this
       exact h.cl p (by simp [hp]) (by omega) h2
      ·simp at hp; subst hp; simp at h1; omega
     ·by_cases e : x = st + m
      ·rw [e] at h4; exact absurd h4 hl
      ·obtain ⟨p, hp, e⟩ := h.num x h1 (by omega) h3 h4
       rcases List.mem_append.1 hp with hp | hp
       ·exact ⟨p, by simp [hp], e⟩
       ·simp at hp; subst hp; exact ⟨(a, st + m + 1), by simp, e⟩
  ·rw [if_neg hD]
   refine ⟨fun p hp => ?_, h.ordd, h.last, h.lead, fun p hp h1 h2 => ?_, fun x h1 h2 h3 h4 => ?_, fun h1 h2 => ?_⟩
   ·have := h.lo p hp; omega
   ·by_cases e : p.2 = st + m
    ·rw [e] at h2; exact absurd h2 hD
    ·exact h.cl p hp (by omega) h2
   ·by_cases e : x = st + m
    ·rw [e] at h3; exact absurd h3 hD
    ·exact h.num x h1 (by omega) h3 h4
   ·rcases Nat.eq_zero_or_pos m with e | e
    ·subst e
     exact absurd (by simpa using h1) hD
    ·exact h.ne h1 e
theorem blk_len (c : Int → Ins) (st : Int) (D : List Int) : ∀ m, (blk c st D m).length ≤ m
 | 0 => by simp [blk]
 | m + 1 => by
  have h := blk_len c st D m
  unfold blk
  split
  ·split
   ·simp; omega
   ·by_cases hE : blk c st D m = []
    ·rw [hE]; simp [setTo]
    ·obtain ⟨M, a, b, hL⟩ := snoc_pair _ hE
     rw [hL] at h ⊢
     rw [setTo_snoc]
     simp at h ⊢; omega
  ·omega

def nmb (L : List (Int × Int)) : Int → Option Value := fun x => (L.findIdx? (fun p => p.1 == x)).map (fun i => .int .i64 (i : Int))
theorem nmb_nil : nmb [] = fun _ => none := by funext x; simp [nmb]
theorem nmb_set (L : List (Int × Int)) (a b t : Int) : nmb (L ++ [(a, b)]) = nmb (L ++ [(a, t)]) := by
 funext x
 unfold nmb
 simp [List.findIdx?_append]
theorem nmb_snoc (L : List (Int × Int)) (a b : Int) (h : ∀ p ∈ L, p.1 ≠ a) : updo (nmb L) a (.int .i64 (L.length : Int)) = nmb (L ++ [(a, b)]) := by
 funext x
 unfold updo nmb
 rw [List.findIdx?_append]
 by_cases e : x = a
 ·subst e
  have : L.findIdx? (fun p => p.1 == x) = none := by
   rw [List.findIdx?_eq_none_iff]
   intro p hp
   simpa using h p hp
  rw [if_pos rfl, this]
  simp
 ·rw [if_neg e]
  have : ([(a, b)] : List (Int × Int)).findIdx? (fun p => p.1 == x) = none := by
   simp
   exact fun h => e h.symm
  rw [this]
  simp
def idx (L : List (Int × Int)) (x : Int) : Nat := (L.findIdx? (fun p => p.1 == x)).getD 0
theorem nmb_some {L : List (Int × Int)} {x : Int} (h : ∃ p ∈ L, p.1 = x) : nmb L x = some (.int .i64 (idx L x : Int)) ∧ idx L x < L.length ∧ (L.getD (idx L x) (0, 0)).1 = x := by
 obtain ⟨p, hp, e⟩ := h
 have hs : (L.findIdx? (fun p => p.1 == x)).isSome := by
  rw [List.findIdx?_isSome]
  simp only [List.any_eq_true]
  exact ⟨p, hp, by simp [e]⟩
 obtain ⟨i, hi⟩ := Option.isSome_iff_exists.1 hs
 have h2 := List.findIdx?_eq_some_iff_getElem.1 hi
 obtain ⟨h3, h4, _⟩ := h2
 unfold nmb idx
 rw [hi]
 refine ⟨rfl, h3, ?_⟩
 simp only [Option.getD_some, List.getD_eq_getElem?_getD, List.getElem?_eq_getElem h3]
 simpa using h4

end Go.Proofs.YtebklpnkcicpjaaDoor

namespace Go.Proofs.YtebklpnkcicpjaaDoor
open Go.RowKit
set_option linter.unusedVariables false
set_option linter.unusedSimpArgs false

theorem own_ne {w : World} {B B' : Nat} {e e' : TypeId} {s s' n n' : Nat} {v v' : Value} {xs xs' : List Value} (h : w.ownsRow B e s v n xs) (h' : w.ownsRow B' e' s' v' n' xs') (hne : e ≠ e') (q : Nat) (hq : v.ownBlock = some q) : v'.ownBlock ≠ some q := by
 intro hq'
 rcases h.2 with ⟨rfl, _⟩ | ⟨g, cap, cur, rfl, _, hg, _⟩
 ·cases hq
 ·rcases h'.2 with ⟨rfl, _⟩ | ⟨g', cap', cur', rfl, _, hg', _⟩
  ·cases hq'
  ·simp [Value.ownBlock] at hq hq'
   subst hq hq'
   rw [hg] at hg'
   cases hg'
   exact hne rfl
theorem grown_of {w w2 W' : World} {row : Option Nat} (hb : Below w.heap.size w w2) (hg : w2.grownBy W' row) : w.grownBy W' row :=
 ⟨hg.os.trans hb.os, hg.tape.trans hb.tape, hg.output.trans hb.output, Nat.le_trans hb.size hg.size, fun k hk hne => (hg.block k (by have := hb.size; omega) hne).trans (hb.block k hk)⟩
theorem grown_setCell (w : World) (g o : Nat) (u : Value) : w.grownBy (w.setCell ⟨g, o, none⟩ u) (some g) :=
 ⟨rfl, rfl, rfl, by simp, fun k _ hne => Below.heap_setCell _ _ _ _ (fun e => hne (by rw [e]))⟩

def upd {α : Type} (f : Nat → α) (i : Nat) (x : α) : Nat → α := fun j => if j = i then x else f j
def flatV (L : List (Int × Int)) (val : Nat → Value) : List Value := (List.range L.length).flatMap fun i => [.int .i64 (L.getD i (0, 0)).1, .int .i64 (L.getD i (0, 0)).2, val i]
theorem flat3_at {f : Nat → List Value} (hf : ∀ i, (f i).length = 3) : ∀ (n i j : Nat), i < n → j < 3 → ((List.range n).flatMap f)[i * 3 + j]? = (f i)[j]?
 | n + 1, i, j, hi, hj => by
  rw [List.range_succ, List.flatMap_append]
  have hl : ((List.range n).flatMap f).length = n * 3 := by
   clear hi
   induction n with
   | zero => rfl
   | succ n ih => rw [List.range_succ, List.flatMap_append, List.length_append, ih]; simp [hf]; omega
  by_cases e : i < n
  ·rw [List.getElem?_append_left (by omega)]
   exact flat3_at hf n i j e hj
  ·obtain rfl : i = n := by omega
   rw [List.getElem?_append_right (by omega), hl]
   simp
theorem flat3_len {f : Nat → List Value} (hf : ∀ i, (f i).length = 3) (n : Nat) : ((List.range n).flatMap f).length = n * 3 := by
 induction n with
 | zero => rfl
 | succ n ih => rw [List.range_succ, List.flatMap_append, List.length_append, ih]; simp [hf]; omega
theorem flatV_len (L : List (Int × Int)) (val : Nat → Value) : (flatV L val).length = L.length * 3 := flat3_len (fun _ => rfl) _
theorem flatV_at (L : List (Int × Int)) (val : Nat → Value) {i j : Nat} (hi : i < L.length) (hj : j < 3) : (flatV L val)[i * 3 + j]? = [.int .i64 (L.getD i (0, 0)).1, .int .i64 (L.getD i (0, 0)).2, val i][j]? := flat3_at (f := fun i => [.int .i64 (L.getD i (0, 0)).1, .int .i64 (L.getD i (0, 0)).2, val i]) (fun _ => rfl) _ _ _ hi hj
theorem flatV_set (L : List (Int × Int)) (val : Nat → Value) {i : Nat} (hi : i < L.length) (v : Value) : (flatV L val).set (i * 3 + 2) v = flatV L (upd val i v) := by
 apply List.ext_getElem?
 intro q
 by_cases hq : q < L.length * 3
 ·obtain ⟨a, b, hb, rfl⟩ : ∃ a b, b < 3 ∧ q = a * 3 + b := ⟨q / 3, q % 3, Nat.mod_lt _ (by omega), by omega⟩
  have ha : a < L.length := by omega
  rw [List.getElem?_set, flatV_len, flatV_at L _ ha hb, flatV_at L _ ha hb]
  by_cases e : i * 3 + 2 = a * 3 + b
  ·obtain rfl : a = i := by omega
   obtain rfl : b = 2 := by omega
   rw [if_pos rfl, if_pos (by omega)]
   simp [upd]
  ·rw [if_neg e]
   obtain rfl | rfl | rfl : b = 0 ∨ b = 1 ∨ b = 2 := by omega
   ·rfl
   ·rfl
   ·have : a ≠ i := by omega
    simp [upd, this]
 ·rw [List.getElem?_eq_none (by rw [List.length_set, flatV_len]; omega), List.getElem?_eq_none (by rw [flatV_len]; omega)]
theorem rangeV_set (n : Nat) (val : Nat → Value) {p : Nat} (hp : p < n) (v : Value) : ((List.range n).map fun i => val (n + i)).set p v = (List.range n).map fun i => upd val (n + p) v (n + i) := by
 apply List.ext_getElem?
 intro q
 rw [List.getElem?_set]
 simp only [List.length_map, List.length_range, List.getElem?_map]
 by_cases e : p = q
 ·subst e
  rw [if_pos rfl, if_pos hp, List.getElem?_range hp]
  simp [upd]
 ·rw [if_neg e]
  by_cases hq : q < n
  ·rw [List.getElem?_range hq]
   simp [upd]
   intro h; omega
  ·rw [List.getElem?_eq_none (by simpa using hq)]
   rfl

structure BN (V wr : World) (gb nb g gcap pg : Nat) (L : List (Int × Int)) (val : Nat → Value) (lst : Nat → List Int) : Prop where
 gV : gb < V.heap.size
 nV : nb < V.heap.size
 gn : gb ≠ nb
 os : wr.os = V.os
 tape : wr.tape = V.tape
 output : wr.output = V.output
 sz : V.heap.size ≤ wr.heap.size
 blk : ∀ k, k < V.heap.size → k ≠ gb → k ≠ nb → wr.heap[k]? = V.heap[k]?
 gg : wr.heap[gb]? = some (.cells #[.slice (some ⟨g, 0, none⟩) L.length gcap, .slice (some ⟨pg, 0, none⟩) L.length L.length] 48 (0, 0))
 num : Im wr nb (nmb L)
 brow : wr.ownsRow V.heap.size 64 3 (.slice (some ⟨g, 0, none⟩) L.length gcap) L.length (flatV L val)
 prow : wr.ownsRow V.heap.size 62 1 (.slice (some ⟨pg, 0, none⟩) L.length L.length) L.length ((List.range L.length).map fun i => val (L.length + i))
 own : ∀ i, i < 2 * L.length → wr.ownsRow V.heap.size 3 1 (val i) (lst i).length (ivs (lst i))
 dis : ∀ i j, i < 2 * L.length → j < 2 * L.length → i ≠ j → ∀ q, (val i).ownBlock = some q → (val j).ownBlock ≠ some q
section
variable {V wr : World} {gb nb g gcap pg : Nat} {L : List (Int × Int)} {val : Nat → Value} {lst : Nat → List Int}
theorem BN.below {wr' : World} (h : BN V wr gb nb g gcap pg L val lst) (hb : Below wr.heap.size wr wr') : BN V wr' gb nb g gcap pg L val lst :=
 ⟨h.gV, h.nV, h.gn, hb.os.trans h.os, hb.tape.trans h.tape, hb.output.trans h.output, Nat.le_trans h.sz hb.size, fun k h1 h2 h3 => (hb.block k (by have := h.sz; omega)).trans (h.blk k h1 h2 h3), (hb.block _ (by have := h.sz; have := h.gV; omega)).trans h.gg, h.num.below hb h.num.lt, ownsRow_below h.brow hb, ownsRow_below h.prow hb, fun i hi => ownsRow_below (h.own i hi) hb, h.dis⟩
theorem BN.im (h : BN V wr gb nb g gcap pg L val lst) {x : Nat} {f : Int → Option Value} (hx : Im V x f) (h1 : x ≠ gb) (h2 : x ≠ nb) : Im wr x f := hx.keep (h.blk x hx.lt h1 h2)
theorem BN.rg (h : BN V wr gb nb g gcap pg L val lst) : (V.heap.size ≤ g ∧ g < wr.heap.size) ∧ (V.heap.size ≤ pg ∧ pg < wr.heap.size) ∧ g ≠ pg :=
 ⟨h.brow.lt g rfl, h.prow.lt pg rfl, fun e => own_ne h.brow h.prow (by decide) g rfl (by rw [e]; rfl)⟩
theorem BN.app {w2 W' : World} {i x : Nat} {y : Int} {v' : Value} (h : BN V wr gb nb g gcap pg L val lst) (hi : i < 2 * L.length) (hb : Below wr.heap.size wr w2) (hg : w2.grownBy W' (val i).ownBlock)
  (hown : W'.ownsRow V.heap.size 3 1 v' ((lst i).length + 1) (ivs (lst i ++ [y]))) (hob : v'.ownBlock = (val i).ownBlock ∨ v'.ownBlock = some w2.heap.size) (r o : Nat) (hr : (i < L.length ∧ r = g ∧ o = i * 3 + 2) ∨ (L.length ≤ i ∧ r = pg ∧ o = i - L.length)) :
  BN V (W'.setCell ⟨r, o, none⟩ v') gb nb g gcap pg L (upd val i v') (upd lst i (lst i ++ [y])) := by
 have G := grown_of hb hg
 have S := grown_setCell W' r o v'
 obtain ⟨⟨g1, g2⟩, ⟨p1, p2⟩, gp⟩ := h.rg
 have hgV := h.gV
 have hnV := h.nV
 have hsz := h.sz
 have hgs := G.size
 have oi := h.own i hi
 have ob : ∀ q, (val i).ownBlock = some q → V.heap.size ≤ q ∧ q ≠ g ∧ q ≠ pg := fun q hq => ⟨(oi.lt q hq).1, fun e => own_ne oi h.brow (by decide) q hq (by rw [e]; rfl), fun e => own_ne oi h.prow (by decide) q hq (by rw [e]; rfl)⟩
 have rV : V.heap.size ≤ r ∧ (r = g ∨ r = pg) := by rcases hr with ⟨_, rfl, _⟩ | ⟨_, rfl, _⟩; exact ⟨g1, .inl rfl⟩; exact ⟨p1, .inr rfl⟩
 have small : ∀ k, k < V.heap.size → (W'.setCell ⟨r, o, none⟩ v').heap[k]? = wr.heap[k]? := fun k hk => by
  rw [Below.heap_setCell _ _ _ _ (by show k ≠ r; omega)]
  exact G.block k (by omega) (fun e => by have := (ob k e.symm).1; omega)
 have own' : ∀ q, v'.ownBlock = some q → q ≠ r ∧ V.heap.size ≤ q := fun q hq => by
  have h1 := (hown.lt q hq).1
  refine ⟨fun e => ?_, h1⟩
  have : W'.ownsRow V.heap.size 64 3 (.slice (some ⟨g, 0, none⟩) L.length gcap) L.length (flatV L val) := h.brow.kept G (.inr (fun e' => (ob g e'.symm).2.1 rfl))
  have h2 : W'.ownsRow V.heap.size 62 1 (.slice (some ⟨pg, 0, none⟩) L.length L.length) L.length ((List.range L.length).map fun i => val (L.length + i)) := h.prow.kept G (.inr (fun e' => (ob pg e'.symm).2.2 rfl))
  rcases rV.2 with e2 | e2
  ·exact own_ne hown this (by decide) q hq (by rw [e, e2]; rfl)
  ·exact own_ne hown h2 (by decide) q hq (by rw [e, e2]; rfl)
 have b' : W'.ownsRow V.heap.size 64 3 (.slice (some ⟨g, 0, none⟩) L.length gcap) L.length (flatV L val) := h.brow.kept G (.inr (fun e' => (ob g e'.symm).2.1 rfl))
 have p' : W'.ownsRow V.heap.size 62 1 (.slice (some ⟨pg, 0, none⟩) L.length L.length) L.length ((List.range L.length).map fun i => val (L.length + i)) := h.prow.kept G (.inr (fun e' => (ob pg e'.symm).2.2 rfl))
 have h2V : V.heap.size ≤ W'.heap.size := by omega
 refine ⟨h.gV, h.nV, h.gn, G.os.trans h.os, G.tape.trans h.tape, G.output.trans h.output, by simpa using h2V, fun k h1 h2 h3 => (small k h1).trans (h.blk k h1 h2 h3), (small gb hgV).trans h.gg, h.num.keep (small nb hnV), ?_, ?_, fun j hj => ?_, fun a c ha hc hac q hq => ?_⟩
 ·rcases hr with ⟨hl, rfl, rfl⟩ | ⟨hl, rfl, rfl⟩
  ·rw [← flatV_set L val hl v']
   exact (b'.stored (i * 3 + 2) v').1
  ·have e : flatV L (upd val i v') = flatV L val := by
    unfold flatV
    rw [List.flatMap_def, List.flatMap_def]
    congr 1
    apply List.map_congr_left
    intro a ha
    have : a ≠ i := by have := List.mem_range.1 ha; omega
    simp [upd, this]
   rw [e]
   exact b'.kept S (.inr (by simp [Value.ownBlock]; exact gp))
 ·rcases hr with ⟨hl, rfl, rfl⟩ | ⟨hl, rfl, rfl⟩
  ·have e : ((List.range L.length).map fun a => upd val i v' (L.length + a)) = (List.range L.length).map fun a => val (L.length + a) := by
    apply List.map_congr_left
    intro a ha
    have : L.length + a ≠ i := by omega
    simp [upd, this]
   rw [e]
   exact p'.kept S (.inr (by simp [Value.ownBlock]; exact Ne.symm gp))
  ·have e : upd val i v' = upd val (L.length + (i - L.length)) v' := by rw [show L.length + (i - L.length) = i by omega]
   rw [e, ← rangeV_set L.length val (by omega) v']
   exact (p'.stored (i - L.length) v').1
 ·unfold upd
  by_cases e : j = i
  ·subst e
   rw [if_pos rfl, if_pos rfl]
   rw [show (lst j ++ [y]).length = (lst j).length + 1 by simp]
   exact hown.kept S (by
    cases hv : v'.ownBlock with
    | none => exact .inl rfl
    | some q => exact .inr (fun e' => (own' q hv).1 (by simpa using e')))
  ·rw [if_neg e, if_neg e]
   refine ((h.own j hj).kept G ?_).kept S ?_
   ·cases hv : (val j).ownBlock with
    | none => exact .inl rfl
    | some q => exact .inr (fun e' => h.dis i j hi hj (fun e2 => e e2.symm) q e'.symm hv)
   ·cases hv : (val j).ownBlock with
    | none => exact .inl rfl
    | some q =>
     refine .inr (fun e' => ?_)
     have hqr : q = r := by simpa using e'
     rcases rV.2 with e2 | e2
     ·exact own_ne (h.own j hj) h.brow (by decide) q hv (by rw [hqr, e2]; rfl)
     ·exact own_ne (h.own j hj) h.prow (by decide) q hv (by rw [hqr, e2]; rfl)
 ·have new : ∀ a, a < 2 * L.length → a ≠ i → ∀ q, v'.ownBlock = some q → (val a).ownBlock ≠ some q := fun a ha hai q hq hq2 => by
   rcases hob with h1 | h1
   ·rw [h1] at hq
    exact h.dis i a hi ha (fun e => hai e.symm) q hq hq2
   ·rw [h1] at hq
    cases hq
    have := ((h.own a ha).lt _ hq2).2
    have := hb.size
    omega
  unfold upd at hq ⊢
  by_cases e1 : a = i
  ·rw [if_pos e1] at hq
   rw [if_neg (fun e => hac (e1.trans e.symm))]
   exact new c hc (fun e => hac (e1.trans e.symm)) q hq
  ·rw [if_neg e1] at hq
   by_cases e2 : c = i
   ·rw [if_pos e2]
    exact fun hq2 => new a ha e1 q hq2 hq
   ·rw [if_neg e2]
    exact h.dis a c ha hc hac q hq
end

def addN (l : List Int) (x : Int) : List Int := if x ∈ l then l else l ++ [x]
def nxl (L : List (Int × Int)) (S : List Int) : List Int := S.foldl (fun l s => addN l (idx L s : Int)) []
def lastI (L : List (Int × Int)) (k : Nat) : Int := (L.getD k (0, 0)).2 - 1
def nextOf (c : Int → Ins) (L : List (Int × Int)) (k : Nat) : List Int := nxl L (succI (c (lastI L k)) (lastI L k))
def prevOf (c : Int → Ins) (L : List (Int × Int)) (k p : Nat) : List Int := ((List.range k).filter (fun b => decide ((p : Int) ∈ nextOf c L b))).map (fun (b : Nat) => (b : Int))
def lstAt (c : Int → Ins) (L : List (Int × Int)) (k : Nat) (l : List Int) : Nat → List Int := fun i =>
 if i < L.length then (if i < k then nextOf c L i else if i = k then l else []) else prevOf c L k (i - L.length) ++ if ((i - L.length : Nat) : Int) ∈ l then [(k : Int)] else []
theorem lstAt_zero (c : Int → Ins) (L : List (Int × Int)) : lstAt c L 0 [] = fun _ => [] := by
 funext i
 unfold lstAt prevOf
 split
 ·simp
 ·simp
theorem lstAt_step (c : Int → Ins) (L : List (Int × Int)) (k : Nat) : lstAt c L k (nextOf c L k) = lstAt c L (k + 1) [] := by
 funext i
 unfold lstAt
 by_cases h : i < L.length
 ·rw [if_pos h, if_pos h]
  by_cases h1 : i < k
  ·rw [if_pos h1, if_pos (by omega)]
  ·rw [if_neg h1]
   by_cases h2 : i = k
   ·rw [if_pos h2, if_pos (by omega), h2]
   ·rw [if_neg h2, if_neg (by omega)]
    split <;> rfl
 ·rw [if_neg h, if_neg h]
  unfold prevOf
  rw [List.range_succ, List.filter_append, List.map_append]
  by_cases h3 : ((i - L.length : Nat) : Int) ∈ nextOf c L k
  ·simp [h3]
  ·simp [h3]
theorem lstAt_add (c : Int → Ins) (L : List (Int × Int)) (k p : Nat) (l : List Int) (hk : k < L.length) (hp : p < L.length) (hx : (p : Int) ∉ l) : lstAt c L k (l ++ [(p : Int)]) = upd (upd (lstAt c L k l) k (l ++ [(p : Int)])) (L.length + p) (lstAt c L k l (L.length + p) ++ [(k : Int)]) := by
 funext i
 unfold upd
 by_cases h1 : i = L.length + p
 ·subst h1
  rw [if_pos rfl]
  unfold lstAt
  have e : ¬ (L.length + p < L.length) := by omega
  have e2 : L.length + p - L.length = p := by omega
  simp [e, e2, hx]
 ·rw [if_neg h1]
  by_cases h2 : i = k
  ·subst h2
   rw [if_pos rfl]
   unfold lstAt
   rw [if_pos hk, if_neg (by omega), if_pos rfl]
  ·rw [if_neg h2]
   unfold lstAt
   by_cases h : i < L.length
   ·rw [if_pos h, if_pos h, if_neg h2, if_neg h2]
   ·rw [if_neg h, if_neg h]
    congr 1
    have : ((i - L.length : Nat) : Int) ≠ (p : Int) := by omega
    simp [this]
theorem lstAt_self (c : Int → Ins) (L : List (Int × Int)) (k : Nat) (l : List Int) (hk : k < L.length) : lstAt c L k l k = l := by
 unfold lstAt
 rw [if_pos hk, if_neg (by omega), if_pos rfl]
theorem nxl_take (L : List (Int × Int)) (S : List Int) (j : Nat) (s : Int) (h : S[j]? = some s) : nxl L (S.take (j + 1)) = addN (nxl L (S.take j)) (idx L s : Int) := by
 unfold nxl
 rw [take_snoc h, List.foldl_append]
 rfl
theorem nxl_len (L : List (Int × Int)) (S : List Int) : (nxl L S).length ≤ S.length := by
 have : ∀ (S l : List Int), (S.foldl (fun l s => addN l (idx L s : Int)) l).length ≤ l.length + S.length := by
  intro S
  induction S with
  | nil => intro l; simp
  | cons s S ih =>
   intro l
   rw [List.foldl_cons]
   have := ih (addN l (idx L s : Int))
   have h2 : (addN l (idx L s : Int)).length ≤ l.length + 1 := by unfold addN; split <;> simp
   simp; omega
 have h := this S []
 simp only [List.length_nil, Nat.zero_add] at h
 exact h
theorem prevOf_len (c : Int → Ins) (L : List (Int × Int)) (k p : Nat) : (prevOf c L k p).length ≤ k := by
 unfold prevOf
 rw [List.length_map]
 exact Nat.le_trans (List.length_filter_le _ _) (by simp)

structure Blk where
 lo : Int
 hi : Int
 nx : List Int
deriving DecidableEq
def Blks (w : World) (v : Value) (G : List Blk) : Prop :=
 ∃ A cap, v = .slice A G.length cap ∧ G.length ≤ cap ∧ cap ≤ maxLen ∧ (0 < G.length → ∃ b off, A = some ⟨b, off, none⟩ ∧ b < w.heap.size ∧ ∀ i x, G[i]? = some x →
  w.cell? ⟨b, off + i * 3, none⟩ = some (.int .i64 x.lo) ∧ w.cell? ⟨b, off + i * 3 + 1, none⟩ = some (.int .i64 x.hi) ∧ ∃ nv, w.cell? ⟨b, off + i * 3 + 2, none⟩ = some nv ∧ Ints w nv x.nx)
def Lls (w : World) (v : Value) (P : List (List Int)) : Prop :=
 ∃ A cap, v = .slice A P.length cap ∧ P.length ≤ cap ∧ cap ≤ maxLen ∧ (0 < P.length → ∃ b off, A = some ⟨b, off, none⟩ ∧ b < w.heap.size ∧ ∀ i x, P[i]? = some x →
  ∃ nv, w.cell? ⟨b, off + i, none⟩ = some nv ∧ Ints w nv x)
theorem Blks.below {w w' : World} {v : Value} {G : List Blk} (h : Blks w v G) (hb : Below w.heap.size w w') : Blks w' v G := by
 obtain ⟨A, cap, h1, h2, h3, h4⟩ := h
 refine ⟨A, cap, h1, h2, h3, fun h0 => ?_⟩
 obtain ⟨b, off, ha, hlt, hc⟩ := h4 h0
 refine ⟨b, off, ha, by have := hb.size; omega, fun i x hx => ?_⟩
 obtain ⟨c0, c1, nv, c2, hn⟩ := hc i x hx
 exact ⟨(hb.cell (p := ⟨b, _, none⟩) hlt).trans c0, (hb.cell (p := ⟨b, _, none⟩) hlt).trans c1, nv, (hb.cell (p := ⟨b, _, none⟩) hlt).trans c2, hn.below hb⟩
theorem Lls.below {w w' : World} {v : Value} {P : List (List Int)} (h : Lls w v P) (hb : Below w.heap.size w w') : Lls w' v P := by
 obtain ⟨A, cap, h1, h2, h3, h4⟩ := h
 refine ⟨A, cap, h1, h2, h3, fun h0 => ?_⟩
 obtain ⟨b, off, ha, hlt, hc⟩ := h4 h0
 refine ⟨b, off, ha, by have := hb.size; omega, fun i x hx => ?_⟩
 obtain ⟨nv, c2, hn⟩ := hc i x hx
 exact ⟨nv, (hb.cell (p := ⟨b, _, none⟩) hlt).trans c2, hn.below hb⟩
theorem gown_ints {w : World} {B : Nat} {v : Value} {l : List Int} (h : w.ownsRow B 3 1 v l.length (ivs l)) : Ints w v l := by
 rcases h.2 with ⟨rfl, h0⟩ | ⟨g, cap, cur, rfl, _, hg, h1, h2, _, _⟩
 ·have : l = [] := List.length_eq_zero_iff.1 h0
  subst this
  exact ints_nil _
 ·refine ⟨_, cap, rfl, h1, h2, fun _ => ⟨g, 0, rfl, (Array.getElem?_eq_some_iff.1 hg).1, fun i hi => ?_⟩⟩
  rw [Nat.zero_add, h.cellAt i (by omega)]
  simp [ivs, List.getD, List.getElem?_eq_getElem hi]
def gBlks (c : Int → Ins) (L : List (Int × Int)) : List Blk := (List.range L.length).map fun k => ⟨(L.getD k (0, 0)).1, (L.getD k (0, 0)).2, nextOf c L k⟩
def gPrev (c : Int → Ins) (L : List (Int × Int)) : List (List Int) := (List.range L.length).map fun p => prevOf c L L.length p
theorem BN.graph {V wr wf : World} {gb nb g gcap pg rb : Nat} {c : Int → Ins} {L : List (Int × Int)} {val : Nat → Value} (h : BN V wr gb nb g gcap pg L val (lstAt c L L.length [])) (G : wr.grownBy wf (some rb)) (hrb : rb < V.heap.size) :
  Blks wf (.slice (some ⟨g, 0, none⟩) L.length gcap) (gBlks c L) ∧ Lls wf (.slice (some ⟨pg, 0, none⟩) L.length L.length) (gPrev c L) := by
 obtain ⟨⟨g1, g2⟩, ⟨p1, p2⟩, gp⟩ := h.rg
 have gs := G.size
 have b' := h.brow.kept G (.inr (by simp [Value.ownBlock]; omega))
 have p' := h.prow.kept G (.inr (by simp [Value.ownBlock]; omega))
 have own' : ∀ i, i < 2 * L.length → wf.ownsRow V.heap.size 3 1 (val i) (lstAt c L L.length [] i).length (ivs (lstAt c L L.length [] i)) := fun i hi => (h.own i hi).kept G (by
  cases hv : (val i).ownBlock with
  | none => exact .inl rfl
  | some q => exact .inr (fun e => by have := ((h.own i hi).lt q hv).1; simp at e; omega))
 have bc : L.length ≤ gcap ∧ gcap ≤ maxLen := by
  rcases b'.2 with ⟨e, _⟩ | ⟨_, _, _, e, _, _, h1, h2, _⟩
  ·cases e
  ·cases e; exact ⟨h1, h2⟩
 have pc : L.length ≤ maxLen := by
  rcases p'.2 with ⟨e, _⟩ | ⟨_, _, _, e, _, _, h1, h2, _⟩
  ·cases e
  ·cases e; exact h2
 refine ⟨⟨_, gcap, by simp [gBlks], by simp [gBlks]; exact bc.1, bc.2, fun _ => ⟨g, 0, rfl, by omega, fun i x hx => ?_⟩⟩, ⟨_, L.length, by simp [gPrev], by simp [gPrev], pc, fun _ => ⟨pg, 0, rfl, by omega, fun i x hx => ?_⟩⟩⟩
 ·unfold gBlks at hx
  rw [List.getElem?_map] at hx
  have hi : i < L.length := by
   by_cases hi : i < L.length
   ·exact hi
   ·rw [List.getElem?_eq_none (by simpa using hi)] at hx; cases hx
  rw [List.getElem?_range hi] at hx
  simp only [Option.map_some, Option.some.injEq] at hx
  subst hx
  refine ⟨?_, ?_, val i, ?_, ?_⟩
  ·rw [Nat.zero_add, b'.cellAt _ (by omega), show i * 3 = i * 3 + 0 from rfl, flatV_at L val hi (by omega)]; rfl
  ·rw [Nat.zero_add, b'.cellAt _ (by omega), flatV_at L val hi (by omega)]; rfl
  ·rw [Nat.zero_add, b'.cellAt _ (by omega), flatV_at L val hi (by omega)]; rfl
  ·have := gown_ints (own' i (by omega))
   unfold lstAt at this
   rwa [if_pos hi, if_pos hi] at this
 ·unfold gPrev at hx
  rw [List.getElem?_map] at hx
  have hi : i < L.length := by
   by_cases hi : i < L.length
   ·exact hi
   ·rw [List.getElem?_eq_none (by simpa using hi)] at hx; cases hx
  rw [List.getElem?_range hi] at hx
  simp only [Option.map_some, Option.some.injEq] at hx
  subst hx
  refine ⟨val (L.length + i), ?_, ?_⟩
  ·rw [Nat.zero_add, p'.cellAt _ (by omega), List.getElem?_map, List.getElem?_range hi]; rfl
  ·have := gown_ints (own' (L.length + i) (by omega))
   unfold lstAt at this
   rw [if_neg (by omega), show L.length + i - L.length = i by omega] at this
   simpa using this

end Go.Proofs.YtebklpnkcicpjaaDoor

namespace Go.Proofs.YtebklpnkcicpjaaDoor
open Go.RowKit
set_option linter.unusedVariables false
set_option linter.unusedSimpArgs false

theorem Ints.len {w : World} {v : Value} {l : List Int} (h : Ints w v l) : l.length ≤ 2 ^ 63 - 1 := by
 obtain ⟨A, cap, _, h2, h3, _⟩ := h
 unfold maxLen at h3
 omega
theorem take_eq_snoc {l1 l2 : List Int} {j : Nat} {a b : Int} (h1 : l1[j]? = some a) (h2 : l2[j]? = some b) (h : l1.take j = l2.take j) (hab : a = b) : l1.take (j + 1) = l2.take (j + 1) := by
 rw [take_snoc h1, take_snoc h2, h, hab]

set_option maxHeartbeats 1000000 in
theorem equal_any (u v : Value) (l1 l2 : List Int) (w : World) (H1 : Ints w u l1) (H2 : Ints w v l2) :
  Calls Tryd.prog 61 #[u, v] w fun e w' => e = .returned (.bool (decide (l1 = l2))) ∧ Below w.heap.size w w' := by
 obtain ⟨A, cap, rfl, h2, h3, h4⟩ := H1
 obtain ⟨A2, cap2, rfl, k2, k3, k4⟩ := H2
 have HC := Lib.hid h4
 have HK := Lib.hid k4
 unfold maxLen at h3 k3
 clear h4 k4
 go_enter Tryd.func61, Tryd.ntmps61
 by_cases hl : l1.length = l2.length
 case neg =>
  have d : ((l1.length : Int) != (l2.length : Int)) = true := by simp; omega
  have HL := Lib.hid hl
  clear hl
  go_wp2_with fail
  go_ret
  exact ⟨ret_bool (by symm; simp; intro h; exact HL.out (by rw [h])), Below.refl _ _⟩
 have d : ((l1.length : Int) != (l2.length : Int)) = false := by simp; omega
 have HL := Lib.hid hl
 clear hl
 go_upto_region 4 with fail
 go_loopw [5, 13] (fun a5 a13 wr => ∃ j : Nat, j ≤ l1.length ∧ a13 = .int .i64 (j : Int) ∧ l1.take j = l2.take j ∧ Below w.heap.size w wr) (fun _ a13 _ => l1.length - (intOf a13).toNat)
 case atStart => exact ⟨0, Nat.zero_le _, rfl, by simp, Below.refl _ _⟩
 case round =>
  obtain ⟨j, hj, rfl, htk, hb⟩ := hrel
  have HTK := Lib.hid htk
  have HB := Lib.hid hb
  have hs := hb.size
  clear htk hb
  by_cases hlt : j < l1.length
  ·have hlt2 : j < l2.length := by have := HL.out; omega
   obtain ⟨b, off, rfl, hb1, hc⟩ := HC.out (by omega)
   obtain ⟨b2, off2, rfl, hb2, hc2⟩ := HK.out (by omega)
   obtain ⟨s, hs1⟩ : ∃ s, l1[j] = s := ⟨_, rfl⟩
   obtain ⟨t, hs2⟩ : ∃ t, l2[j] = t := ⟨_, rfl⟩
   have x1 : wr.cell? ⟨b, off + j, none⟩ = some (.int .i64 s) := by rw [HB.out.cell (p := ⟨b, off + j, none⟩) hb1, hc j hlt, ← hs1]; simp [List.getD, List.getElem?_eq_getElem hlt]
   have x2 : wr.cell? ⟨b2, off2 + j, none⟩ = some (.int .i64 t) := by rw [HB.out.cell (p := ⟨b2, off2 + j, none⟩) hb2, hc2 j hlt2, ← hs2]; simp [List.getD, List.getElem?_eq_getElem hlt2]
   have HS1 := Lib.hid (show l1[j]? = some s by rw [List.getElem?_eq_getElem hlt, hs1])
   have HS2 := Lib.hid (show l2[j]? = some t by rw [List.getElem?_eq_getElem hlt2, hs2])
   have dl : decide ((j : Int) < (l1.length : Int)) = true := by simpa using hlt
   have g1 : b < wr.heap.size := by omega
   have g2 : b2 < wr.heap.size := by omega
   clear hc hc2 hs1 hs2
   by_cases q : s = t
   ·have dq : (s != t) = false := by simp [q]
    have HQ := Lib.hid q
    clear q
    go_upto_region 6 with fail
    refine wp_region_ext (by kernel_rfl) (by kernel_rfl) ?_
    repeat (go_big_quiet_step (fail))
    refine wpQuiet_nil ?_
    rintro _ ⟨y, rfl⟩
    go_wp2_with fail
    go_roundw
    case rel => exact ⟨j + 1, by omega, by go_num, take_eq_snoc HS1.out HS2.out HTK.out HQ.out, Ext.below HB.out hs y⟩
    case measure => simp [intOf]; omega
   ·have dq : (s != t) = true := by simp [q]
    have HQ := Lib.hid q
    clear q
    go_upto_region 6 with fail
    refine wp_region_ext (by kernel_rfl) (by kernel_rfl) ?_
    repeat (go_big_quiet_step (fail))
    refine wpQuiet_nil ?_
    rintro _ ⟨y, rfl⟩
    go_wp2_with fail
    go_ret
    refine ⟨ret_bool (by symm; simp; intro h; subst h; have h1 := HS1.out; rw [HS2.out] at h1; exact HQ.out (Option.some.inj h1).symm), Ext.below HB.out hs y⟩
  ·obtain rfl : j = l1.length := by omega
   have dl : decide ((l1.length : Int) < (l1.length : Int)) = false := by simp
   have e : l1 = l2 := by
    have h := HTK.out
    have hL := HL.out
    rw [List.take_length, hL, List.take_length] at h
    exact h
   have HE := Lib.hid e
   clear e
   go_wp2_with fail
   go_ret
   exact ⟨ret_bool (by symm; simp; exact HE.out), HB.out⟩

theorem Lls.at_ {w wr : World} {A : Option Addr} {cap : Nat} {P : List (List Int)} (h : Lls w (.slice A P.length cap) P) (hb : Below w.heap.size w wr) {j : Nat} (hj : j < P.length) :
  ∃ l nv b off, P[j]? = some l ∧ A = some ⟨b, off, none⟩ ∧ b < w.heap.size ∧ wr.cell? ⟨b, off + j, none⟩ = some nv ∧ Ints wr nv l := by
 obtain ⟨A', cap', hv, _, _, h4⟩ := h
 cases hv
 obtain ⟨b, off, rfl, hlt, hc⟩ := h4 (by omega)
 obtain ⟨nv, c1, c2⟩ := hc j _ (List.getElem?_eq_getElem hj)
 exact ⟨P[j], nv, b, off, List.getElem?_eq_getElem hj, rfl, hlt, (hb.cell (p := ⟨b, _, none⟩) hlt).trans c1, c2.below hb⟩
theorem Lls.slice {w : World} {v : Value} {P : List (List Int)} (h : Lls w v P) : ∃ A cap, v = .slice A P.length cap ∧ P.length ≤ cap ∧ cap ≤ 2 ^ 63 - 1 := by
 obtain ⟨A, cap, h1, h2, h3, _⟩ := h
 unfold maxLen at h3
 exact ⟨A, cap, h1, h2, h3⟩

set_option maxHeartbeats 1000000 in
theorem equalFunc_any (u v : Value) (P1 P2 : List (List Int)) (w : World) (H1 : Lls w u P1) (H2 : Lls w v P2) :
  Calls Tryd.prog 60 #[u, v, .func (.func 61) #[] #[]] w fun e w' => e = .returned (.bool (decide (P1 = P2))) ∧ Below w.heap.size w w' := by
 obtain ⟨A, cap, rfl, h2, h3⟩ := H1.slice
 obtain ⟨A2, cap2, rfl, k2, k3⟩ := H2.slice
 have HC := Lib.hid H1
 have HK := Lib.hid H2
 clear H1 H2
 go_enter Tryd.func60, Tryd.ntmps60
 by_cases hl : P1.length = P2.length
 case neg =>
  have d : ((P1.length : Int) != (P2.length : Int)) = true := by simp; omega
  have HL := Lib.hid hl
  clear hl
  go_wp2_with fail
  go_ret
  exact ⟨ret_bool (by symm; simp; intro h; exact HL.out (by rw [h])), Below.refl _ _⟩
 have d : ((P1.length : Int) != (P2.length : Int)) = false := by simp; omega
 have HL := Lib.hid hl
 clear hl
 go_upto_region 4 with fail
 go_loopw [7, 8, 9, 17] (fun a7 a8 a9 a17 wr => ∃ j : Nat, j ≤ P1.length ∧ a17 = .int .i64 (j : Int) ∧ P1.take j = P2.take j ∧ Below w.heap.size w wr) (fun _ _ _ a17 _ => P1.length - (intOf a17).toNat)
 case atStart => exact ⟨0, Nat.zero_le _, rfl, by simp, Below.refl _ _⟩
 case round =>
  obtain ⟨j, hj, rfl, htk, hb⟩ := hrel
  have HTK := Lib.hid htk
  have HB := Lib.hid hb
  have hs := hb.size
  clear htk hb
  by_cases hlt : j < P1.length
  ·have hlt2 : j < P2.length := by have := HL.out; omega
   obtain ⟨l1, nv, b, off, g1, rfl, hb1, x1, hI1⟩ := HC.out.at_ HB.out hlt
   obtain ⟨l2, nv2, b2, off2, g2, rfl, hb2, x2, hI2⟩ := HK.out.at_ HB.out hlt2
   have HS1 := Lib.hid g1
   have HS2 := Lib.hid g2
   have dl : decide ((j : Int) < (P1.length : Int)) = true := by simpa using hlt
   have HE := Lib.hid (equal_any nv nv2 l1 l2 wr hI1 hI2)
   clear g1 g2 hI1 hI2
   by_cases q : l1 = l2
   ·rw [decide_eq_true q] at HE
    have HQ := Lib.hid q
    clear q
    go_wp2_with (go_at_call 61; refine HE.out.mono ?_; rintro e w' ⟨rfl, hb5⟩)
    go_roundw
    case rel => exact ⟨j + 1, by omega, by go_num, by rw [take_snoc HS1.out, take_snoc HS2.out, HTK.out, HQ.out], HB.out.trans (hb5.mono hs)⟩
    case measure => simp [intOf]; omega
   ·rw [decide_eq_false q] at HE
    have HQ := Lib.hid q
    clear q
    go_wp2_with (go_at_call 61; refine HE.out.mono ?_; rintro e w' ⟨rfl, hb5⟩)
    go_ret
    refine ⟨ret_bool (by symm; simp; intro h; subst h; have h1 := HS1.out; rw [HS2.out] at h1; exact HQ.out (Option.some.inj h1).symm), HB.out.trans (hb5.mono hs)⟩
  ·obtain rfl : j = P1.length := by omega
   have dl : decide ((P1.length : Int) < (P1.length : Int)) = false := by simp
   have e : P1 = P2 := by
    have h := HTK.out
    have hL := HL.out
    rw [List.take_length, hL, List.take_length] at h
    exact h
   have HE := Lib.hid e
   clear e
   go_wp2_with fail
   go_ret
   exact ⟨ret_bool (by symm; simp; exact HE.out), HB.out⟩

end Go.Proofs.YtebklpnkcicpjaaDoor

namespace Go.Proofs.YtebklpnkcicpjaaDoor
open Go.RowKit
set_option linter.unusedVariables false
set_option linter.unusedSimpArgs false

theorem infoS : (Tryd.prog.info? 62).map (fun i => (i.zero, i.size, i.bytes)) = some (some (.slice none 0 0), 1, 24) := by kernel_rfl
structure PM (V wr : World) (pg n : Nat) (val : Nat → Value) (lst : Nat → List Int) : Prop where
 bel : Below V.heap.size V wr
 prow : wr.ownsRow V.heap.size 62 1 (.slice (some ⟨pg, 0, none⟩) n n) n ((List.range n).map fun i => val i)
 own : ∀ i, i < n → wr.ownsRow V.heap.size 3 1 (val i) (lst i).length (ivs (lst i))
 dis : ∀ i j, i < n → j < n → i ≠ j → ∀ q, (val i).ownBlock = some q → (val j).ownBlock ≠ some q
theorem rangeU_set (n : Nat) (val : Nat → Value) {p : Nat} (hp : p < n) (v : Value) : ((List.range n).map fun i => val i).set p v = (List.range n).map fun i => upd val p v i := by
 apply List.ext_getElem?
 intro q
 rw [List.getElem?_set]
 simp only [List.length_map, List.length_range, List.getElem?_map]
 by_cases e : p = q
 ·subst e
  rw [if_pos rfl, if_pos hp, List.getElem?_range hp]
  simp [upd]
 ·rw [if_neg e]
  by_cases hq : q < n
  ·rw [List.getElem?_range hq]
   simp [upd]
   intro h; omega
  ·rw [List.getElem?_eq_none (by simpa using hq)]
   rfl
section
variable {V wr : World} {pg n : Nat} {val : Nat → Value} {lst : Nat → List Int}
theorem PM.below {wr' : World} (h : PM V wr pg n val lst) (hb : Below wr.heap.size wr wr') : PM V wr' pg n val lst :=
 ⟨h.bel.trans (hb.mono h.bel.size), ownsRow_below h.prow hb, fun i hi => ownsRow_below (h.own i hi) hb, h.dis⟩
theorem PM.rg (h : PM V wr pg n val lst) : V.heap.size ≤ pg ∧ pg < wr.heap.size := h.prow.lt pg rfl
theorem PM.cells (h : PM V wr pg n val lst) {i : Nat} (hi : i < n) : wr.cell? ⟨pg, i, none⟩ = some (val i) ∧ wr.frozen? ⟨pg, i, none⟩ = false :=
 ⟨by rw [h.prow.cellAt _ (by omega), List.getElem?_map, List.getElem?_range hi]; rfl, h.prow.frozenAt _⟩
theorem PM.made {W' : World} (hg : wr.grownBy W' none) (hb : Below V.heap.size V wr) (hr : W'.ownsRow V.heap.size 62 1 (.slice (some ⟨pg, 0, none⟩) n n) n (List.replicate n (.slice none 0 0))) : PM V W' pg n (fun _ => .slice none 0 0) (fun _ => []) := by
 refine ⟨hb.grown hg hb.size (fun k hk => by cases hk), ?_, fun i hi => World.ownsRow_nil _ _ _ _, fun i j hi hj _ q hq => by cases hq⟩
 have e : ((List.range n).map fun _ => Value.slice none 0 0) = List.replicate n (Value.slice none 0 0) := by
  apply List.ext_getElem?
  intro q
  by_cases hq : q < n
  ·simp [hq]
  ·simp [hq]
 rw [e]
 exact hr
theorem PM.app {w2 W' : World} {i : Nat} {y : Int} {v' : Value} (h : PM V wr pg n val lst) (hi : i < n) (hb : Below wr.heap.size wr w2) (hg : w2.grownBy W' (val i).ownBlock)
  (hown : W'.ownsRow V.heap.size 3 1 v' ((lst i).length + 1) (ivs (lst i ++ [y]))) (hob : v'.ownBlock = (val i).ownBlock ∨ v'.ownBlock = some w2.heap.size) :
  PM V (W'.setCell ⟨pg, i, none⟩ v') pg n (upd val i v') (upd lst i (lst i ++ [y])) := by
 have G := grown_of hb hg
 have S := grown_setCell W' pg i v'
 obtain ⟨p1, p2⟩ := h.rg
 have hgs := G.size
 have hbs := h.bel.size
 have oi := h.own i hi
 have ob : ∀ q, (val i).ownBlock = some q → V.heap.size ≤ q ∧ q ≠ pg := fun q hq => ⟨(oi.lt q hq).1, fun e => own_ne oi h.prow (by decide) q hq (by rw [e]; rfl)⟩
 have p' : W'.ownsRow V.heap.size 62 1 (.slice (some ⟨pg, 0, none⟩) n n) n ((List.range n).map fun i => val i) := h.prow.kept G (.inr (fun e' => (ob pg e'.symm).2 rfl))
 have own' : ∀ q, v'.ownBlock = some q → q ≠ pg := fun q hq e => own_ne hown p' (by decide) q hq (by rw [e]; rfl)
 refine ⟨?_, ?_, fun j hj => ?_, fun a c ha hc hac q hq => ?_⟩
 ·exact ((h.bel.grown G hbs (fun k hk => (ob k hk).1)).grown S (by omega) (fun k hk => by cases hk; exact p1))
 ·rw [← rangeU_set n val hi v']
  exact (p'.stored i v').1
 ·unfold upd
  by_cases e : j = i
  ·subst e
   rw [if_pos rfl, if_pos rfl]
   rw [show (lst j ++ [y]).length = (lst j).length + 1 by simp]
   exact hown.kept S (by
    cases hv : v'.ownBlock with
    | none => exact .inl rfl
    | some q => exact .inr (fun e' => own' q hv (by simpa using e')))
  ·rw [if_neg e, if_neg e]
   refine ((h.own j hj).kept G ?_).kept S ?_
   ·cases hv : (val j).ownBlock with
    | none => exact .inl rfl
    | some q => exact .inr (fun e' => h.dis i j hi hj (fun e2 => e e2.symm) q e'.symm hv)
   ·cases hv : (val j).ownBlock with
    | none => exact .inl rfl
    | some q =>
     refine .inr (fun e' => ?_)
     have hqr : q = pg := by simpa using e'
     exact own_ne (h.own j hj) h.prow (by decide) q hv (by rw [hqr]; rfl)
 ·have new : ∀ a, a < n → a ≠ i → ∀ q, v'.ownBlock = some q → (val a).ownBlock ≠ some q := fun a ha hai q hq hq2 => by
   rcases hob with h1 | h1
   ·rw [h1] at hq
    exact h.dis i a hi ha (fun e => hai e.symm) q hq hq2
   ·rw [h1] at hq
    cases hq
    have := ((h.own a ha).lt _ hq2).2
    have := hb.size
    omega
  unfold upd at hq ⊢
  by_cases e1 : a = i
  ·rw [if_pos e1] at hq
   rw [if_neg (fun e => hac (e1.trans e.symm))]
   exact new c hc (fun e => hac (e1.trans e.symm)) q hq
  ·rw [if_neg e1] at hq
   by_cases e2 : c = i
   ·rw [if_pos e2]
    exact fun hq2 => new a ha e1 q hq2 hq
   ·rw [if_neg e2]
    exact h.dis a c ha hc hac q hq
theorem PM.lls (h : PM V wr pg n val lst) : Lls wr (.slice (some ⟨pg, 0, none⟩) n n) ((List.range n).map lst) := by
 have pc : n ≤ maxLen := by
  rcases h.prow.2 with ⟨e, _⟩ | ⟨_, _, _, e, _, _, h1, h2, _⟩
  ·cases e
  ·cases e; exact h2
 refine ⟨_, n, by simp, by simp, pc, fun _ => ⟨pg, 0, rfl, h.rg.2, fun i x hx => ?_⟩⟩
 rw [List.getElem?_map] at hx
 have hi : i < n := by
  by_cases hi : i < n
  ·exact hi
  ·rw [List.getElem?_eq_none (by simpa using hi)] at hx; cases hx
 rw [List.getElem?_range hi] at hx
 simp only [Option.map_some, Option.some.injEq] at hx
 subst hx
 exact ⟨val i, by rw [Nat.zero_add]; exact (h.cells hi).1, gown_ints (h.own i hi)⟩
end

def cntP (nx : List Int) (p k : Nat) : List Int := (nx.filter (fun x => decide (x = (p : Int)))).map (fun _ => (k : Int))
def prvs (G : List Blk) (k : Nat) (p : Nat) : List Int := (List.range k).flatMap fun b => cntP (G.getD b ⟨0, 0, []⟩).nx p b
def prvAt (G : List Blk) (k : Nat) (l : List Int) : Nat → List Int := fun p => prvs G k p ++ cntP l p k
theorem prvAt_zero (G : List Blk) : prvAt G 0 [] = fun _ => [] := by funext p; simp [prvAt, prvs, cntP]
theorem prvAt_add (G : List Blk) (k p : Nat) (l : List Int) : prvAt G k (l ++ [(p : Int)]) = upd (prvAt G k l) p (prvAt G k l p ++ [(k : Int)]) := by
 funext i
 unfold upd prvAt
 by_cases h : i = p
 ·subst h
  rw [if_pos rfl]
  simp [cntP]
 ·rw [if_neg h]
  have : (p : Int) ≠ (i : Int) := by omega
  simp [cntP, this]
theorem prvAt_step (G : List Blk) (k : Nat) (x : Blk) (h : G[k]? = some x) : prvAt G k x.nx = prvAt G (k + 1) [] := by
 funext i
 unfold prvAt prvs
 rw [List.range_succ, List.flatMap_append]
 simp [List.getD, h, cntP]
theorem prvAt_len (G : List Blk) (hn : ∀ x ∈ G, x.nx.length ≤ 5000) (k : Nat) (hk : k ≤ G.length) (l : List Int) (p : Nat) : (prvAt G k l p).length ≤ 5000 * k + l.length := by
 have c1 : ∀ (nx : List Int) (b : Nat), (cntP nx p b).length ≤ nx.length := fun nx b => by
  unfold cntP
  rw [List.length_map]
  exact List.length_filter_le _ _
 have c2 : (prvs G k p).length ≤ 5000 * k := by
  unfold prvs
  induction k with
  | zero => simp
  | succ k ih =>
   have := ih (by omega)
   rw [List.range_succ, List.flatMap_append, List.length_append]
   have h1 := c1 (G.getD k ⟨0, 0, []⟩).nx k
   have h2 : (G.getD k ⟨0, 0, []⟩).nx.length ≤ 5000 := by
    have hk' : k < G.length := by omega
    rw [show G.getD k ⟨0, 0, []⟩ = G[k] by simp [List.getD, List.getElem?_eq_getElem hk']]
    exact hn _ (List.getElem_mem hk')
   simp only [List.flatMap_cons, List.flatMap_nil, List.append_nil]
   omega
 unfold prvAt
 rw [List.length_append]
 have := c1 l k
 omega

end Go.Proofs.YtebklpnkcicpjaaDoor

namespace Go.Proofs.YtebklpnkcicpjaaDoor
open Go.RowKit
set_option linter.unusedVariables false
set_option linter.unusedSimpArgs false

def numI (i : Ins) : Int := i.op * 67108864 + i.a * 4194304 + i.b * 262144 + i.c * 16384 + (if i.imm < 0 then i.imm + 262144 else i.imm)

theorem u32_wrap_in (n : Int) (h0 : 0 ≤ n) (h1 : n < 2 ^ 32) : IntKind.u32.wrap n = n := by
 have : (2 : Int) ^ 32 = 4294967296 := by decide
 exact IntWalk.u32_in _ (by omega)
theorem mask4 (x : Int) (h0 : 0 ≤ x) (h1 : x < 4294967296) : bits .and .u32 x 15 = x % 16 := by
 have p32 : x < (2 : Int) ^ 32 := by rw [show (2 : Int) ^ 32 = 4294967296 by decide]; exact h1
 have := bits_mask .u32 32 (by decide) u32_wrap_in 4 (by decide) x h0 p32
 simpa using this
theorem mask18 (x : Int) (h0 : 0 ≤ x) (h1 : x < 4294967296) : bits .and .u32 x 262143 = x % 262144 := by
 have p32 : x < (2 : Int) ^ 32 := by rw [show (2 : Int) ^ 32 = 4294967296 by decide]; exact h1
 have := bits_mask .u32 32 (by decide) u32_wrap_in 18 (by decide) x h0 p32
 simpa using this
theorem joinAt (i : Nat) (m : Int) (hm : (2 : Int) ^ i = m) (x y : Int) (h0 : 0 ≤ x) (hx : x % m = 0) (h1 : x < 4294967296) (h2 : 0 ≤ y) (h3 : y < m) (h4 : y < 4294967296) : bits .or .u32 x y = x + y := by
 have e : (2 : Int) ^ 32 = 4294967296 := by decide
 exact bits_join .u32 32 (by decide) u32_wrap_in i x y h0 (by rw [hm]; exact hx) (by omega) h2 (by rw [hm]; exact h3) (by omega)

theorem enc_A (i : Ins) (x : Int) (h0 : 0 ≤ x) (hx : x % 67108864 = 0) (h1 : x < 4294967296) (ha : 0 ≤ i.a) (ha' : i.a ≤ 15) : encStep i x 65 = x + i.a * 4194304 := by
 have e : encStep i x 65 = bits .or .u32 x (bits .and .u32 (i.a % 4294967296) 15 * 4194304 % 4294967296) := by
  unfold encStep letVal posSz posLo
  simp
 rw [e, mask4 _ (by omega) (by omega), show i.a % 4294967296 % 16 * 4194304 % 4294967296 = i.a * 4194304 by omega]
 exact joinAt 26 67108864 (by decide) x _ h0 hx h1 (by omega) (by omega) (by omega)
theorem enc_B (i : Ins) (x : Int) (h0 : 0 ≤ x) (hx : x % 4194304 = 0) (h1 : x < 4294967296) (ha : 0 ≤ i.b) (ha' : i.b ≤ 15) : encStep i x 66 = x + i.b * 262144 := by
 have e : encStep i x 66 = bits .or .u32 x (bits .and .u32 (i.b % 4294967296) 15 * 262144 % 4294967296) := by
  unfold encStep letVal posSz posLo
  simp
 rw [e, mask4 _ (by omega) (by omega), show i.b % 4294967296 % 16 * 262144 % 4294967296 = i.b * 262144 by omega]
 exact joinAt 22 4194304 (by decide) x _ h0 hx h1 (by omega) (by omega) (by omega)
theorem enc_C (i : Ins) (x : Int) (h0 : 0 ≤ x) (hx : x % 262144 = 0) (h1 : x < 4294967296) (ha : 0 ≤ i.c) (ha' : i.c ≤ 15) : encStep i x 67 = x + i.c * 16384 := by
 have e : encStep i x 67 = bits .or .u32 x (bits .and .u32 (i.c % 4294967296) 15 * 16384 % 4294967296) := by
  unfold encStep letVal posSz posLo
  simp
 rw [e, mask4 _ (by omega) (by omega), show i.c % 4294967296 % 16 * 16384 % 4294967296 = i.c * 16384 by omega]
 exact joinAt 18 262144 (by decide) x _ h0 hx h1 (by omega) (by omega) (by omega)
theorem enc_I (i : Ins) (x : Int) (h0 : 0 ≤ x) (hx : x % 262144 = 0) (h1 : x < 4294967296) (ha : -131072 ≤ i.imm) (ha' : i.imm ≤ 131071) : encStep i x 73 = x + (if i.imm < 0 then i.imm + 262144 else i.imm) := by
 have e : encStep i x 73 = bits .or .u32 x (bits .and .u32 (i.imm % 4294967296) 262143 % 4294967296) := by
  unfold encStep letVal posSz posLo
  simp
 rw [e, mask18 _ (by omega) (by omega), show i.imm % 4294967296 % 262144 % 4294967296 = (if i.imm < 0 then i.imm + 262144 else i.imm) by split <;> omega]
 exact joinAt 18 262144 (by decide) x _ h0 hx h1 (by split <;> omega) (by split <;> omega) (by split <;> omega)

theorem raw_A (x : Int) (h0 : 0 ≤ x) (h1 : x < 4294967296) : rawVal x 65 = x / 4194304 % 16 := by
 unfold rawVal
 rw [if_pos rfl, mask4 _ (by omega) (by omega)]
 exact Go.IntWalk.wrap64_in _ (by omega)
theorem raw_B (x : Int) (h0 : 0 ≤ x) (h1 : x < 4294967296) : rawVal x 66 = x / 262144 % 16 := by
 unfold rawVal
 rw [if_neg (by decide), if_pos rfl, mask4 _ (by omega) (by omega)]
 exact Go.IntWalk.wrap64_in _ (by omega)
theorem raw_C (x : Int) (h0 : 0 ≤ x) (h1 : x < 4294967296) : rawVal x 67 = x / 16384 % 16 := by
 unfold rawVal
 rw [if_neg (by decide), if_neg (by decide), if_pos rfl, mask4 _ (by omega) (by omega)]
 exact Go.IntWalk.wrap64_in _ (by omega)
theorem raw_I (x : Int) (h0 : 0 ≤ x) (h1 : x < 4294967296) : rawVal x 73 = if 131072 ≤ x % 262144 then x % 262144 - 262144 else x % 262144 := by
 unfold rawVal
 rw [if_neg (by decide), if_neg (by decide), if_neg (by decide), mask18 _ (by omega) (by omega), Go.IntWalk.wrap64_in (x % 262144) (by omega)]
 split
 ·exact Go.IntWalk.wrap64_in _ (by omega)
 ·rfl

inductive Shp : Type
 | non | abc | abi | ai | i
def Shp.ops : Shp → List UInt8
 | .non => [] | .abc => [65, 66, 67] | .abi => [65, 66, 73] | .ai => [65, 73] | .i => [73]
def shpOf (k : Nat) : Shp := if k < 2 then .non else if k < 14 then .abc else if k = 14 then .ai else if k < 22 then .abi else if k = 22 ∨ k = 23 then .ai else if k = 24 then .i else if k < 28 then .ai else .i
def Shp.aHi : Shp → Int | .non => 0 | .abc => 15 | .abi => 15 | .ai => 15 | .i => 0
def Shp.bHi : Shp → Int | .non => 0 | .abc => 15 | .abi => 15 | .ai => 0 | .i => 0
def Shp.cHi : Shp → Int | .non => 0 | .abc => 15 | .abi => 0 | .ai => 0 | .i => 0
def immLo (k : Nat) : Int := if k < 14 then 0 else if k = 16 ∨ k = 17 ∨ 26 ≤ k then 0 else if k = 25 then 1 else -131072
def immHi (k : Nat) : Int := if k < 14 then 0 else if k = 16 then 31 else if k = 17 then 16383 else if k < 26 then 131071 else if k < 28 then 7 else 3
theorem fm_shape : ∀ k, k < 30 → (fm k).ops = (shpOf k).ops ∧ lowOf (fm k) 0 = 0 ∧ highOf (fm k) 0 = (shpOf k).aHi ∧ lowOf (fm k) 1 = 0 ∧ highOf (fm k) 1 = (shpOf k).bHi ∧ lowOf (fm k) 2 = 0 ∧ highOf (fm k) 2 = (shpOf k).cHi ∧ lowOf (fm k) 3 = immLo k ∧ highOf (fm k) 3 = immHi k := by decide +kernel
theorem imm_in : ∀ k, k < 30 → -131072 ≤ immLo k ∧ immHi k ≤ 131071 := by decide
theorem imm_non : ∀ k, k < 30 → ((shpOf k).ops = [] ∨ (shpOf k).ops = [65, 66, 67]) → immLo k = 0 ∧ immHi k = 0 := by decide

structure Good (i : Ins) (k : Nat) : Prop where
 op : i.op = (k : Int)
 lt : k < 30
 a : 0 ≤ i.a ∧ i.a ≤ (shpOf k).aHi
 b : 0 ≤ i.b ∧ i.b ≤ (shpOf k).bHi
 c : 0 ≤ i.c ∧ i.c ≤ (shpOf k).cHi
 imm : immLo k ≤ i.imm ∧ i.imm ≤ immHi k
theorem validI_iff {i : Ins} (h0 : 0 ≤ i.op) : validI i = true ↔ ∃ k, Good i k := by
 constructor
 ·intro hv
  unfold validI at hv
  simp only [Bool.and_eq_true, decide_eq_true_eq] at hv
  obtain ⟨v0, ⟨⟨v1, v2⟩, v3⟩, v4⟩ := hv
  have ek : i.op = (i.op.toNat : Int) := by omega
  have hk : i.op.toNat < 30 := by omega
  obtain ⟨_, e1, e2, e3, e4, e5, e6, e7, e8⟩ := fm_shape _ hk
  unfold okAt at v1 v2 v3 v4
  rw [e1, e2] at v1
  rw [e3, e4] at v2
  rw [e5, e6] at v3
  rw [e7, e8] at v4
  exact ⟨_, ek, hk, v1, v2, v3, v4⟩
 ·rintro ⟨k, h⟩
  have ho : i.op.toNat = k := by have := h.op; omega
  have hl := h.lt
  obtain ⟨_, e1, e2, e3, e4, e5, e6, e7, e8⟩ := fm_shape _ hl
  refine validI_yes (by have := h.op; omega) fun j hj => ?_
  rw [ho]
  unfold okAt
  obtain rfl | rfl | rfl | rfl : j = 0 ∨ j = 1 ∨ j = 2 ∨ j = 3 := by omega
  ·rw [e1, e2]; exact h.a
  ·rw [e3, e4]; exact h.b
  ·rw [e5, e6]; exact h.c
  ·rw [e7, e8]; exact h.imm

theorem Good.num_in {i : Ins} {k : Nat} (h : Good i k) : 0 ≤ numI i ∧ numI i < 4294967296 := by
 have hk := h.lt
 have hi := imm_in _ hk
 have ha := h.a
 have hb := h.b
 have hc := h.c
 have hm := h.imm
 have hz := imm_non _ hk
 unfold numI
 rw [h.op]
 cases hs : shpOf k <;> rw [hs] at ha hb hc hz <;> simp only [Shp.aHi, Shp.bHi, Shp.cHi, Shp.ops, true_or, or_true, forall_const] at ha hb hc hz <;> split <;> omega
theorem Good.enc {i : Ins} {k : Nat} (h : Good i k) : encI i = (numI i, 0) := by
 have hk := h.lt
 have hi := imm_in _ hk
 have ha := h.a
 have hb := h.b
 have hc := h.c
 have hm := h.imm
 have hz := imm_non _ hk
 have hop := h.op
 have ho : i.op.toNat = k := by omega
 unfold encI
 rw [if_pos ((validI_iff (by omega)).2 ⟨k, h⟩), ho, (fm_shape k hk).1]
 congr 1
 unfold encF numI
 have e65 : ((65 : UInt8).toNat : Int) = 65 := rfl
 have e66 : ((66 : UInt8).toNat : Int) = 66 := rfl
 have e67 : ((67 : UInt8).toNat : Int) = 67 := rfl
 have e73 : ((73 : UInt8).toNat : Int) = 73 := rfl
 cases hs : shpOf k <;> rw [hs] at ha hb hc hz <;> simp only [Shp.aHi, Shp.bHi, Shp.cHi, Shp.ops, true_or, or_true, forall_const, List.cons_ne_nil, false_or, or_false, List.foldl_cons, List.foldl_nil, e65, e66, e67, e73] at ha hb hc hz ⊢
 ·split <;> omega
 ·rw [enc_A i _ (by omega) (by omega) (by omega) (by omega) (by omega), enc_B i _ (by omega) (by omega) (by omega) (by omega) (by omega), enc_C i _ (by omega) (by omega) (by omega) (by omega) (by omega)]
  split <;> omega
 ·rw [enc_A i _ (by omega) (by omega) (by omega) (by omega) (by omega), enc_B i _ (by omega) (by omega) (by omega) (by omega) (by omega), enc_I i _ (by omega) (by omega) (by omega) (by omega) (by omega)]
  split <;> omega
 ·rw [enc_A i _ (by omega) (by omega) (by omega) (by omega) (by omega), enc_I i _ (by omega) (by omega) (by omega) (by omega) (by omega)]
  split <;> omega
 ·rw [enc_I i _ (by omega) (by omega) (by omega) (by omega) (by omega)]
  split <;> omega
theorem Good.dec {i : Ins} {k : Nat} (h : Good i k) : decI (numI i) = (i, 0) := by
 have hk := h.lt
 have hi := imm_in _ hk
 have ha := h.a
 have hb := h.b
 have hc := h.c
 have hm := h.imm
 have hz := imm_non _ hk
 have hop := h.op
 have hin := h.num_in
 have hd : numI i / 67108864 = (k : Int) := by
  unfold numI
  cases hs : shpOf k <;> rw [hs] at ha hb hc hz <;> simp only [Shp.aHi, Shp.bHi, Shp.cHi, Shp.ops, true_or, or_true, forall_const] at ha hb hc hz <;> split <;> omega
 have hdo : decOf (numI i) = i := by
  unfold decOf decF
  rw [hd]
  rw [show ((k : Int)).toNat = k from rfl, (fm_shape k hk).1]
  have e65 : ((65 : UInt8).toNat : Int) = 65 := rfl
  have e66 : ((66 : UInt8).toNat : Int) = 66 := rfl
  have e67 : ((67 : UInt8).toNat : Int) = 67 := rfl
  have e73 : ((73 : UInt8).toNat : Int) = 73 := rfl
  obtain ⟨op, a, b, c, imm⟩ := i
  simp only at hop ha hb hc hm
  cases hs : shpOf k <;> rw [hs] at ha hb hc hz <;> simp only [Shp.aHi, Shp.bHi, Shp.cHi, Shp.ops, true_or, or_true, forall_const, List.cons_ne_nil, false_or, or_false, List.foldl_cons, List.foldl_nil, e65, e66, e67, e73, setLet, if_true, if_false, Int.reduceEq, raw_A _ hin.1 hin.2, raw_B _ hin.1 hin.2, raw_C _ hin.1 hin.2, raw_I _ hin.1 hin.2] at ha hb hc hz ⊢
  all_goals
   simp only [numI, Ins.mk.injEq]
   refine ⟨by omega, ?_, ?_, ?_, ?_⟩
   all_goals first | omega | (split <;> omega) | (split <;> split <;> omega)
 unfold decI
 rw [hdo, h.enc, if_pos ⟨by omega, rfl⟩]
end Go.Proofs.YtebklpnkcicpjaaDoor


