/-
  What is proved here: parts bCb.
-/
import Derived.Test.YtlmgkipmfgijiaaGreatDoorXa
import Derived.Test.YtlmgkipmfgijiaaGreatDoorXb
import Derived.Maps.AppendAt
import Derived.Laws.OwnMore
import Derived.WalkSmall
import Derived.Deep.CutBlock
import Derived.Deep.DeepCutAuto
import Derived.IntWalk
import Derived.Laws.MakeOwn
import Derived.RangeFuncBox
import Derived.OneCell
namespace Go.Proofs.YtlmgkipmfgijiaaGreatDoor
set_option linter.unusedVariables false
set_option linter.unusedSimpArgs false
set_option maxRecDepth 100000
set_option maxHeartbeats 8000000
section
open Go.RowKit
open Go.RowKit
open Go.RowKit
open Go.RowKit
open Go.RowKit
open Go.RowKit
open Go.RowKit
open Go.RowKit
open Go.RowKit
open Go.RowKit
open Go.RowKit
def Ints (w : World) (v : Value) (l : List Int) : Prop :=
 ∃ A cap, v = .slice A l.length cap ∧ l.length ≤ cap ∧ cap ≤ maxLen ∧ (0 < l.length → ∃ b off, A = some ⟨b, off, none⟩ ∧ b < w.heap.size ∧ ∀ i, i < l.length → w.cell? ⟨b, off + i, none⟩ = some (.int .i64 (l.getD i 0)))
theorem Ints.below {w w' : World} {v : Value} {l : List Int} (h : Ints w v l) (hb : Below w.heap.size w w') : Ints w' v l := by
 obtain ⟨A, cap, h1, h2, h3, h4⟩ := h
 refine ⟨A, cap, h1, h2, h3, fun h0 => ?_⟩
 obtain ⟨b, off, ha, hlt, hc⟩ := h4 h0
 exact ⟨b, off, ha, by have := hb.size; omega, fun i hi => (hb.cell (p := ⟨b, off + i, none⟩) hlt).trans (hc i hi)⟩
def bL (i : Ins) (at_ : Int) : List Int := if i.op = 1 then [] else if i.op = 24 then [at_ + 1 + i.aP] else if i.op = 22 ∨ i.op = 23 then [at_ + 1, at_ + 1 + i.aP] else [at_ + 1]
theorem mj (i : Ins) (at_ : Int) : (bL i at_).length ≤ 2 := by
 unfold bL
 split
 ·simp
 ·split
  ·simp
  ·split <;> simp
theorem uM (w : World) (a : Int) (t : TypeId) : Ints (w.alloc (.cells #[.int .i64 a] t)) (.slice (some ⟨w.heap.size, 0, none⟩) 1 1) [a] := by
 refine ⟨_, 1, rfl, Nat.le_refl _, by unfold maxLen; omega, fun _ => ⟨_, 0, rfl, by simp, fun i hi => ?_⟩⟩
 obtain rfl : i = 0 := by simp at hi; omega
 unfold World.cell?
 rw [heap_alloc_new]
 rfl
theorem uL (w : World) (a b : Int) (t : TypeId) : Ints (w.alloc (.cells #[.int .i64 a, .int .i64 b] t)) (.slice (some ⟨w.heap.size, 0, none⟩) 2 2) [a, b] := by
 refine ⟨_, 2, rfl, Nat.le_refl _, by unfold maxLen; omega, fun _ => ⟨_, 0, rfl, by simp, fun i hi => ?_⟩⟩
 obtain rfl | rfl : i = 0 ∨ i = 1 := by simp at hi; omega
 all_goals
  unfold World.cell?
  rw [heap_alloc_new]
  rfl
theorem Ints.grown {w w' : World} {v : Value} {l : List Int} {row : Option Nat} (h : Ints w v l) (hg : w.grownBy w' row) (hne : ∀ q, v.ownBlock = some q → row ≠ some q) : Ints w' v l := by
 obtain ⟨A, cap, rfl, h2, h3, h4⟩ := h
 refine ⟨A, cap, rfl, h2, h3, fun h0 => ?_⟩
 obtain ⟨b, off, rfl, hlt, hc⟩ := h4 h0
 exact ⟨b, off, rfl, by have := hg.size; omega, fun i hi => (World.cell?_of_block (w := w) (a := ⟨b, off + i, none⟩) (hg.block b hlt (Ne.symm (hne b rfl)))).trans (hc i hi)⟩
theorem jN (w : World) : Ints w (.slice none 0 0) [] := ⟨none, 0, rfl, Nat.le_refl _, by unfold maxLen; omega, fun h => by simp at h⟩
theorem iO (i : Ins) (at_ : Int) (w : World) (h1 : 0 ≤ at_) (h2 : at_ ≤ 1000000) (h3 : -1000000 ≤ i.aP) (h4 : i.aP ≤ 1000000) :
  Calls Tryz.prog 33 #[.agg #[.int .u8 i.op, .int .i64 i.a, .int .i64 i.b, .int .i64 i.c, .int .i64 i.aP], .int .i64 at_] w fun e w' => (∃ v, e = .returned v ∧ Ints w' v (bL i at_) ∧ ∀ q, v.ownBlock = some q → w.heap.size ≤ q) ∧ Below w.heap.size w w' := by
 have w1 : IntKind.i64.wrap (at_ + 1) = at_ + 1 := IntWalk.i64_in _ ahU
 have w2 : IntKind.i64.wrap (at_ + 1 + i.aP) = at_ + 1 + i.aP := IntWalk.i64_in _ ahU
 have HT := fun W : World => rj i at_ W w1 w2
 obtain ⟨tg, Hl⟩ : ∃ tg, (if eD i.op = true then at_ + 1 + i.aP else 0) = tg := ⟨_, rfl⟩
 rw [Hl] at HT
 have HG := aiU Hl
 clear Hl w2
 have fin : ∀ (y : Ext (w.alloc (.cells #[.int .u8 i.op, .int .i64 i.a, .int .i64 i.b, .int .i64 i.c, .int .i64 i.aP] 67))), Below w.heap.size w y.w := fun y => Ext.below ((Below.refl _ _).alloc (Nat.le_refl _) _) ahZ y
 have Tv : ∀ (y : Ext (w.alloc (.cells #[.int .u8 i.op, .int .i64 i.a, .int .i64 i.b, .int .i64 i.c, .int .i64 i.aP] 67))) (o : Obj), Below w.heap.size w (y.w.alloc o) := fun y o => (fin y).alloc ((fin y).size) _
 have zH := aiU fin
 have ze := aiU Tv
 clear fin Tv
 obtain ⟨op, ia, ib, ic, aP⟩ := i
 simp only at HT HG zH ze h3 h4 ⊢
 have G := HG.out
 by_cases q1 : op = 1
 ·have d1 : (op == 1) = true := by simp [q1]
  have HS := aiU (show bL ⟨op, ia, ib, ic, aP⟩ at_ = [] by simp [bL, q1])
  clear G q1 HG
  go_enter Tryz.func33, Tryz.ntmps33
  go_wp2_with (go_at_call 62; refine (Calls.ext (HT _)).mono ?_; rintro e w' ⟨rfl, y, rfl⟩)
  go_ret
  rw [HS.out]
  exact ⟨⟨.slice none 0 0, rfl, jN _, fun q hq => by cases hq⟩, zH.out y⟩
 ·have d1 : (op == 1) = false := by simp [q1]
  by_cases q2 : op = 24
  ·have d2 : (op == 24) = true := by simp [q2]
   have HS := aiU (show bL ⟨op, ia, ib, ic, aP⟩ at_ = [tg] by rw [← G]; simp [bL, q2, eD])
   clear G q1 q2 HG
   go_enter Tryz.func33, Tryz.ntmps33
   go_wp2_with (go_at_call 62; refine (Calls.ext (HT _)).mono ?_; rintro e w' ⟨rfl, y, rfl⟩)
   go_ret
   rw [HS.out]
   exact ⟨⟨.slice (some ⟨y.w.heap.size, 0, none⟩) 1 1, rfl, uM _ _ _, fun q hq => by cases hq; exact (zH.out y).size⟩, ze.out y _⟩
  ·have d2 : (op == 24) = false := by simp [q2]
   by_cases q3 : op = 22
   ·have d3 : (op == 22) = true := by simp [q3]
    have HS := aiU (show bL ⟨op, ia, ib, ic, aP⟩ at_ = [at_ + 1, tg] by rw [← G]; simp [bL, q3, eD])
    clear G q1 q2 q3 HG
    go_enter Tryz.func33, Tryz.ntmps33
    go_wp2_with (go_at_call 62; refine (Calls.ext (HT _)).mono ?_; rintro e w' ⟨rfl, y, rfl⟩)
    go_ret
    rw [HS.out]
    exact ⟨⟨.slice (some ⟨y.w.heap.size, 0, none⟩) 2 2, rfl, uL _ _ _ _, fun q hq => by cases hq; exact (zH.out y).size⟩, ze.out y _⟩
   ·have d3 : (op == 22) = false := by simp [q3]
    by_cases q4 : op = 23
    ·have d4 : (op == 23) = true := by simp [q4]
     have HS := aiU (show bL ⟨op, ia, ib, ic, aP⟩ at_ = [at_ + 1, tg] by rw [← G]; simp [bL, q4, eD])
     clear G q1 q2 q3 q4 HG
     go_enter Tryz.func33, Tryz.ntmps33
     go_wp2_with (go_at_call 62; refine (Calls.ext (HT _)).mono ?_; rintro e w' ⟨rfl, y, rfl⟩)
     go_ret
     rw [HS.out]
     exact ⟨⟨.slice (some ⟨y.w.heap.size, 0, none⟩) 2 2, rfl, uL _ _ _ _, fun q hq => by cases hq; exact (zH.out y).size⟩, ze.out y _⟩
    ·have d4 : (op == 23) = false := by simp [q4]
     have HS := aiU (show bL ⟨op, ia, ib, ic, aP⟩ at_ = [at_ + 1] by simp [bL, q1, q2, q3, q4])
     clear G q1 q2 q3 q4 HG
     go_enter Tryz.func33, Tryz.ntmps33
     go_wp2_with (go_at_call 62; refine (Calls.ext (HT _)).mono ?_; rintro e w' ⟨rfl, y, rfl⟩)
     go_ret
     rw [HS.out]
     exact ⟨⟨.slice (some ⟨y.w.heap.size, 0, none⟩) 1 1, rfl, uM _ _ _, fun q hq => by cases hq; exact (zH.out y).size⟩, ze.out y _⟩
theorem fk (n m : Int) (w : World) : Calls Tryz.prog 58 #[.int .i64 n, .int .i64 m] w fun e w' => e = .returned (.bool (decide (0 ≤ n ∧ n ≤ m))) ∧ w = w' := by
 go_enter Tryz.func58, Tryz.ntmps58
 go_wp2
 all_goals
  go_ret
  refine ⟨aW ?_, rfl⟩
  rename_i h
  first | (simp [h]; done) | (simp; omega)
theorem oz (s : ByteArray) (w : World) (hs : s.size ≤ maxLen) : Calls Tryz.prog 59 #[.string s] w fun e w' => e = .returned (.bool (decide (1 ≤ s.size ∧ s.size ≤ 12))) ∧ w = w' := by
 unfold maxLen at hs
 go_enter Tryz.func59, Tryz.ntmps59
 go_wp2
 all_goals
  go_ret
  refine ⟨aW ?_, rfl⟩
  rename_i h
  have : (1 : Int) ≤ s.size ↔ 1 ≤ s.size := by omega
  have : (s.size : Int) ≤ 12 ↔ s.size ≤ 12 := by omega
  first | (simp_all; done) | (simp; omega)
theorem Po : ∀ k, k < 30 → -131072 ≤ fB (fm k) 3 ∧ dF (fm k) 3 ≤ 131071 := by decide
theorem sF (x : Int) (h0 : 0 ≤ x) : -131072 ≤ (bk x).1.aP ∧ (bk x).1.aP ≤ 131071 := by
 unfold bk
 split
 ·rename_i h
  obtain ⟨h1, h2⟩ := h
  have hv : aT (jP x) = true := by
   unfold encI at h2
   split at h2
   ·assumption
   ·simp at h2
  unfold aT at hv
  simp only [Bool.and_eq_true, decide_eq_true_eq] at hv
  obtain ⟨v1, ⟨v2, v3⟩, v4⟩ := hv
  have ho : (jP x).op = x / 67108864 := wC x _
  obtain ⟨k, hk⟩ : ∃ k : Nat, x / 67108864 = (k : Int) := ⟨(x / 67108864).toNat, by omega⟩
  rw [ho, hk] at v4
  have Yb : k < 30 := by omega
  have := Po k Yb
  unfold jK at v4
  simp only [Int.toNat_natCast] at v4
  have e : (jP x).at_ 3 = (jP x).aP := rfl
  rw [e] at v4
  simp only
  omega
 ·simp
section
variable (c : Int → Ins) (st en : Int)
def eB (at_ : Int) (p : List Int × Int) (s : Int) : List Int × Int := if st ≤ s ∧ s < en then (p.1 ++ [s], p.2) else (p.1, if p.2 < 0 ∨ at_ < p.2 then at_ else p.2)
inductive nL : Int → Prop
 | start : nL st
 | step {a t : Int} : nL a → t ∈ bL (c a) a → st ≤ t → t < en → nL t
theorem nL.range {a : Int} (h : nL c st en a) (hs : st < en) : st ≤ a ∧ a < en := by
 cases h with
 | start => omega
 | step _ _ h1 h2 => exact ⟨h1, h2⟩
def nN (a : Int) : Prop := ∃ t ∈ bL (c a) a, ¬ (st ≤ t ∧ t < en)
structure fQ (D W : List Int) (bad : Int) : Prop where
 nd : D.Nodup
 dr : ∀ a ∈ D, nL c st en a
 wr : ∀ a ∈ W, nL c st en a
 cl : ∀ a ∈ D, ∀ t ∈ bL (c a) a, st ≤ t → t < en → t ∈ D ∨ t ∈ W
 s : st ∈ D ∨ st ∈ W
 b : (bad = -1 ∧ ∀ a ∈ D, ¬ nN c st en a) ∨ (bad ∈ D ∧ nN c st en bad ∧ ∀ a ∈ D, nN c st en a → bad ≤ a)
variable {c st en}
theorem fQ.first : fQ c st en [] [st] (-1) :=
 ⟨by simp, by simp, by simpa using nL.start, by simp, by simp, .inl ⟨rfl, by simp⟩⟩
theorem fQ.skip {D W : List Int} {bad a : Int} (h : fQ c st en D (W ++ [a]) bad) (ha : a ∈ D) : fQ c st en D W bad :=
 ⟨h.nd, h.dr, fun x hx => h.wr x aiL, fun x hx t ht h1 h2 => by
   rcases h.cl x hx t ht h1 h2 with h3 | h3
   ·exact .inl h3
   ·rcases List.mem_append.1 h3 with h4 | h4
    ·exact .inr h4
    ·simp at h4; exact .inl (h4 ▸ ha), by
   rcases h.s with h3 | h3
   ·exact .inl h3
   ·rcases List.mem_append.1 h3 with h4 | h4
    ·exact .inr h4
    ·simp at h4; exact .inl (h4 ▸ ha), h.b⟩
theorem uw (a : Int) (ha : 0 ≤ a) : ∀ (l : List Int) (W : List Int) (bad : Int), (bad = -1 ∨ 0 ≤ bad) →
  (∀ x, x ∈ (l.foldl (eB st en a) (W, bad)).1 ↔ x ∈ W ∨ (x ∈ l ∧ st ≤ x ∧ x < en)) ∧
  ((∀ t ∈ l, st ≤ t ∧ t < en) → (l.foldl (eB st en a) (W, bad)).2 = bad) ∧
  ((∃ t ∈ l, ¬ (st ≤ t ∧ t < en)) → (l.foldl (eB st en a) (W, bad)).2 = if bad < 0 ∨ a < bad then a else bad) ∧
  (l.foldl (eB st en a) (W, bad)).1.length ≤ W.length + l.length := by
 intro l
 induction l with
 | nil => intro W bad hb; exact ⟨by simp, by simp, by simp, by simp⟩
 | cons s l ih =>
  intro W bad hb
  rw [List.foldl_cons]
  by_cases hs : st ≤ s ∧ s < en
  ·have e : eB st en a (W, bad) s = (W ++ [s], bad) := by unfold eB; rw [if_pos hs]
   rw [e]
   obtain ⟨i1, i2, i3, i4⟩ := ih (W ++ [s]) bad hb
   refine ⟨fun x => ?_, fun h => i2 (fun t ht => h t (by simp [ht])), fun ⟨t, ht, hn⟩ => i3 ⟨t, ?_, hn⟩, ?_⟩
   ·rw [i1]
    constructor
    ·rintro (h | ⟨h1, h2⟩)
     ·rcases List.mem_append.1 h with h | h
      ·exact .inl h
      ·simp at h; subst h; exact .inr ⟨by simp, hs⟩
     ·exact .inr ⟨by simp [h1], h2⟩
    ·rintro (h | ⟨h1, h2⟩)
     ·exact .inl (by simp [h])
     ·rcases List.mem_cons.1 h1 with rfl | h1
      ·exact .inl ahZ
      ·exact .inr ⟨h1, h2⟩
   ·rcases List.mem_cons.1 ht with rfl | ht
    ·exact absurd hs hn
    ·exact ht
   ·simp at i4 ⊢; omega
  ·have e : eB st en a (W, bad) s = (W, if bad < 0 ∨ a < bad then a else bad) := by unfold eB; rw [if_neg hs]
   rw [e]
   obtain ⟨i1, i2, i3, i4⟩ := ih W (if bad < 0 ∨ a < bad then a else bad) (by split <;> omega)
   refine ⟨fun x => ?_, fun h => absurd (h s ahZ) hs, fun _ => ?_, ?_⟩
   ·rw [i1]
    constructor
    ·rintro (h | ⟨h1, h2⟩)
     ·exact .inl h
     ·exact .inr ⟨by simp [h1], h2⟩
    ·rintro (h | ⟨h1, h2⟩)
     ·exact .inl h
     ·rcases List.mem_cons.1 h1 with rfl | h1
      ·exact absurd h2 hs
      ·exact .inr ⟨h1, h2⟩
   ·by_cases hl : ∀ t ∈ l, st ≤ t ∧ t < en
    ·exact i2 hl
    ·simp only [Classical.not_forall] at hl
     obtain ⟨t, ht, hn⟩ := hl
     rw [i3 ⟨t, ht, hn⟩]
     split
     ·rename_i h; split <;> simp
     ·rfl
   ·simp; omega
theorem fQ.push {D W : List Int} {bad a : Int} (h : fQ c st en D (W ++ [a]) bad) (ha : a ∉ D) (h0 : 0 ≤ st) (QI : st < en) :
  fQ c st en (a :: D) ((bL (c a) a).foldl (eB st en a) (W, bad)).1 ((bL (c a) a).foldl (eB st en a) (W, bad)).2 := by
 have ra := h.wr a ahZ
 have hr := ra.range c st en QI
 have hbd : bad = -1 ∨ 0 ≤ bad := by
  rcases h.b with h1 | h1
  ·exact .inl h1.1
  ·have := (h.dr bad h1.1).range c st en QI
   omega
 obtain ⟨p1, p2, p3, p4⟩ := uw (st := st) (en := en) a ahU (bL (c a) a) W bad hbd
 refine ⟨by simp [ha, h.nd], fun x hx => ?_, fun x hx => ?_, fun x hx t ht h1 h2 => ?_, ?_, ?_⟩
 ·rcases List.mem_cons.1 hx with rfl | hx
  ·exact ra
  ·exact h.dr x hx
 ·rcases (p1 x).1 hx with h1 | ⟨h1, h2, h3⟩
  ·exact h.wr x (by simp [h1])
  ·exact nL.step ra h1 h2 h3
 ·rcases List.mem_cons.1 hx with rfl | hx
  ·exact .inr ((p1 t).2 (.inr ⟨ht, h1, h2⟩))
  ·rcases h.cl x hx t ht h1 h2 with h3 | h3
   ·exact .inl (by simp [h3])
   ·rcases List.mem_append.1 h3 with h4 | h4
    ·exact .inr ((p1 t).2 (.inl h4))
    ·simp at h4; exact .inl (by simp [h4])
 ·rcases h.s with h3 | h3
  ·exact .inl (by simp [h3])
  ·rcases List.mem_append.1 h3 with h4 | h4
   ·exact .inr ((p1 _).2 (.inl h4))
   ·simp at h4; exact .inl (by simp [h4])
 ·by_cases hB : nN c st en a
  ·right
   rw [p3 hB]
   rcases h.b with ⟨rfl, h2⟩ | ⟨h1, h2, h3⟩
   ·rw [if_pos ahU]
    refine ⟨by simp, hB, fun x hx hx2 => ?_⟩
    rcases List.mem_cons.1 hx with rfl | hx
    ·omega
    ·exact absurd hx2 (h2 x hx)
   ·have := (h.dr bad h1).range c st en QI
    split
    ·rename_i hlt
     refine ⟨by simp, hB, fun x hx hx2 => ?_⟩
     rcases List.mem_cons.1 hx with rfl | hx
     ·omega
     ·have := h3 x hx hx2; omega
    ·rename_i hlt
     refine ⟨by simp [h1], h2, fun x hx hx2 => ?_⟩
     rcases List.mem_cons.1 hx with rfl | hx
     ·omega
     ·exact h3 x hx hx2
  ·have hall : ∀ t ∈ bL (c a) a, st ≤ t ∧ t < en := fun t ht => Classical.byContradiction fun hn => hB ⟨t, ht, hn⟩
   rw [p2 hall]
   rcases h.b with ⟨h1, h2⟩ | ⟨h1, h2, h3⟩
   ·refine .inl ⟨h1, fun x hx => ?_⟩
    rcases List.mem_cons.1 hx with rfl | hx
    ·exact hB
    ·exact h2 x hx
   ·refine .inr ⟨by simp [h1], h2, fun x hx hx2 => ?_⟩
    rcases List.mem_cons.1 hx with rfl | hx
    ·exact absurd hx2 hB
    ·exact h3 x hx hx2
theorem fQ.mem {D : List Int} {bad : Int} (h : fQ c st en D [] bad) (QI : st < en) (a : Int) : a ∈ D ↔ nL c st en a := by
 constructor
 ·exact h.dr a
 ·intro ha
  induction ha with
  | start => rcases h.s with h1 | h1; exact h1; cases h1
  | step h1 h2 h3 h4 ih => rcases h.cl _ ih _ h2 h3 h4 with h5 | h5; exact h5; cases h5
theorem fQ.count {D W : List Int} {bad : Int} (h : fQ c st en D W bad) (QI : st < en) : D.length ≤ (en - st).toNat := by
 have key : ∀ (n : Nat) (D : List Int), D.Nodup → (∀ a ∈ D, st ≤ a ∧ a < st + n) → D.length ≤ n := by
  intro n
  induction n with
  | zero =>
   intro D _ hD
   cases D with
   | nil => simp
   | cons a D => have := hD a ahZ; omega
  | succ n ih =>
   intro D hn hD
   have h1 : (D.erase (st + n)).length ≤ n := ih _ (hn.erase _) (fun a ha => by
    have h2 := (hn.mem_erase_iff).1 ha
    have := hD a h2.2
    have := h2.1
    omega)
   rw [List.length_erase] at h1
   split at h1 <;> omega
 refine key _ D h.nd (fun a ha => ?_)
 have := (h.dr a ha).range c st en QI
 omega
end
def tK (c : Int → Ins) (D : List Int) : Int → Option Value := fun k => if k ∈ D then some (c k).val else none
theorem LG (c : Int → Ins) : tK c [] = fun _ => none := by funext k; simp [tK]
theorem Ij (c : Int → Ins) (D : List Int) (a : Int) : fZ (tK c D) a (c a).val = tK c (a :: D) := by
 funext k
 unfold fZ tK
 by_cases h : k = a
 ·simp [h]
 ·simp [h]
theorem ak {w w' : World} {base : Nat} {e : TypeId} {size : Nat} {v : Value} {n : Nat} {xs : List Value} (h : w.ownsRow base e size v n xs) (hb : Below w.heap.size w w') : w'.ownsRow base e size v n xs :=
 h.kept (row := none) ⟨hb.os, hb.tape, hb.output, hb.size, fun k hk _ => hb.block k hk⟩ (by
  cases hv : v.ownBlock with
  | none => exact .inl rfl
  | some k => exact .inr ahZ)
theorem ownsRow_base {w : World} {base base' : Nat} {e : TypeId} {size : Nat} {v : Value} {n : Nat} {xs : List Value} (h : w.ownsRow base e size v n xs) (hb : base' ≤ base) : w.ownsRow base' e size v n xs := by
 refine ⟨h.1, ?_⟩
 rcases h.2 with h1 | ⟨g, cap, cur, h1, h2, h3⟩
 ·exact .inl h1
 ·exact .inr ⟨g, cap, cur, h1, by omega, h3⟩
theorem fe {w w' : World} {base S : Nat} {e : TypeId} {size n : Nat} {v : Value} {xs : List Value} (h : w.ownsRow base e size v n xs) (g : w.grownBy w' v.ownBlock) (hS : S ≤ base) (hw : S ≤ w.heap.size) : Below S w w' :=
 (Below.refl S w).grown g hw (fun k hk => by have := h.lt k hk; omega)
abbrev dU (l : List Int) : List Value := l.map (Value.int .i64)
structure Words (w : World) (v : Value) (n : Nat) (cd : Nat → Int) : Prop where
 le : n ≤ 1000000
 wd : ∀ i, i < n → 0 ≤ cd i ∧ cd i < 4294967296
 at_ : ∃ A cap, v = .slice A n cap ∧ n ≤ cap ∧ cap ≤ maxLen ∧ (0 < n → ∃ b off, A = some ⟨b, off, none⟩ ∧ b < w.heap.size ∧ ∀ i, i < n → w.cell? ⟨b, off + i, none⟩ = some (.int .u32 (cd i)))
theorem Words.below {w w' : World} {v : Value} {n : Nat} {cd : Nat → Int} (h : Words w v n cd) (hb : Below w.heap.size w w') : Words w' v n cd := by
 obtain ⟨A, cap, h1, h2, h3, h4⟩ := h.at_
 refine ⟨h.le, h.wd, A, cap, h1, h2, h3, fun h0 => ?_⟩
 obtain ⟨b, off, ha, hlt, hc⟩ := h4 h0
 exact ⟨b, off, ha, by have := hb.size; omega, fun i hi => (hb.cell (p := ⟨b, off + i, none⟩) hlt).trans (hc i hi)⟩
def au (cd : Nat → Int) (a : Int) : Ins := (bk (cd a.toNat)).1
structure RC (w wr : World) (eb mb : Nat) (cv ev : Value) (sh lk : Int) (nm : ByteArray) (st en da : Int) (f : Int → Option Value) : Prop where
 e1 : eb = w.heap.size + 1
 m1 : mb = w.heap.size + 2
 sz : w.heap.size + 3 ≤ wr.heap.size
 aD : Below w.heap.size w wr
 i0 : wr.heap[w.heap.size]? = some (.cells #[cv, ev, .int .i64 sh, .int .i64 lk] 25 (0, 0))
 e0 : wr.heap[eb]? = some (.cells #[.string nm, .int .i64 st, .int .i64 en, .int .i64 da] 75 (0, 0))
 map : Im wr mb f
theorem RC.below {w wr wr' : World} {eb mb : Nat} {cv ev : Value} {sh lk : Int} {nm : ByteArray} {st en da : Int} {f : Int → Option Value} (h : RC w wr eb mb cv ev sh lk nm st en da f) (hb : Below (w.heap.size + 3) wr wr') : RC w wr' eb mb cv ev sh lk nm st en da f :=
 ⟨h.e1, h.m1, by have := hb.size; have := h.sz; omega, h.aD.trans (hb.mono ahU), (hb.block _ ahU).trans h.i0, (hb.block _ (by have := h.e1; omega)).trans h.e0, h.map.keep (hb.block _ (by have := h.m1; omega))⟩
theorem RC.put {w wr wr' : World} {eb mb : Nat} {cv ev : Value} {sh lk : Int} {nm : ByteArray} {st en da : Int} {f g : Int → Option Value} (h : RC w wr eb mb cv ev sh lk nm st en da f) (hm : Im wr' mb g) (ho : wr'.os = wr.os) (ht : wr'.tape = wr.tape) (hp : wr'.output = wr.output) (hs : wr'.heap.size = wr.heap.size) (hk : ∀ i, i ≠ mb → wr'.heap[i]? = wr.heap[i]?) : RC w wr' eb mb cv ev sh lk nm st en da g :=
 ⟨h.e1, h.m1, by have := h.sz; omega, h.aD.trans ⟨ho, ht, hp, by omega, fun k hk' => hk k (by have := h.m1; omega)⟩, (hk _ (by have := h.m1; omega)).trans h.i0, (hk _ (by have := h.m1; have := h.e1; omega)).trans h.e0, hm⟩
theorem RC.cells {w wr : World} {eb mb : Nat} {cv ev : Value} {sh lk : Int} {nm : ByteArray} {st en da : Int} {f : Int → Option Value} (h : RC w wr eb mb cv ev sh lk nm st en da f) :
  wr.cell? ⟨w.heap.size, 0, none⟩ = some cv ∧ wr.cell? ⟨eb, 1, none⟩ = some (.int .i64 st) ∧ wr.cell? ⟨eb, 2, none⟩ = some (.int .i64 en) :=
 ⟨by simp [World.cell?, h.i0], by simp [World.cell?, h.e0], by simp [World.cell?, h.e0]⟩
theorem aG (w : World) (o : Obj) {k : Nat} (h : k = w.heap.size) : (w.alloc o).heap[k]? = some o := by rw [h]; exact heap_alloc_new w o
theorem ow : (Tryz.prog.info? 3).map (fun i => (i.zero, i.size, i.bytes)) = some (some (.int .i64 0), 1, 8) := by kernel_rfl
theorem iX {w w' : World} {b : Nat} (ho : w'.os = w.os) (ht : w'.tape = w.tape) (hp : w'.output = w.output) (hs : w'.heap.size = w.heap.size) (hk : ∀ i, i ≠ b → w'.heap[i]? = w.heap[i]?) : w.grownBy w' (some b) :=
 ⟨ho, ht, hp, by omega, fun k _ hne => hk k (fun e => hne (by rw [e]))⟩
theorem xR {st en a : Int} (ha : 0 ≤ a) (l W : List Int) (bad : Int) (hb : bad = -1 ∨ 0 ≤ bad) : (l.foldl (eB st en a) (W, bad)).1.length ≤ W.length + l.length := (uw (st := st) (en := en) a ha l W bad hb).2.2.2
theorem AA {α β : Type} (f : β → α → β) (b : β) (l : List α) (j : Nat) (h : j < l.length) : (l.take (j + 1)).foldl f b = f ((l.take j).foldl f b) l[j] := by
 rw [List.take_add_one, List.getElem?_eq_getElem h, List.foldl_append]
 rfl
theorem yj (w : World) : (zeroValue 67).run Tryz.prog w = .ok (.agg #[.int .u8 0, .int .i64 0, .int .i64 0, .int .i64 0, .int .i64 0]) w := by kernel_rfl
theorem ni {α : Type} (l : List α) : l = [] ∨ ∃ t a, l = t ++ [a] := by
 rcases List.eq_nil_or_concat l with h | ⟨t, a, h⟩
 ·exact .inl h
 ·exact .inr ⟨t, a, by simpa using h⟩
theorem Dt (cv ev : Value) (sh lk : Int) (nm : ByteArray) (st en da : Int) (n : Nat) (cd : Nat → Int) (w : World) (T : gZ w) (HW : Words w cv n cd) (h0 : 0 ≤ st) (h1 : st < en) (h2 : en ≤ n) :
  Calls Tryz.prog 31 #[.agg #[cv, ev, .int .i64 sh, .int .i64 lk], .agg #[.string nm, .int .i64 st, .int .i64 en, .int .i64 da]] w fun e w' => ∃ D bad mb, e = .returned (.tuple #[.map (some mb), .int .i64 bad]) ∧ w.heap.size ≤ mb ∧ fQ (au cd) st en D [] bad ∧ Im w' mb (tK (au cd) D) ∧ Below w.heap.size w w' := by
 have hn := HW.le
 obtain ⟨A, cap, rfl, hc1, hc2, hrd⟩ := HW.at_
 obtain ⟨b, off, rfl, hb, hcell⟩ := hrd ahU
 have Zc := aiU HW.wd
 have U9 := aiU hcell
 have HT := aiU T
 clear HW hrd hcell T
 obtain ⟨i0, hi0, hz0, hz1, hz2⟩ := info_parts ow
 have mk := fun W : World => (show (Instr.makeMap 96 none).run Tryz.prog W = .ok (.map (some W.heap.size)) (W.alloc (.map #[] 0)) from rfl)
 go_enter Tryz.func31, Tryz.ntmps31
 go_upto_region 4 with fail
 obtain ⟨V, hV⟩ : ∃ V, (((w.alloc (.cells #[.slice (some ⟨b, off, none⟩) n cap, ev, .int .i64 sh, .int .i64 lk] 25)).alloc (.cells #[.string nm, .int .i64 st, .int .i64 en, .int .i64 da] 75)).alloc (.map #[] 0)).alloc (.cells #[.int .i64 st] 3) = V := ⟨_, rfl⟩
 have hr0 : RC w V (w.heap.size + 1) (w.heap.size + 1 + 1) (.slice (some ⟨b, off, none⟩) n cap) ev sh lk nm st en da (tK (au cd) []) := by
  subst hV
  refine ⟨rfl, rfl, by simp, ?_, ?_, ?_, ?_⟩
  ·exact ((((Below.refl _ _).alloc (Nat.le_refl _) _).alloc ahZ _).alloc ah3 _).alloc ah3 _
  ·rw [heap_alloc_old _ _ ah3, heap_alloc_old _ _ ah3, heap_alloc_old _ _ ahZ]
   exact heap_alloc_new _ _
  ·rw [heap_alloc_old _ _ (by simp; try omega), heap_alloc_old _ _ ahZ]
   exact aG _ _ ahZ
  ·rw [LG]
   have e : w.heap.size + 1 + 1 = ((w.alloc (.cells #[.slice (some ⟨b, off, none⟩) n cap, ev, .int .i64 sh, .int .i64 lk] 25)).alloc (.cells #[.string nm, .int .i64 st, .int .i64 en, .int .i64 da] 75)).heap.size := by simp
   rw [e]
   exact (Im.made _).keep (heap_alloc_old _ _ ahZ)
 have hw0 : V.ownsRow (w.heap.size + 3) 3 1 (.slice (some ⟨w.heap.size + 1 + 1 + 1, 0, none⟩) 1 1) 1 (dU [st]) := by
  subst hV
  refine ⟨rfl, .inr ⟨w.heap.size + 3, 1, #[.int .i64 st], rfl, Nat.le_refl _, ?_, Nat.le_refl _, by unfold maxLen; omega, rfl, rfl⟩⟩
  exact aG _ _ ahZ
 rw [hV]
 obtain ⟨eb, Yj⟩ : ∃ eb, w.heap.size + 1 = eb := ⟨_, rfl⟩
 rw [Yj] at hr0 hw0 ⊢
 obtain ⟨mb, hmb⟩ : ∃ mb, eb + 1 = mb := ⟨_, rfl⟩
 rw [hmb] at hr0 hw0 ⊢
 have Uy := aiU hr0
 have HW0 := aiU hw0
 clear hV hr0 hw0
 have WH := aiU (fQ.first (c := au cd) (st := st) (en := en))
 go_loopg [7, 8, 9, 10, 11, 12, 13, 15] (3 * (en - st).toNat + 1) (fun gk a7 a8 a9 a10 a11 a12 a13 a15 wr => ∃ (D W : List Int) (bad : Int), a7 = .int .i64 bad ∧ gk ≤ 3 * (en - st).toNat + 1 ∧ 3 * D.length + gk = 3 * (en - st).toNat + W.length ∧ fQ (au cd) st en D W bad ∧ wr.ownsRow (w.heap.size + 3) 3 1 a8 W.length (dU W) ∧ RC w wr eb mb (.slice (some ⟨b, off, none⟩) n cap) ev sh lk nm st en da (tK (au cd) D))
 case atStart => exact ⟨[], [st], -1, rfl, Nat.le_refl _, by simp, WH.out, HW0.out, Uy.out⟩
 case round =>
  obtain ⟨D, W, bad, rfl, aeJ, J2, hI, hown, hC⟩ := hrel
  have HI := aiU hI
  have HO := aiU hown
  have HC := aiU hC
  clear hI hown WH HW0 Uy
  obtain ⟨c0, c1, c2⟩ := hC.cells
  have csz := hC.sz
  clear hC
  rcases ni W with rfl | ⟨W, at_, rfl⟩
  ·have hv : ∃ A cap', u8 = .slice A 0 cap' := by
    rcases HO.out.2 with ⟨h, _⟩ | ⟨g, cap', cur, h, _⟩
    ·exact ⟨_, _, h⟩
    ·exact ⟨_, _, h⟩
   obtain ⟨A, cap', rfl⟩ := hv
   go_wp2_with fail
   go_ret2
   exact ⟨D, bad, mb, rfl, by omega, HI.out, HC.out.map, HC.out.aD⟩
  ·have hat := (HI.out.wr at_ ahZ).range _ _ _ h1
   obtain ⟨k, rfl⟩ : ∃ k : Nat, at_ = (k : Int) := ⟨at_.toNat, by omega⟩
   have hkn : k < n := by omega
   obtain ⟨g, cap', hv, hg3, wY, hown', hcl⟩ : ∃ g cap', u8 = .slice (some ⟨g, 0, none⟩) (W.length + 1) cap' ∧ w.heap.size + 3 ≤ g ∧ (g < wr.heap.size ∧ W.length + 1 ≤ cap' ∧ cap' ≤ maxLen) ∧ wr.ownsRow (w.heap.size + 3) 3 1 (.slice (some ⟨g, 0, none⟩) W.length cap') W.length (dU W) ∧ wr.cell? ⟨g, W.length, none⟩ = some (.int .i64 (k : Int)) := by
    have h := HO.out
    have e1 : dU (W ++ [(k : Int)]) = dU W ++ [.int .i64 (k : Int)] := by simp [dU]
    have e2 : (W ++ [(k : Int)]).length = W.length + 1 := by simp
    rw [e1, e2] at h
    rcases h.2 with ⟨_, hz⟩ | ⟨g, cap', cur, hv, hg, wY, hcap, hmax, hs1, hs2⟩
    ·omega
    ·subst hv
     refine ⟨g, cap', rfl, hg, ⟨(Array.getElem?_eq_some_iff.1 wY).1, hcap, hmax⟩, ownsRow_pop (by simp [dU]) h, ?_⟩
     rw [h.cellAt W.length ahU]
     simp [dU]
   subst hv
   have Zz := aiU hown'
   unfold maxLen at wY
   clear hown' HO
   have hbr : b < wr.heap.size := by have := HC.out.aD.size; omega
   have x1 : wr.cell? ⟨b, off + k, none⟩ = some (.int .u32 (cd k)) := by rw [HC.out.aD.cell (p := ⟨b, off + k, none⟩) hb]; exact U9.out k hkn
   obtain ⟨i, hi⟩ : ∃ i, au cd k = i := ⟨_, rfl⟩
   have H6 : (bk (cd k)).1 = i := by rw [← hi]; simp [au]
   have him := sF (cd k) (Zc.out k hkn).1
   rw [H6] at him
   have tW := HI.out.count h1
   have Lr : 3 * D.length + gk = 3 * (en - st).toNat + (W.length + 1) := by simpa using J2
   clear J2
   by_cases hD : (k : Int) ∈ D
   ·have l1 := HC.out.map.gB (P := Tryz.prog) (kt := 3) (t := 96) (e := 67) Tryz.underlying3 Tryz.underlying96 (k := (k : Int)) (v := i.val) (by unfold tK; rw [if_pos hD, hi]) true
    simp only [↓reduceIte, Ins.val, kv] at l1
    have HG := aiU (And.intro Lr tW)
    clear tW Lr him H6 x1 hat hkn
    go_wp2_with fail
    go_roundg (gk - 1)
    case measure => obtain ⟨hq1, hq2⟩ := HG.out; omega
    case rel =>
     refine ⟨D, W, bad, rfl, by omega, by obtain ⟨hq1, hq2⟩ := HG.out; omega, HI.out.skip hD, ak Zz.out ((Below.refl _ _).alloc (Nat.le_refl _) _), HC.out.below ((Below.refl _ _).alloc csz _)⟩
   ·have l1 := HC.out.map.iw (P := Tryz.prog) (kt := 3) (t := 96) (e := 67) Tryz.underlying3 Tryz.underlying96 (yj wr) (k := (k : Int)) (eX ahU ahU) (by unfold tK; rw [if_neg hD]) true
    simp only [↓reduceIte, kv] at l1
    have hWl : W.length ≤ 6000000 := by omega
    have HG := aiU (And.intro Lr tW)
    have Wv := aiU (HI.out.push hD h0 h1)
    have Rl := aiU (Wv.out.count h1)
    rw [hi] at Wv
    have JK := aiU (fun (W : World) (hW : Below w.heap.size w W) => kj (cd k) (Zc.out k hkn).1 (Zc.out k hkn).2 W (HT.out.below hW))
    obtain ⟨er, her⟩ : ∃ er, (bk (cd k)).2 = er := ⟨_, rfl⟩
    simp only [H6, her, Ins.val] at JK
    obtain ⟨op, ia, ib, ic, aP⟩ := i
    simp only at JK him
    clear tW Lr H6 her
    go_upto_region 9 with fail
    obtain ⟨V1, hV1⟩ : ∃ V1, wr.alloc (.cells #[.int .u8 0, .int .i64 0, .int .i64 0, .int .i64 0, .int .i64 0] 67) = V1 := ⟨_, rfl⟩
    have b1 : Below wr.heap.size wr V1 := hV1 ▸ (Below.refl _ _).alloc (Nat.le_refl _) _
    rw [hV1]
    clear hV1
    have z1 : V1.cell? ⟨b, off + k, none⟩ = some (.int .u32 (cd k)) := by rw [b1.cell (p := ⟨b, off + k, none⟩) hbr]; exact x1
    have z2 : V1.cell? ⟨w.heap.size, 0, none⟩ = some (.slice (some ⟨b, off, none⟩) n cap) := by rw [b1.cell (p := ⟨w.heap.size, 0, none⟩) (by show w.heap.size < _; omega)]; exact c0
    have HD1 := aiU (JK.out V1 (HC.out.aD.trans (b1.mono ahU)))
    have B1 := aiU b1
    clear b1 x1 l1 c0
    go_upto_region 10 with (go_at_call 22; refine (Calls.ext HD1.out).mono ?_; rintro e w' ⟨rfl, y, rfl⟩)
    have b2 : Below wr.heap.size wr (y.w.alloc (.cells #[.int .u8 op, .int .i64 ia, .int .i64 ib, .int .i64 ic, .int .i64 aP] 67)) := (Ext.below B1.out B1.out.size y).alloc (Nat.le_trans B1.out.size y.h.size) _
    have k2 := heap_alloc_new y.w (.cells #[.int .u8 op, .int .i64 ia, .int .i64 ib, .int .i64 ic, .int .i64 aP] 67)
    have k3 : wr.heap.size ≤ y.w.heap.size := Nat.le_trans B1.out.size y.h.size
    obtain ⟨V2, hV2⟩ : ∃ V2, y.w.alloc (.cells #[.int .u8 op, .int .i64 ia, .int .i64 ib, .int .i64 ic, .int .i64 aP] 67) = V2 := ⟨_, rfl⟩
    rw [hV2] at b2 k2 ⊢
    obtain ⟨q, hq⟩ : ∃ q, y.w.heap.size = q := ⟨_, rfl⟩
    rw [hq] at k2 k3 ⊢
    clear hV2 hq y z1 z2 HD1 B1
    have C2 := aiU (HC.out.below (b2.mono csz))
    obtain ⟨V3, l2, m3, o1, o2, o3, o4, o5⟩ := C2.out.map.put (P := Tryz.prog) (kt := 3) (t := 96) (e := 67) Tryz.underlying3 Tryz.underlying96 (k := (k : Int)) (eX ahU ahU) (.agg #[.int .u8 op, .int .i64 ia, .int .i64 ib, .int .i64 ic, .int .i64 aP])
    simp only [kv] at l2
    have Ld := Ij (au cd) D (k : Int)
    rw [hi] at Ld
    simp only [Ins.val] at Ld
    rw [Ld] at m3
    have C3 := aiU (C2.out.put m3 o1 o2 o3 o4 o5)
    have M8 : q ≠ mb := by omega
    have Sc := aiU ((ak Zz.out b2).kept (iX o1 o2 o3 o4 o5) (.inr aiu))
    have y20 : V2.cell? ⟨q, 0, none⟩ = some (.int .u8 op) := by simp [World.cell?, k2]
    have y21 : V2.cell? ⟨q, 1, none⟩ = some (.int .i64 ia) := by simp [World.cell?, k2]
    have y22 : V2.cell? ⟨q, 2, none⟩ = some (.int .i64 ib) := by simp [World.cell?, k2]
    have y23 : V2.cell? ⟨q, 3, none⟩ = some (.int .i64 ic) := by simp [World.cell?, k2]
    have y24 : V2.cell? ⟨q, 4, none⟩ = some (.int .i64 aP) := by simp [World.cell?, k2]
    have QD := (o5 q M8).trans k2
    have y30 : V3.cell? ⟨q, 0, none⟩ = some (.int .u8 op) := by simp [World.cell?, QD]
    have y31 : V3.cell? ⟨q, 1, none⟩ = some (.int .i64 ia) := by simp [World.cell?, QD]
    have y32 : V3.cell? ⟨q, 2, none⟩ = some (.int .i64 ib) := by simp [World.cell?, QD]
    have y33 : V3.cell? ⟨q, 3, none⟩ = some (.int .i64 ic) := by simp [World.cell?, QD]
    have y34 : V3.cell? ⟨q, 4, none⟩ = some (.int .i64 aP) := by simp [World.cell?, QD]
    have FA := aiU (iO ⟨op, ia, ib, ic, aP⟩ (k : Int) V3 ahU ahU aiz aiz)
    have s3 : g < V3.heap.size := by have := b2.size; omega
    clear k2 QD o1 o2 o3 o5 m3 b2 Ld Zz
    simp only at FA
    go_upto_region 12 with (go_at_call 33; refine FA.out.mono ?_; rintro e W4 ⟨⟨v, rfl, ⟨SA, jW, rfl, sc1, sc2, sc3⟩, sc4⟩, hb4⟩)
    obtain ⟨L, hL⟩ : ∃ L, bL ⟨op, ia, ib, ic, aP⟩ (k : Int) = L := ⟨_, rfl⟩
    have hL2 : L.length ≤ 2 := hL ▸ mj _ _
    rw [hL] at Wv sc1 sc3 sc4 ⊢
    have XN : bad = -1 ∨ 0 ≤ bad := by
     rcases HI.out.b with q1 | q1
     ·exact .inl q1.1
     ·have := (HI.out.dr bad q1.1).range _ _ _ h1
      omega
    have hpl := xR (st := st) (en := en) (a := (k : Int)) ahU L W bad XN
    have HE := aiU (show (3 * ((k : Int) :: D).length + (3 * (en - st).toNat + (L.foldl (eB st en k) (W, bad)).1.length - 3 * (D.length + 1)) = 3 * (en - st).toNat + (L.foldl (eB st en k) (W, bad)).1.length) ∧ 3 * (en - st).toNat + (L.foldl (eB st en k) (W, bad)).1.length - 3 * (D.length + 1) < gk by
     have e1 := HG.out
     have e2 := Rl.out
     simp only [List.length_cons] at e2 ⊢
     omega)
    have xe := aiU (show ∀ j, ((L.take j).foldl (eB st en k) (W, bad)).1.length ≤ W.length + 2 from fun j => by
     have := xR (st := st) (en := en) (a := (k : Int)) ahU (L.take j) W bad XN
     have e : (L.take j).length ≤ L.length := by simp; omega
     omega)
    have C4 := aiU (C3.out.below (hb4.mono (by have := C3.out.sz; omega)))
    have Sb := aiU (ak Sc.out hb4)
    have I4 := aiU (show Ints W4 (.slice SA L.length jW) L from ⟨SA, jW, rfl, sc1, sc2, sc3⟩)
    have dj : ∀ q, (Value.slice (some ⟨g, 0, none⟩) W.length cap').ownBlock = some q → (Value.slice SA L.length jW).ownBlock ≠ some q := fun q hq hq2 => by
     have := sc4 q hq2
     simp [Value.ownBlock] at hq
     omega
    have DJ := aiU dj
    have s4 := hb4.size
    clear hL sc1 sc2 sc3 sc4 hpl XN HG Rl dj hb4 C3 Sc C2 l2 y20 y21 y22 y23 y24 y30 y31 y32 y33 y34 FA JK HI hcl c1 c2 him hi M8 o4 s3 k3 HC
    obtain ⟨wo, rfl⟩ : ∃ wo : World, wo = wr := ⟨_, rfl⟩
    go_loopw [7, 8, 15, 57] (fun a7 a8 a15 a57 wr => ∃ j : Nat, j ≤ L.length ∧ a57 = .int .i64 (j : Int) ∧ a7 = .int .i64 ((L.take j).foldl (eB st en k) (W, bad)).2 ∧ wr.ownsRow (w.heap.size + 3) 3 1 a8 ((L.take j).foldl (eB st en k) (W, bad)).1.length (dU ((L.take j).foldl (eB st en k) (W, bad)).1) ∧ RC w wr eb mb (.slice (some ⟨b, off, none⟩) n cap) ev sh lk nm st en da (tK (au cd) ((k : Int) :: D)) ∧ Ints wr (.slice SA L.length jW) L ∧ ∀ q, a8.ownBlock = some q → (Value.slice SA L.length jW).ownBlock ≠ some q) (fun _ _ _ a57 _ => L.length - (intOf a57).toNat)
    case atStart => exact ⟨0, Nat.zero_le _, rfl, rfl, Sb.out, C4.out, I4.out, DJ.out⟩
    case round =>
     obtain ⟨j, hj, rfl, rfl, hown, hC, hI, hdj⟩ := hrel
     clear C4 Sb I4 DJ
     obtain ⟨c0, c1, c2⟩ := hC.cells
     have YM := hC.sz
     have HO := aiU hown
     have HC := aiU hC
     have HI := aiU hI
     have HJ := aiU hdj
     clear hown hC hI hdj
     by_cases hlt : j < L.length
     ·have ft := AA (eB st en k) (W, bad) L j hlt
      have HF := aiU ft
      clear ft
      have hpj := xe.out j
      obtain ⟨⟨Wj, bj⟩, hWj⟩ : ∃ p, (L.take j).foldl (eB st en k) (W, bad) = p := ⟨_, rfl⟩
      rw [hWj] at HF HO hpj ⊢
      simp only at HO hpj ⊢
      obtain ⟨A', gj, hv, i1, i2, i3⟩ := HI.out
      cases hv
      obtain ⟨sb, so, rfl, Em, hsc⟩ := i3 ahU
      obtain ⟨s, hs⟩ : ∃ s, L[j] = s := ⟨_, rfl⟩
      have x1 : wr.cell? ⟨sb, so + j, none⟩ = some (.int .i64 s) := by rw [hsc j hlt, ← hs]; simp [List.getD, List.getElem?_eq_getElem hlt]
      rw [hs] at HF
      have dl : decide ((j : Int) < (L.length : Int)) = true := by simpa using hlt
      unfold maxLen at i2
      clear hsc i3 hs
      by_cases hin : st ≤ s ∧ s < en
      ·have d1 : decide (st ≤ s) = true := decide_eq_true hin.1
       have d2 : decide (s < en) = true := decide_eq_true hin.2
       have HP := aiU (show eB st en k (Wj, bj) s = (Wj ++ [s], bj) by unfold eB; rw [if_pos hin])
       clear hin
       go_wp2_with (at_builtin; refine wpList_append_own_at _ rfl (.tmp 71) (.tmp 73) 38 rfl (w.heap.size + 3) 3 i0 (.int .i64 0) 1 8 Tryz.underlying38 hi0 hz0 hz1 hz2 rfl ahW u8 _ _ rfl (HO.out.alloc _) ⟨wr.heap.size, 0, none⟩ 1 1 [.int .i64 s] rfl rfl (cell_one_new _ _ _) ahX ahY ahU ah6 ?_; intro v' W' hown' hgrow _ j6)
       have eF := HF.out.trans HP.out
       have bA := (Below.refl wr.heap.size wr).alloc (Nat.le_refl _) (.cells #[.int .i64 s] 3)
       have bG : Below (w.heap.size + 3) wr W' := ((Below.refl _ _).alloc YM _).grown hgrow ah6 (fun q hq => (HO.out.lt q hq).1)
       go_roundw
       case rel =>
        refine ⟨j + 1, by omega, by go_num, by rw [eF], ?_, HC.out.below bG, (HI.out.below bA).grown hgrow (fun q hq hq2 => HJ.out q hq2 hq), fun q hq => ?_⟩
        ·rw [eF]
         simpa [dU] using hown'
        ·rcases j6 with h | h
         ·rw [h] at hq; exact HJ.out q hq
         ·rw [h, World.size_alloc] at hq
          cases hq
          intro h2
          simp [Value.ownBlock] at h2
          omega
       case measure => simp [intOf]; omega
      ·have HP := aiU (show eB st en k (Wj, bj) s = (Wj, if bj < 0 ∨ (k : Int) < bj then (k : Int) else bj) by unfold eB; rw [if_neg hin])
       have eF := aiU (HF.out.trans HP.out)
       go_wp2_with fail
       all_goals
        go_roundw
        case rel =>
         refine ⟨j + 1, by omega, by go_num, ?_, ?_, HC.out, HI.out, HJ.out⟩
         ·rw [eF.out]
          first
           | (rw [if_pos ahU]; done)
           | (rw [if_neg ahU]; done)
         ·rw [eF.out]; exact HO.out
        case measure => simp [intOf]; omega
     ·obtain rfl : j = L.length := by omega
      have dl : decide ((L.length : Int) < (L.length : Int)) = false := by simp
      rw [List.take_length] at HO ⊢
      go_wp2_with fail
      go_roundg (3 * (en - st).toNat + (L.foldl (eB st en k) (W, bad)).1.length - 3 * (D.length + 1))
      case measure => exact HE.out.2
      case rel => exact ⟨(k : Int) :: D, _, _, rfl, by have := HE.out.2; omega, HE.out.1, Wv.out, HO.out, HC.out⟩
def dw (i : Ins) (a : Int) : List Int := if eD i.op = true then bL i a else if i.op = 28 then [a] else if i.op = 29 then [a + 1] else []
def tE (c : Int → Ins) (st : Int) (D : List Int) (x : Int) : Prop := x = st ∨ ∃ a ∈ D, x ∈ dw (c a) a
structure oJ (c : Int → Ins) (st : Int) (D : List Int) (g : Int → Option Value) (left : List Int) : Prop where
 sound : ∀ x, g x = none ∨ (g x = some (.bool true) ∧ tE c st D x)
 start : g st = some (.bool true)
 done : ∀ a ∈ D, a ∈ left ∨ ∀ x ∈ dw (c a) a, g x = some (.bool true)
theorem oJ.add {c : Int → Ins} {st : Int} {D : List Int} {g : Int → Option Value} {left : List Int} (h : oJ c st D g left) {x : Int} (hx : tE c st D x) : oJ c st D (fZ g x (.bool true)) left := by
 refine ⟨fun y => ?_, ?_, fun a ha => ?_⟩
 ·unfold fZ
  by_cases e : y = x
  ·rw [if_pos e]; exact .inr ⟨rfl, e ▸ hx⟩
  ·rw [if_neg e]; exact h.sound y
 ·unfold fZ; split; rfl; exact h.start
 ·rcases h.done a ha with h1 | h1
  ·exact .inl h1
  ·refine .inr fun y hy => ?_
   unfold fZ; split; rfl; exact h1 y hy
theorem oJ.drop {c : Int → Ins} {st : Int} {D : List Int} {g : Int → Option Value} {left left' : List Int} (h : oJ c st D g left) {a : Int} (hl : ∀ x ∈ left, x = a ∨ x ∈ left') (ha : ∀ x ∈ dw (c a) a, g x = some (.bool true)) : oJ c st D g left' :=
 ⟨h.sound, h.start, fun b hb => by
  rcases h.done b hb with h1 | h1
  ·rcases hl b h1 with h2 | h2
   ·exact .inr (h2 ▸ ha)
   ·exact .inl h2
  ·exact .inr h1⟩
theorem oJ.lead {c : Int → Ins} {st : Int} {D : List Int} {g : Int → Option Value} (h : oJ c st D g []) (x : Int) : (tE c st D x ∧ g x = some (.bool true)) ∨ (¬ tE c st D x ∧ g x = none) := by
 by_cases hx : tE c st D x
 ·refine .inl ⟨hx, ?_⟩
  rcases hx with rfl | ⟨a, ha, hm⟩
  ·exact h.start
  ·rcases h.done a ha with h1 | h1
   ·cases h1
   ·exact h1 x hm
 ·refine .inr ⟨hx, ?_⟩
  rcases h.sound x with h1 | h1
  ·exact h1
  ·exact absurd h1.2 hx
structure LM (w wr : World) (r fb mb : Nat) (f : Int → Option Value) (left : List Int) (g : Int → Option Value) : Prop where
 m1 : mb = w.heap.size + 1
 r1 : r = w.heap.size + 2
 fb1 : fb < w.heap.size
 aD : Below w.heap.size w wr
 it : Ir wr r fb f left
 map : Im wr mb g
theorem LM.below {w wr wr' : World} {r fb mb : Nat} {f g : Int → Option Value} {left : List Int} (h : LM w wr r fb mb f left g) (hb : Below wr.heap.size wr wr') : LM w wr' r fb mb f left g :=
 ⟨h.m1, h.r1, h.fb1, h.aD.trans (hb.mono h.aD.size), h.it.keep (hb.block _ h.it.lt.1) (hb.block _ h.it.lt.2.1), h.map.below hb h.map.lt⟩
theorem LM.put {w wr wr' : World} {r fb mb : Nat} {f g g' : Int → Option Value} {left : List Int} (h : LM w wr r fb mb f left g) (hm : Im wr' mb g') (ho : wr'.os = wr.os) (ht : wr'.tape = wr.tape) (hp : wr'.output = wr.output) (hs : wr'.heap.size = wr.heap.size) (hk : ∀ i, i ≠ mb → wr'.heap[i]? = wr.heap[i]?) : LM w wr' r fb mb f left g' :=
 ⟨h.m1, h.r1, h.fb1, h.aD.trans ⟨ho, ht, hp, by omega, fun k hk' => hk k (by have := h.m1; omega)⟩, h.it.keep (hk _ (by have := h.m1; have := h.r1; omega)) (hk _ (by have := h.m1; have := h.fb1; omega)), hm⟩
theorem LM.step {w wr wr' : World} {r fb mb : Nat} {f g : Int → Option Value} {left left' : List Int} (h : LM w wr r fb mb f left g) (hi : Ir wr' r fb f left') (ho : wr'.os = wr.os) (ht : wr'.tape = wr.tape) (hp : wr'.output = wr.output) (hs : wr'.heap.size = wr.heap.size) (hk : ∀ i, i ≠ r → wr'.heap[i]? = wr.heap[i]?) : LM w wr' r fb mb f left' g :=
 ⟨h.m1, h.r1, h.fb1, h.aD.trans ⟨ho, ht, hp, by omega, fun k hk' => hk k (by have := h.r1; omega)⟩, hi, h.map.keep (hk _ (by have := h.m1; have := h.r1; omega))⟩
theorem EU (w : World) : (zeroValue 4).run Tryz.prog w = .ok (.bool false) w := by kernel_rfl
theorem ya (nm : ByteArray) (st en da : Int) (fb : Nat) (c : Int → Ins) (D : List Int) (w : World) (hst : 0 ≤ st ∧ st ≤ 1000000) (hD : ∀ a ∈ D, (0 ≤ a ∧ a ≤ 1000000) ∧ (-1000000 ≤ (c a).aP ∧ (c a).aP ≤ 1000000)) (hF : Im w fb (tK c D)) :
  Calls Tryz.prog 32 #[.agg #[.string nm, .int .i64 st, .int .i64 en, .int .i64 da], .map (some fb)] w fun e w' => ∃ mb g, e = .returned (.map (some mb)) ∧ w.heap.size ≤ mb ∧ oJ c st D g [] ∧ Im w' mb g ∧ Below w.heap.size w w' := by
 have hfb := hF.lt
 have mk := fun W : World => (show (Instr.makeMap 99 none).run Tryz.prog W = .ok (.map (some W.heap.size)) (W.alloc (.map #[] 0)) from rfl)
 obtain ⟨V0, l0, m0, o1, o2, o3, o4, o5⟩ := (Im.made (w.alloc (.cells #[.string nm, .int .i64 st, .int .i64 en, .int .i64 da] 75))).put (P := Tryz.prog) (kt := 3) (t := 99) (e := 4) Tryz.underlying3 Tryz.underlying99 (k := st) (eX ahU ahU) (.bool true)
 simp only [kv, World.size_alloc] at l0 m0 o4 o5
 have b0 : Below w.heap.size w V0 := ((((Below.refl _ _).alloc (Nat.le_refl _) _).alloc ahZ _) : Below w.heap.size w ((w.alloc (.cells #[.string nm, .int .i64 st, .int .i64 en, .int .i64 da] 75)).alloc (.map #[] 0))).trans ⟨o1, o2, o3, by simp; omega, fun k hk => o5 k ahU⟩
 obtain ⟨o, Cf, l1, r0, hleft⟩ := (hF.below b0 hfb).range (P := Tryz.prog) (kt := 3) (t := 96) (e := 67) Tryz.underlying96
 rw [o4] at l1 r0
 have hm0 : oJ c st D (fZ (fun _ => none) st (.bool true)) Cf := by
  refine ⟨fun x => ?_, by simp [fZ], fun a ha => .inl (hleft a (c a).val (by simp [tK, ha]))⟩
  unfold fZ
  by_cases e : x = st
  ·rw [if_pos e]; exact .inr ⟨rfl, .inl e⟩
  ·rw [if_neg e]; exact .inl rfl
 have hlm : LM w (V0.alloc o) (w.heap.size + 1 + 1) fb (w.heap.size + 1) (tK c D) Cf (fZ (fun _ => none) st (.bool true)) :=
  ⟨rfl, rfl, hfb, b0.alloc (by have := b0.size; omega) _, r0, m0.keep (heap_alloc_old _ _ ahU)⟩
 have HM0 := aiU hm0
 have UQ := aiU hlm
 have HDD := aiU hD
 clear hm0 hlm hD hleft r0 m0 o5 o1 o2 o3 hF b0
 go_enter Tryz.func32, Tryz.ntmps32
 go_upto_region 3 with fail
 obtain ⟨V, hV⟩ : ∃ V, V0.alloc o = V := ⟨_, rfl⟩
 rw [hV] at UQ ⊢
 obtain ⟨mb, hmb⟩ : ∃ mb, w.heap.size + 1 = mb := ⟨_, rfl⟩
 rw [hmb] at UQ ⊢
 obtain ⟨r, hr⟩ : ∃ r, mb + 1 = r := ⟨_, rfl⟩
 rw [hr] at UQ ⊢
 clear hV l0 l1 o4
 go_loopg [6, 7, 9] (Cf.length) (fun gk a6 a7 a9 wr => ∃ (left : List Int) (g : Int → Option Value), gk = left.length ∧ oJ c st D g left ∧ LM w wr r fb mb (tK c D) left g)
 case atStart => exact ⟨Cf, _, rfl, HM0.out, UQ.out⟩
 case round =>
  obtain ⟨left, g, rfl, hM, hL⟩ := hrel
  have HM := aiU hM
  have HL := aiU hL
  clear HM0 UQ hM hL
  rcases HL.out.it.next (P := Tryz.prog) 0 with ⟨hl, hrun⟩ | ⟨a, v, left', Wn, ha, hv, hlen, O1, hit, hrun, hent, o1, o2, o3, o4, o5⟩
  ·subst hl
   have fc : ∀ ty, (Instr.next (.pointer (some ⟨r, 0, none⟩)) false ty).run Tryz.prog wr = _ := fun _ => hrun
   clear hrun
   go_wp2_with fail
   go_ret
   exact ⟨mb, g, rfl, by omega, HM.out, HL.out.map, HL.out.aD⟩
  ·have fc : ∀ ty, (Instr.next (.pointer (some ⟨r, 0, none⟩)) false ty).run Tryz.prog wr = _ := fun _ => hrun
   clear hrun
   have QT : a ∈ D := by
    unfold tK at hv
    split at hv
    ·assumption
    ·cases hv
   have hva : v = (c a).val := by
    unfold tK at hv
    rw [if_pos QT] at hv
    exact (Option.some.inj hv).symm
   subst hva
   obtain ⟨⟨p1, p2⟩, p3, p4⟩ := HDD.out a QT
   have Qk := aiU (HL.out.step hit o1 o2 o3 o4 o5)
   have HCV := aiU O1
   have JF := aiU hlen
   have WC := aiU (fun x (hx : x ∈ dw (c a) a) => (show tE c st D x from .inr ⟨a, QT, hx⟩))
   obtain ⟨i, hi⟩ : ∃ i, c a = i := ⟨_, rfl⟩
   rw [hi] at WC fc hent p3 p4
   have Nd : ∀ g', oJ c st D g' left → (∀ x ∈ dw i a, g' x = some (.bool true)) → oJ c st D g' left' := fun g' q1 q2 => q1.drop O1 (by rw [hi]; exact q2)
   have WO := aiU Nd
   clear hit hv O1 hlen hi ha o5 o1 o2 o3 Nd HL
   simp only [Ins.val, kv] at fc hent
   obtain ⟨op, ia, ib, ic, aP⟩ := i
   simp only at fc hent p3 p4
   have HB := ou op
   rcases hb : eD op
   ·rw [hb] at HB
    by_cases q1 : op = 28
    ·have d1 : (op == 28) = true := by simp [q1]
     have JA := aiU (show dw ⟨op, ia, ib, ic, aP⟩ a = [a] by unfold dw; rw [if_neg (by simp [hb]), if_pos q1])
     clear hb q1
     go_upto_region 12 with (go_at_call 61; refine (HB _).mono ?_; rintro e w' ⟨rfl, rfl⟩)
     obtain ⟨X, hX⟩ : ∃ X, Wn.alloc (.cells #[.int .u8 op, .int .i64 ia, .int .i64 ib, .int .i64 ic, .int .i64 aP] 67) = X := ⟨_, rfl⟩
     have JD := aiU (hX ▸ Qk.out.below ((Below.refl _ _).alloc (Nat.le_refl _) _))
     rw [hX]
     obtain ⟨V3, l2, m3, o1, o2, o3, KI, o5⟩ := JD.out.map.put (P := Tryz.prog) (kt := 3) (t := 99) (e := 4) Tryz.underlying3 Tryz.underlying99 (k := a) (eX ahU ahU) (.bool true)
     simp only [kv] at l2
     have UO := aiU (JD.out.put m3 o1 o2 o3 KI o5)
     clear hX m3 o1 o2 o3 KI o5 fc hent
     go_wp2_with fail
     go_roundg (left'.length)
     case measure => exact JF.out
     case rel =>
      refine ⟨left', _, rfl, WO.out _ (HM.out.add (WC.out _ ?_)) ?_, UO.out⟩
      ·rw [JA.out]; simp
      ·rw [JA.out]; simp [fZ]
    ·have d1 : (op == 28) = false := by simp [q1]
     by_cases q2 : op = 29
     ·have d2 : (op == 29) = true := by simp [q2]
      have JA := aiU (show dw ⟨op, ia, ib, ic, aP⟩ a = [a + 1] by unfold dw; rw [if_neg (by simp [hb]), if_neg q1, if_pos q2])
      have w1 : IntKind.i64.wrap (a + 1) = a + 1 := IntWalk.i64_in _ ahU
      clear hb q1 q2
      go_upto_region 14 with (go_at_call 61; refine (HB _).mono ?_; rintro e w' ⟨rfl, rfl⟩)
      obtain ⟨X, hX⟩ : ∃ X, Wn.alloc (.cells #[.int .u8 op, .int .i64 ia, .int .i64 ib, .int .i64 ic, .int .i64 aP] 67) = X := ⟨_, rfl⟩
      have JD := aiU (hX ▸ Qk.out.below ((Below.refl _ _).alloc (Nat.le_refl _) _))
      rw [hX]
      obtain ⟨V3, l2, m3, o1, o2, o3, KI, o5⟩ := JD.out.map.put (P := Tryz.prog) (kt := 3) (t := 99) (e := 4) Tryz.underlying3 Tryz.underlying99 (k := a + 1) (eX ahU ahU) (.bool true)
      simp only [kv] at l2
      have UO := aiU (JD.out.put m3 o1 o2 o3 KI o5)
      clear hX m3 o1 o2 o3 KI o5 fc hent
      go_wp2_with fail
      go_roundg (left'.length)
      case measure => exact JF.out
      case rel =>
       refine ⟨left', _, rfl, WO.out _ (HM.out.add (WC.out _ ?_)) ?_, UO.out⟩
       ·rw [JA.out]; simp
       ·rw [JA.out]; simp [fZ]
     ·have d2 : (op == 29) = false := by simp [q2]
      have JA := aiU (show dw ⟨op, ia, ib, ic, aP⟩ a = [] by unfold dw; rw [if_neg (by simp [hb]), if_neg q1, if_neg q2])
      clear hb q1 q2
      go_wp2_with (go_at_call 61; refine (HB _).mono ?_; rintro e w' ⟨rfl, rfl⟩)
      go_roundg (left'.length)
      case measure => exact JF.out
      case rel => exact ⟨left', _, rfl, WO.out _ HM.out (by rw [JA.out]; simp), Qk.out.below ((Below.refl _ _).alloc (Nat.le_refl _) _)⟩
   ·rw [hb] at HB
    have JA := aiU (show dw ⟨op, ia, ib, ic, aP⟩ a = bL ⟨op, ia, ib, ic, aP⟩ a by unfold dw; rw [if_pos hb])
    have FA := aiU (fun W : World => iO ⟨op, ia, ib, ic, aP⟩ a W p1 p2 p3 p4)
    clear hb
    simp only at FA
    go_upto_region 7 with (first | (go_at_call 61; refine (HB _).mono ?_; rintro e w' ⟨rfl, rfl⟩) | (go_at_call 33; refine (FA.out _).mono ?_; rintro e W4 ⟨⟨v, rfl, ⟨SA, jW, rfl, sc1, sc2, sc3⟩, sc4⟩, hb4⟩))
    obtain ⟨L, hL⟩ : ∃ L, bL ⟨op, ia, ib, ic, aP⟩ a = L := ⟨_, rfl⟩
    have hL2 : L.length ≤ 2 := hL ▸ mj _ _
    rw [hL] at JA sc1 sc3 sc4 ⊢
    have JD := aiU ((Qk.out.below ((Below.refl _ _).alloc (Nat.le_refl _) _)).below hb4)
    have I4 := aiU (show Ints W4 (.slice SA L.length jW) L from ⟨SA, jW, rfl, sc1, sc2, sc3⟩)
    have hsz : r < Wn.heap.size := Qk.out.it.lt.1
    have DJ := aiU (show ∀ q, (Value.slice SA L.length jW).ownBlock = some q → some mb ≠ some q from fun q hq e => by
     have := sc4 q hq
     rw [World.size_alloc] at this
     cases e
     omega)
    have HLW := aiU (show ∀ x ∈ L, 0 ≤ x + 2000000 ∧ x ≤ 3000000 from fun x hx => by
     rw [← hL] at hx
     unfold bL at hx
     split at hx
     ·cases hx
     ·split at hx
      ·simp at hx; omega
      ·split at hx
       ·simp at hx; omega
       ·simp at hx; omega)
    clear hL sc1 sc2 sc3 sc4 hb4 fc hent FA HB p1 p2 p3 p4 o4
    obtain ⟨wo, rfl⟩ : ∃ wo : World, wo = wr := ⟨_, rfl⟩
    go_loopw [9, 29] (fun a9 a29 wr => ∃ (j : Nat) (g' : Int → Option Value), j ≤ L.length ∧ a29 = .int .i64 (j : Int) ∧ oJ c st D g' left ∧ (∀ x ∈ L.take j, g' x = some (.bool true)) ∧ LM w wr r fb mb (tK c D) left' g' ∧ Ints wr (.slice SA L.length jW) L) (fun _ a29 _ => L.length - (intOf a29).toNat)
    case atStart => exact ⟨0, g, Nat.zero_le _, rfl, HM.out, by simp, JD.out, I4.out⟩
    case round =>
     obtain ⟨j, g', hj, rfl, hM', lf, hL', hI'⟩ := hrel
     have HM' := aiU hM'
     have jC := aiU lf
     have ZO := aiU hL'
     have HI' := aiU hI'
     clear hM' lf hL' hI' JD I4
     by_cases hlt : j < L.length
     ·obtain ⟨A', gj, hv, i1, i2, i3⟩ := HI'.out
      cases hv
      obtain ⟨sb, so, rfl, Em, hsc⟩ := i3 ahU
      obtain ⟨s, hs⟩ : ∃ s, L[j] = s := ⟨_, rfl⟩
      have x1 : wr.cell? ⟨sb, so + j, none⟩ = some (.int .i64 s) := by rw [hsc j hlt, ← hs]; simp [List.getD, List.getElem?_eq_getElem hlt]
      have hsm : s ∈ L := hs ▸ List.getElem_mem hlt
      have hsr := HLW.out s hsm
      have Zg := aiU (show L.take (j + 1) = L.take j ++ [s] by rw [List.take_add_one, List.getElem?_eq_getElem hlt, hs]; rfl)
      have dl : decide ((j : Int) < (L.length : Int)) = true := by simpa using hlt
      unfold maxLen at i2
      obtain ⟨V3, l2, m3, o1, o2, o3, KI, o5⟩ := ZO.out.map.put (P := Tryz.prog) (kt := 3) (t := 99) (e := 4) Tryz.underlying3 Tryz.underlying99 (k := s) (eX ahU ahU) (.bool true)
      simp only [kv] at l2
      have UO := aiU (ZO.out.put m3 o1 o2 o3 KI o5)
      have zC := aiU (HI'.out.grown (iX o1 o2 o3 KI o5) DJ.out)
      have ZJ := aiU (HM'.out.add (WC.out s (by rw [JA.out]; exact hsm)))
      clear hsc i3 hs m3 o1 o2 o3 KI o5
      go_wp2_with fail
      go_roundw
      case rel =>
       refine ⟨j + 1, _, by omega, by go_num, ZJ.out, fun x hx => ?_, UO.out, zC.out⟩
       rw [Zg.out] at hx
       unfold fZ
       split
       ·rfl
       ·rename_i hne
        rcases List.mem_append.1 hx with h | h
        ·exact jC.out x h
        ·simp at h; exact absurd h hne
      case measure => simp [intOf]; omega
     ·obtain rfl : j = L.length := by omega
      have dl : decide ((L.length : Int) < (L.length : Int)) = false := by simp
      rw [List.take_length] at jC
      go_wp2_with fail
      go_roundg (left'.length)
      case measure => exact JF.out
      case rel => exact ⟨left', _, rfl, WO.out _ HM'.out (by rw [JA.out]; exact jC.out), ZO.out⟩
structure gR where
 nm : ByteArray
 st : Int
 en : Int
 da : Int
structure nM (w : World) (v : Value) (l : List gR) : Prop where
 nm : ∀ e ∈ l, e.nm.size ≤ maxLen
 at_ : ∃ A cap, v = .slice A l.length cap ∧ l.length ≤ cap ∧ cap ≤ maxLen ∧ (0 < l.length → ∃ b off, A = some ⟨b, off, none⟩ ∧ b < w.heap.size ∧ ∀ i e, l[i]? = some e →
  w.cell? ⟨b, off + i * 4, none⟩ = some (.string e.nm) ∧ w.cell? ⟨b, off + i * 4 + 1, none⟩ = some (.int .i64 e.st) ∧ w.cell? ⟨b, off + i * 4 + 2, none⟩ = some (.int .i64 e.en) ∧ w.cell? ⟨b, off + i * 4 + 3, none⟩ = some (.int .i64 e.da))
theorem nM.below {w w' : World} {v : Value} {l : List gR} (h : nM w v l) (hb : Below w.heap.size w w') : nM w' v l := by
 obtain ⟨A, cap, h1, h2, h3, h4⟩ := h.at_
 refine ⟨h.nm, A, cap, h1, h2, h3, fun h0 => ?_⟩
 obtain ⟨b, off, ha, hlt, hc⟩ := h4 h0
 refine ⟨b, off, ha, by have := hb.size; omega, fun i e he => ?_⟩
 obtain ⟨c0, c1, c2, c3⟩ := hc i e he
 exact ⟨(hb.cell (p := ⟨b, _, none⟩) hlt).trans c0, (hb.cell (p := ⟨b, _, none⟩) hlt).trans c1, (hb.cell (p := ⟨b, _, none⟩) hlt).trans c2, (hb.cell (p := ⟨b, _, none⟩) hlt).trans c3⟩
structure qw (cd : Nat → Int) (lk st en a : Int) : Prop where
 dec : (bk (cd a.toNat)).2 = 0
 tgt : eD (au cd a).op = true → st ≤ a + 1 + (au cd a).aP ∧ a + 1 + (au cd a).aP < en
 lock : (au cd a).op = 28 ∨ (au cd a).op = 29 → (au cd a).aP < lk
theorem sJ (cv ev : Value) (sh lk : Int) (nm : ByteArray) (st en da : Int) (n : Nat) (cd : Nat → Int) (k : Nat) (hk : k < n) (w : World) (T : gZ w) (HW : Words w cv n cd) :
  Calls Tryz.prog 60 #[.agg #[cv, ev, .int .i64 sh, .int .i64 lk], .agg #[.string nm, .int .i64 st, .int .i64 en, .int .i64 da], .int .i64 (k : Int)] w fun e w' => (∃ r, e = .returned (.int .i64 r) ∧ (r = 0 ↔ qw cd lk st en k)) ∧ Below w.heap.size w w' := by
 have hn := HW.le
 obtain ⟨A, cap, rfl, hc1, hc2, hrd⟩ := HW.at_
 obtain ⟨b, off, rfl, hb, hcell⟩ := hrd ahU
 have hwd := HW.wd k hk
 have x1 := hcell k hk
 clear HW hrd hcell
 obtain ⟨i, hi⟩ : ∃ i, au cd k = i := ⟨_, rfl⟩
 have H6 : (bk (cd k)).1 = i := by rw [← hi]; simp [au]
 have him := sF (cd k) hwd.1
 rw [H6] at him
 have JK := aiU (fun (W : World) (hW : Below w.heap.size w W) => kj (cd k) hwd.1 hwd.2 W (T.below hW))
 obtain ⟨er, her⟩ : ∃ er, (bk (cd k)).2 = er := ⟨_, rfl⟩
 simp only [H6, her, Ins.val] at JK
 have HK := aiU (show qw cd lk st en k ↔ (er = 0 ∧ (eD i.op = true → st ≤ (k : Int) + 1 + i.aP ∧ (k : Int) + 1 + i.aP < en) ∧ (i.op = 28 ∨ i.op = 29 → i.aP < lk)) from ⟨fun h => ⟨by rw [← her]; exact h.dec, by rw [← hi]; exact h.tgt, by rw [← hi]; exact h.lock⟩, fun ⟨a1, a2, a3⟩ => ⟨by rw [← her] at a1; exact a1, by rw [hi]; exact a2, by rw [hi]; exact a3⟩⟩)
 have w1 : IntKind.i64.wrap ((k : Int) + 1) = (k : Int) + 1 := IntWalk.i64_in _ ahU
 have w2 : IntKind.i64.wrap ((k : Int) + 1 + i.aP) = (k : Int) + 1 + i.aP := IntWalk.i64_in _ ahU
 have Qd := aiU (fun W : World => rj i (k : Int) W w1 w2)
 obtain ⟨op, ia, ib, ic, aP⟩ := i
 simp only at JK Qd HK him
 obtain ⟨br, hbr⟩ : ∃ br, eD op = br := ⟨_, rfl⟩
 rw [hbr] at Qd HK
 obtain ⟨tg, Hl⟩ : ∃ tg, (if br = true then (k : Int) + 1 + aP else 0) = tg := ⟨_, rfl⟩
 rw [Hl] at Qd
 have HG := aiU Hl
 clear hi H6 her Hl w1 w2 hwd hbr T
 have fin : ∀ W, Below w.heap.size w W → Below w.heap.size w W := fun _ h => h
 obtain ⟨V0, gC⟩ : ∃ V0, (w.alloc (.cells #[.slice (some ⟨b, off, none⟩) n cap, ev, .int .i64 sh, .int .i64 lk] 25)).alloc (.cells #[.string nm, .int .i64 st, .int .i64 en, .int .i64 da] 75) = V0 := ⟨_, rfl⟩
 have b0 : Below w.heap.size w V0 := gC ▸ ((Below.refl _ _).alloc (Nat.le_refl _) _).alloc ahZ _
 have s0 : w.heap.size + 2 = V0.heap.size := by rw [← gC]; simp
 have k0 : V0.heap[w.heap.size]? = some (.cells #[.slice (some ⟨b, off, none⟩) n cap, ev, .int .i64 sh, .int .i64 lk] 25) := by rw [← gC, heap_alloc_old _ _ ahZ]; exact heap_alloc_new _ _
 have k1 : V0.heap[w.heap.size + 1]? = some (.cells #[.string nm, .int .i64 st, .int .i64 en, .int .i64 da] 75) := by rw [← gC]; exact aG _ _ ahZ
 have y1 : V0.cell? ⟨w.heap.size, 0, none⟩ = some (.slice (some ⟨b, off, none⟩) n cap) := by simp [World.cell?, k0]
 have y2 : V0.cell? ⟨b, off + k, none⟩ = some (.int .u32 (cd k)) := by rw [b0.cell (p := ⟨b, off + k, none⟩) hb]; exact x1
 have WQ := aiU (JK.out V0 b0)
 go_enter Tryz.func60, Tryz.ntmps60
 go_upto_region 1 with fail
 have K0 := aiU k0
 have K1 := aiU k1
 have B0 := aiU b0
 clear gC k0 k1 b0 fin x1 JK
 go_upto_region 2 with (go_at_call 22; refine (Calls.ext WQ.out).mono ?_; rintro e w' ⟨rfl, y, rfl⟩)
 obtain ⟨V2, hV2⟩ : ∃ V2, y.w.alloc (.cells #[.int .u8 op, .int .i64 ia, .int .i64 ib, .int .i64 ic, .int .i64 aP] 67) = V2 := ⟨_, rfl⟩
 have b2 : Below V0.heap.size V0 V2 := hV2 ▸ y.h.alloc y.h.size _
 have k2 : V2.heap[y.w.heap.size]? = some (.cells #[.int .u8 op, .int .i64 ia, .int .i64 ib, .int .i64 ic, .int .i64 aP] 67) := hV2 ▸ heap_alloc_new _ _
 have s2 : y.w.heap.size < V2.heap.size := by rw [← hV2]; simp
 have s3 := y.h.size
 obtain ⟨q, hq⟩ : ∃ q, y.w.heap.size = q := ⟨_, rfl⟩
 rw [hV2]
 rw [hq] at k2 s2 s3 ⊢
 have e1 : V2.cell? ⟨w.heap.size + 1, 1, none⟩ = some (.int .i64 st) := by rw [b2.cell (p := ⟨w.heap.size + 1, 1, none⟩) (by show w.heap.size + 1 < _; omega)]; simp [World.cell?, K1.out]
 have e2 : V2.cell? ⟨w.heap.size + 1, 2, none⟩ = some (.int .i64 en) := by rw [b2.cell (p := ⟨w.heap.size + 1, 2, none⟩) (by show w.heap.size + 1 < _; omega)]; simp [World.cell?, K1.out]
 have e3 : V2.cell? ⟨w.heap.size, 3, none⟩ = some (.int .i64 lk) := by rw [b2.cell (p := ⟨w.heap.size, 3, none⟩) (by show w.heap.size < _; omega)]; simp [World.cell?, K0.out]
 have g0 : V2.cell? ⟨q, 0, none⟩ = some (.int .u8 op) := by simp [World.cell?, k2]
 have g1 : V2.cell? ⟨q, 1, none⟩ = some (.int .i64 ia) := by simp [World.cell?, k2]
 have g2 : V2.cell? ⟨q, 2, none⟩ = some (.int .i64 ib) := by simp [World.cell?, k2]
 have g3 : V2.cell? ⟨q, 3, none⟩ = some (.int .i64 ic) := by simp [World.cell?, k2]
 have g4 : V2.cell? ⟨q, 4, none⟩ = some (.int .i64 aP) := by simp [World.cell?, k2]
 have B2 := aiU (B0.out.trans (b2.mono ahU))
 have s4 : V0.heap.size ≤ V2.heap.size := b2.size
 have s5 : w.heap.size + 1 < V2.heap.size := by omega
 have s6 : w.heap.size < V2.heap.size := by omega
 clear hV2 hq k2 y b2 y1 y2 WQ K0 K1 B0
 go_wp2_with (go_at_call 62; refine (Calls.ext (Qd.out _)).mono ?_; rintro e w' ⟨rfl, y, rfl⟩)
 all_goals
  go_ret
  refine ⟨⟨_, rfl, ?_⟩, ?_⟩
  ·rw [HK.out]
   have hG := HG.out
   first
    | (simp_all; done)
    | (simp_all; omega)
  ·first
    | exact B2.out
    | exact Ext.below B2.out ahU y
def dA : Int → List gR → Int → Prop
 | a, [], z => a = z
 | a, e :: es, z => e.st = a ∧ e.st < e.en ∧ dA e.en es z
theorem dA.append {l2 : List gR} : ∀ {l1 : List gR} {a z : Int}, dA a (l1 ++ l2) z ↔ ∃ m, dA a l1 m ∧ dA m l2 z
 | [], a, z => ⟨fun h => ⟨a, rfl, h⟩, fun ⟨m, h1, h2⟩ => by cases h1; exact h2⟩
 | e :: l1, a, z => by
  constructor
  ·rintro ⟨h1, h2, h3⟩
   obtain ⟨m, h4, h5⟩ := dA.append.1 h3
   exact ⟨m, ⟨h1, h2, h4⟩, h5⟩
  ·rintro ⟨m, ⟨h1, h2, h3⟩, h4⟩
   exact ⟨h1, h2, dA.append.2 ⟨m, h3, h4⟩⟩
theorem dA.LQ : ∀ {l : List gR} {a z z' : Int}, dA a l z → dA a l z' → z = z'
 | [], a, z, z', h, h' => by cases h; exact h'
 | e :: l, a, z, z', h, h' => dA.LQ h.2.2 h'.2.2
theorem dA.le : ∀ {l : List gR} {a z : Int}, dA a l z → a ≤ z
 | [], a, z, h => by cases h; exact Int.le_refl _
 | e :: l, a, z, ⟨h1, h2, h3⟩ => by have := dA.le h3; omega
theorem dA.bounds : ∀ {l : List gR} {a z : Int}, dA a l z → ∀ e ∈ l, a ≤ e.st ∧ e.st < e.en ∧ e.en ≤ z
 | [], a, z, h, e, he => by cases he
 | e :: l, a, z, ⟨h1, h2, h3⟩, e', he => by
  rcases List.mem_cons.1 he with rfl | he
  ·have := dA.le h3; omega
  ·have := dA.bounds h3 e' he; omega
theorem dA.snoc {l : List gR} {e : gR} {a m : Int} (h : dA a l m) (h1 : e.st = m) (h2 : e.st < e.en) : dA a (l ++ [e]) e.en :=
 dA.append.2 ⟨m, h, h1, h2, rfl⟩
structure ng (n : Nat) (cd : Nat → Int) (aC : List gR) (sh lk : Int) : Prop where
 code : n ≤ 4096
 cnt : aC.length ≤ 8
 qy : 0 ≤ sh ∧ sh ≤ 64
 lkB : 0 ≤ lk ∧ lk ≤ 4
 da : ∀ e ∈ aC, 0 ≤ e.da ∧ e.da ≤ 512
 nm : ∀ e ∈ aC, 1 ≤ e.nm.size ∧ e.nm.size ≤ 12
 ch : dA 0 aC n
 ins : ∀ e ∈ aC, ∀ k : Nat, e.st ≤ k → (k : Int) < e.en → qw cd lk e.st e.en k
theorem bT {α : Type} {l : List α} {j : Nat} {e : α} (h : l[j]? = some e) : l.take (j + 1) = l.take j ++ [e] := by
 rw [List.take_add_one, h]; rfl
theorem nM.cells {w wr : World} {A : Option Addr} {cap : Nat} {l : List gR} (h : nM w (.slice A l.length cap) l) (hb : Below w.heap.size w wr) {j : Nat} (hj : j < l.length) :
  ∃ e b off, l[j]? = some e ∧ A = some ⟨b, off, none⟩ ∧ b < w.heap.size ∧ wr.cell? ⟨b, off + j * 4, none⟩ = some (.string e.nm) ∧ wr.cell? ⟨b, off + j * 4 + 1, none⟩ = some (.int .i64 e.st) ∧ wr.cell? ⟨b, off + j * 4 + 2, none⟩ = some (.int .i64 e.en) ∧ wr.cell? ⟨b, off + j * 4 + 3, none⟩ = some (.int .i64 e.da) := by
 obtain ⟨A', cap', hv, h2, h3, h4⟩ := (h.below hb).at_
 cases hv
 obtain ⟨A', cap', hv, h2', h3', h4'⟩ := h.at_
 cases hv
 obtain ⟨b, off, rfl, hlt, hc⟩ := h4 ahU
 obtain ⟨b', off', hA, hlt', _⟩ := h4' ahU
 cases hA
 have he : l[j]? = some l[j] := List.getElem?_eq_getElem hj
 obtain ⟨c0, c1, c2, c3⟩ := hc j _ he
 exact ⟨l[j], b, off, he, rfl, hlt', c0, c1, c2, c3⟩
theorem EO (cv ev : Value) (sh lk : Int) (n : Nat) (cd : Nat → Int) (aC : List gR) (w : World) (T : gZ w) (HW : Words w cv n cd) (HE : nM w ev aC) :
  Calls Tryz.prog 30 #[.agg #[cv, ev, .int .i64 sh, .int .i64 lk]] w fun e w' => (∃ r, e = .returned (.int .i64 r) ∧ (r = 0 ↔ ng n cd aC sh lk)) ∧ Below w.heap.size w w' := by
 have hn := HW.le
 obtain ⟨A, cap, hcv, hc1, hc2, hrd⟩ := HW.at_
 obtain ⟨EA, dS, hev, he1, he2, Yi⟩ := HE.at_
 have h63 : aC.length ≤ 2 ^ 63 - 1 := by unfold maxLen at he2; omega
 have Ke := aiU HW
 have MB := aiU HE
 have HT := aiU T
 clear hrd Yi HW HE T
 subst hcv hev
 have HBT := fk
 obtain ⟨V0, gC⟩ : ∃ V0, w.alloc (.cells #[.slice A n cap, .slice EA aC.length dS, .int .i64 sh, .int .i64 lk] 25) = V0 := ⟨_, rfl⟩
 have b0 : Below w.heap.size w V0 := gC ▸ (Below.refl _ _).alloc (Nat.le_refl _) _
 have s0 : w.heap.size < V0.heap.size := by rw [← gC]; simp
 have k0 : V0.heap[w.heap.size]? = some (.cells #[.slice A n cap, .slice EA aC.length dS, .int .i64 sh, .int .i64 lk] 25) := by rw [← gC]; exact heap_alloc_new _ _
 have y0 : V0.cell? ⟨w.heap.size, 0, none⟩ = some (.slice A n cap) := by simp [World.cell?, k0]
 have y1 : V0.cell? ⟨w.heap.size, 1, none⟩ = some (.slice EA aC.length dS) := by simp [World.cell?, k0]
 have y2 : V0.cell? ⟨w.heap.size, 2, none⟩ = some (.int .i64 sh) := by simp [World.cell?, k0]
 have y3 : V0.cell? ⟨w.heap.size, 3, none⟩ = some (.int .i64 lk) := by simp [World.cell?, k0]
 have K0 := aiU k0
 have B0 := aiU b0
 clear k0 b0
 by_cases q1 : n ≤ 4096
 case neg =>
  have d1 : decide ((4096 : Int) < (n : Int)) = true := by simp; omega
  go_enter Tryz.func30, Tryz.ntmps30
  go_wp2_with fail
  go_ret
  exact ⟨⟨2, rfl, by simp; intro h; exact q1 h.code⟩, B0.out⟩
 have d1 : decide ((4096 : Int) < (n : Int)) = false := by simp; omega
 by_cases q2 : aC.length ≤ 8
 case neg =>
  have d2 : decide ((8 : Int) < (aC.length : Int)) = true := by simp; omega
  go_enter Tryz.func30, Tryz.ntmps30
  go_wp2_with fail
  go_ret
  exact ⟨⟨2, rfl, by simp; intro h; exact q2 h.cnt⟩, B0.out⟩
 have d2 : decide ((8 : Int) < (aC.length : Int)) = false := by simp; omega
 by_cases q3 : 0 ≤ sh ∧ sh ≤ 64
 case neg =>
  have d3 : decide (0 ≤ sh ∧ sh ≤ 64) = false := decide_eq_false q3
  have H3 : ∀ W : World, Calls Tryz.prog 58 #[.int .i64 sh, .int .i64 64] W fun e w' => e = .returned (.bool false) ∧ W = w' := fun W => by have := fk sh 64 W; rwa [d3] at this
  clear d3 HBT
  go_enter Tryz.func30, Tryz.ntmps30
  go_wp2_with (go_at_call 58; refine (H3 _).mono ?_; rintro e w' ⟨rfl, rfl⟩)
  go_ret
  exact ⟨⟨2, rfl, by simp; intro h; exact q3 h.qy⟩, B0.out⟩
 have H3 : ∀ W : World, Calls Tryz.prog 58 #[.int .i64 sh, .int .i64 64] W fun e w' => e = .returned (.bool true) ∧ W = w' := fun W => by have := fk sh 64 W; rwa [decide_eq_true q3] at this
 by_cases q4 : 0 ≤ lk ∧ lk ≤ 4
 case neg =>
  have H4 : ∀ W : World, Calls Tryz.prog 58 #[.int .i64 lk, .int .i64 4] W fun e w' => e = .returned (.bool false) ∧ W = w' := fun W => by have := fk lk 4 W; rwa [decide_eq_false q4] at this
  clear HBT
  go_enter Tryz.func30, Tryz.ntmps30
  go_wp2_with (go_at_call 58; (first | (with_reducible refine (H3 _).mono ?_) | (with_reducible refine (H4 _).mono ?_)); rintro e w' ⟨rfl, rfl⟩)
  go_ret
  exact ⟨⟨2, rfl, by simp; intro h; exact q4 h.lkB⟩, B0.out⟩
 have H4 : ∀ W : World, Calls Tryz.prog 58 #[.int .i64 lk, .int .i64 4] W fun e w' => e = .returned (.bool true) ∧ W = w' := fun W => by have := fk lk 4 W; rwa [decide_eq_true q4] at this
 go_enter Tryz.func30, Tryz.ntmps30
 go_upto_region 5 with (go_at_call 58; (first | (with_reducible refine (H3 _).mono ?_) | (with_reducible refine (H4 _).mono ?_)); rintro e w' ⟨rfl, rfl⟩)
 clear H3 H4 gC d1 d2
 go_loopw [5, 42] (fun a5 a42 wr => ∃ j : Nat, j ≤ aC.length ∧ a42 = .int .i64 (j : Int) ∧ (∀ e ∈ aC.take j, 0 ≤ e.da ∧ e.da ≤ 512) ∧ Below V0.heap.size V0 wr) (fun _ a42 _ => aC.length - (intOf a42).toNat)
 case atStart => exact ⟨0, Nat.zero_le _, rfl, by simp, Below.refl _ _⟩
 case round =>
  obtain ⟨j, hj, rfl, hda, hb⟩ := hrel
  have Z4 := aiU hda
  have HB := aiU hb
  have BW := aiU (B0.out.trans (hb.mono ahU))
  have s1 := hb.size
  clear hda hb
  by_cases hlt : j < aC.length
  ·obtain ⟨e, b, off, he, rfl, hbl, c0, c1, c2, c3⟩ := MB.out.cells BW.out hlt
   have jC := aiU (bT he)
   have BD := aiU (List.mem_of_getElem? he)
   have dl : decide ((j : Int) < (aC.length : Int)) = true := by simpa using hlt
   clear he
   by_cases q5 : 0 ≤ e.da ∧ e.da ≤ 512
   ·have H5 : ∀ W : World, Calls Tryz.prog 58 #[.int .i64 e.da, .int .i64 512] W fun e w' => e = .returned (.bool true) ∧ W = w' := fun W => by have := fk e.da 512 W; rwa [decide_eq_true q5] at this
    go_wp2_with (go_at_call 58; refine (H5 _).mono ?_; rintro e w' ⟨rfl, rfl⟩)
    go_roundw
    case rel =>
     refine ⟨j + 1, by omega, by go_num, fun x hx => ?_, HB.out.alloc ahU _⟩
     rw [jC.out] at hx
     rcases List.mem_append.1 hx with h | h
     ·exact Z4.out x h
     ·simp at h; rw [h]; exact q5
    case measure => simp [intOf]; omega
   ·have H5 : ∀ W : World, Calls Tryz.prog 58 #[.int .i64 e.da, .int .i64 512] W fun e w' => e = .returned (.bool false) ∧ W = w' := fun W => by have := fk e.da 512 W; rwa [decide_eq_false q5] at this
    go_wp2_with (go_at_call 58; refine (H5 _).mono ?_; rintro e w' ⟨rfl, rfl⟩)
    go_ret
    exact ⟨⟨2, rfl, by simp; intro h; exact q5 (h.da e BD.out)⟩, BW.out.alloc ahU _⟩
  ·obtain rfl : j = aC.length := by omega
   have dl : decide ((aC.length : Int) < (aC.length : Int)) = false := by simp
   rw [List.take_length] at Z4
   obtain ⟨V1, rfl⟩ : ∃ V1 : World, V1 = wr := ⟨_, rfl⟩
   have z0 : V1.cell? ⟨w.heap.size, 0, none⟩ = some (.slice A n cap) := by rw [HB.out.cell (p := ⟨w.heap.size, 0, none⟩) s0]; exact y0
   have z1 : V1.cell? ⟨w.heap.size, 1, none⟩ = some (.slice EA aC.length dS) := by rw [HB.out.cell (p := ⟨w.heap.size, 1, none⟩) s0]; exact y1
   clear hlt
   go_upto_region 11 with fail
   go_loopw [7, 55] (fun a7 a55 wr => ∃ j : Nat, j ≤ aC.length ∧ a55 = .int .i64 (j : Int) ∧ (∀ e ∈ aC.take j, 1 ≤ e.nm.size ∧ e.nm.size ≤ 12) ∧ Below V0.heap.size V0 wr) (fun _ a55 _ => aC.length - (intOf a55).toNat)
   case atStart => exact ⟨0, Nat.zero_le _, rfl, by simp, HB.out⟩
   case round =>
    obtain ⟨j, hj, rfl, hnm, hb⟩ := hrel
    have ZF := aiU hnm
    clear HB BW z0 z1
    have HB := aiU hb
    have BW := aiU (B0.out.trans (hb.mono ahU))
    have s1 := hb.size
    clear hnm hb dl
    by_cases hlt : j < aC.length
    ·obtain ⟨e, b, off, he, rfl, hbl, c0, c1, c2, c3⟩ := MB.out.cells BW.out hlt
     have jC := aiU (bT he)
     have BD := aiU (List.mem_of_getElem? he)
     have hnl := MB.out.nm e BD.out
     have dl : decide ((j : Int) < (aC.length : Int)) = true := by simpa using hlt
     clear he
     by_cases q5 : 1 ≤ e.nm.size ∧ e.nm.size ≤ 12
     ·have H5 : ∀ W : World, Calls Tryz.prog 59 #[.string e.nm] W fun e w' => e = .returned (.bool true) ∧ W = w' := fun W => by have := oz e.nm W hnl; rwa [decide_eq_true q5] at this
      go_wp2_with (go_at_call 59; refine (H5 _).mono ?_; rintro e w' ⟨rfl, rfl⟩)
      go_roundw
      case rel =>
       refine ⟨j + 1, by omega, by go_num, fun x hx => ?_, HB.out.alloc ahU _⟩
       rw [jC.out] at hx
       rcases List.mem_append.1 hx with h | h
       ·exact ZF.out x h
       ·simp at h; rw [h]; exact q5
      case measure => simp [intOf]; omega
     ·have H5 : ∀ W : World, Calls Tryz.prog 59 #[.string e.nm] W fun e w' => e = .returned (.bool false) ∧ W = w' := fun W => by have := oz e.nm W hnl; rwa [decide_eq_false q5] at this
      go_wp2_with (go_at_call 59; refine (H5 _).mono ?_; rintro e w' ⟨rfl, rfl⟩)
      go_ret
      exact ⟨⟨6, rfl, by simp; intro h; exact q5 (h.nm e BD.out)⟩, BW.out.alloc ahU _⟩
    ·obtain rfl : j = aC.length := by omega
     have dl : decide ((aC.length : Int) < (aC.length : Int)) = false := by simp
     rw [List.take_length] at ZF
     obtain ⟨V2, rfl⟩ : ∃ V2 : World, V2 = wr := ⟨_, rfl⟩
     have z0 : V2.cell? ⟨w.heap.size, 0, none⟩ = some (.slice A n cap) := by rw [HB.out.cell (p := ⟨w.heap.size, 0, none⟩) s0]; exact y0
     have z1 : V2.cell? ⟨w.heap.size, 1, none⟩ = some (.slice EA aC.length dS) := by rw [HB.out.cell (p := ⟨w.heap.size, 1, none⟩) s0]; exact y1
     clear hlt
     go_upto_region 18 with fail
     go_loopw [8, 10, 67] (fun a8 a10 a67 wr => ∃ (j : Nat) (m : Int), j ≤ aC.length ∧ a67 = .int .i64 (j : Int) ∧ a8 = .int .i64 m ∧ dA 0 (aC.take j) m ∧ Below V0.heap.size V0 wr) (fun _ _ a67 _ => aC.length - (intOf a67).toNat)
     case atStart => exact ⟨0, 0, Nat.zero_le _, rfl, rfl, rfl, HB.out⟩
     case round =>
      obtain ⟨j, m, hj, rfl, rfl, hch, hb⟩ := hrel
      have Rn := aiU hch
      clear HB BW z0 z1
      have HB := aiU hb
      have BW := aiU (B0.out.trans (hb.mono ahU))
      have s1 := hb.size
      clear hch hb dl
      by_cases hlt : j < aC.length
      ·obtain ⟨e, b, off, he, rfl, hbl, c0, c1, c2, c3⟩ := MB.out.cells BW.out hlt
       have jC := aiU (bT he)
       have mZ := aiU (show ¬ (e.st = m ∧ e.st < e.en) → ∀ z, ¬ dA 0 aC z from fun hno z hz => by
        have e1 : aC = aC.take j ++ (e :: aC.drop (j + 1)) := by
         have := List.take_append_drop j aC
         rw [List.drop_eq_getElem_cons hlt] at this
         have e2 : aC[j] = e := by rw [List.getElem?_eq_getElem hlt] at he; exact Option.some.inj he
         rw [e2] at this
         exact this.symm
        rw [e1] at hz
        obtain ⟨m', h1, h2⟩ := dA.append.1 hz
        have := dA.LQ Rn.out h1
        exact hno ⟨by rw [this]; exact h2.1, h2.2.1⟩)
       have dl : decide ((j : Int) < (aC.length : Int)) = true := by simpa using hlt
       clear he
       by_cases q5 : e.st = m
       ·by_cases q6 : e.st < e.en
        ·have d5 : (e.st != m) = false := by simp [q5]
         have d6 : decide (e.en ≤ e.st) = false := by simp; omega
         have HQ := aiU (And.intro q5 q6)
         clear q5 q6
         go_wp2_with fail
         go_roundw
         case rel =>
          refine ⟨j + 1, e.en, by omega, by go_num, rfl, ?_, HB.out.alloc ahU _⟩
          rw [jC.out]
          exact Rn.out.snoc HQ.out.1 HQ.out.2
         case measure => simp [intOf]; omega
        ·have d5 : (e.st != m) = false := by simp [q5]
         have d6 : decide (e.en ≤ e.st) = true := by simp; omega
         have HQ := aiU (mZ.out (fun h => q6 h.2))
         clear q5 q6
         go_wp2_with fail
         go_ret
         exact ⟨⟨14, rfl, by simp; intro h; exact HQ.out _ h.ch⟩, BW.out.alloc ahU _⟩
       ·have d5 : (e.st != m) = true := by simp [q5]
        have HQ := aiU (mZ.out (fun h => q5 h.1))
        clear q5
        go_wp2_with fail
        go_ret
        exact ⟨⟨14, rfl, by simp; intro h; exact HQ.out _ h.ch⟩, BW.out.alloc ahU _⟩
      ·obtain rfl : j = aC.length := by omega
       have dl : decide ((aC.length : Int) < (aC.length : Int)) = false := by simp
       rw [List.take_length] at Rn
       obtain ⟨V3, rfl⟩ : ∃ V3 : World, V3 = wr := ⟨_, rfl⟩
       have z0 : V3.cell? ⟨w.heap.size, 0, none⟩ = some (.slice A n cap) := by rw [HB.out.cell (p := ⟨w.heap.size, 0, none⟩) s0]; exact y0
       have z1 : V3.cell? ⟨w.heap.size, 1, none⟩ = some (.slice EA aC.length dS) := by rw [HB.out.cell (p := ⟨w.heap.size, 1, none⟩) s0]; exact y1
       clear hlt
       by_cases q7 : m = (n : Int)
       ·have d7 : (m != (n : Int)) = false := by simp [q7]
        have zF := aiU (show dA 0 aC n by rw [← q7]; exact Rn.out)
        clear q7 Rn
        go_upto_region 27 with fail
        go_loopw [12, 13, 14, 93] (fun a12 a13 a14 a93 wr => ∃ j : Nat, j ≤ aC.length ∧ a93 = .int .i64 (j : Int) ∧ (∀ e ∈ aC.take j, ∀ k : Nat, e.st ≤ k → (k : Int) < e.en → qw cd lk e.st e.en k) ∧ Below V0.heap.size V0 wr) (fun _ _ _ a93 _ => aC.length - (intOf a93).toNat)
        case atStart => exact ⟨0, Nat.zero_le _, rfl, by simp, HB.out⟩
        case round =>
         obtain ⟨j, hj, rfl, hins, hb⟩ := hrel
         have uj := aiU hins
         clear HB BW z0 z1 d7
         have HB := aiU hb
         have BW := aiU (B0.out.trans (hb.mono ahU))
         have s1 := hb.size
         clear hins hb dl
         by_cases hlt : j < aC.length
         ·obtain ⟨e, b, off, he, rfl, hbl, c0, c1, c2, c3⟩ := MB.out.cells BW.out hlt
          have jC := aiU (bT he)
          have BD := aiU (List.mem_of_getElem? he)
          obtain ⟨g1, g2, g3⟩ := zF.out.bounds e BD.out
          have dl : decide ((j : Int) < (aC.length : Int)) = true := by simpa using hlt
          clear he
          go_upto_region 30 with fail
          obtain ⟨X, hX⟩ : ∃ X, wr.alloc (.cells #[.string e.nm, .int .i64 e.st, .int .i64 e.en, .int .i64 e.da] 75) = X := ⟨_, rfl⟩
          have bX : Below V0.heap.size V0 X := hX ▸ HB.out.alloc ahU _
          have kX : X.heap[wr.heap.size]? = some (.cells #[.string e.nm, .int .i64 e.st, .int .i64 e.en, .int .i64 e.da] 75) := hX ▸ heap_alloc_new _ _
          have sX : wr.heap.size < X.heap.size := by rw [← hX]; simp
          rw [hX]
          have BX := aiU bX
          have KX := aiU kX
          obtain ⟨q, hq⟩ : ∃ q, wr.heap.size = q := ⟨_, rfl⟩
          rw [hq] at KX sX s1 ⊢
          clear hX bX kX HB BW c0 c1 c2 c3 hq dl
          obtain ⟨p0, hp0⟩ : ∃ p0 : Nat, e.st = (p0 : Int) := ⟨e.st.toNat, by omega⟩
          have CP := aiU hp0
          clear hp0
          obtain ⟨wo, rfl⟩ : ∃ wo : World, wo = wr := ⟨_, rfl⟩
          go_loopw [13, 14] (fun a13 a14 wr => ∃ p : Nat, a13 = .int .i64 (p : Int) ∧ e.st ≤ (p : Int) ∧ (p : Int) ≤ e.en ∧ (∀ k : Nat, e.st ≤ k → k < p → qw cd lk e.st e.en k) ∧ Below X.heap.size X wr) (fun a13 _ _ => (e.en - intOf a13).toNat)
          case atStart => exact ⟨p0, by rw [CP.out], by have := CP.out; omega, by have := CP.out; omega, fun k h1 h2 => by have := CP.out; omega, Below.refl _ _⟩
          case round =>
           obtain ⟨p, rfl, hp1, hp2, hok, hb⟩ := hrel
           have pQ := aiU hok
           have lH := aiU hb
           have vt := aiU (BX.out.trans (hb.mono ahU))
           have BW := aiU (B0.out.trans (vt.out.mono ahU))
           have s2 := hb.size
           have v0 : wr.cell? ⟨q, 0, none⟩ = some (.string e.nm) := by rw [hb.cell (p := ⟨q, 0, none⟩) sX]; simp [World.cell?, KX.out]
           have v1 : wr.cell? ⟨q, 1, none⟩ = some (.int .i64 e.st) := by rw [hb.cell (p := ⟨q, 1, none⟩) sX]; simp [World.cell?, KX.out]
           have v2 : wr.cell? ⟨q, 2, none⟩ = some (.int .i64 e.en) := by rw [hb.cell (p := ⟨q, 2, none⟩) sX]; simp [World.cell?, KX.out]
           have v3 : wr.cell? ⟨q, 3, none⟩ = some (.int .i64 e.da) := by rw [hb.cell (p := ⟨q, 3, none⟩) sX]; simp [World.cell?, KX.out]
           have z0 : wr.cell? ⟨w.heap.size, 0, none⟩ = some (.slice A n cap) := by rw [vt.out.cell (p := ⟨w.heap.size, 0, none⟩) s0]; exact y0
           have z1 : wr.cell? ⟨w.heap.size, 1, none⟩ = some (.slice (some ⟨b, off, none⟩) aC.length dS) := by rw [vt.out.cell (p := ⟨w.heap.size, 1, none⟩) s0]; exact y1
           have z2 : wr.cell? ⟨w.heap.size, 2, none⟩ = some (.int .i64 sh) := by rw [vt.out.cell (p := ⟨w.heap.size, 2, none⟩) s0]; exact y2
           have z3 : wr.cell? ⟨w.heap.size, 3, none⟩ = some (.int .i64 lk) := by rw [vt.out.cell (p := ⟨w.heap.size, 3, none⟩) s0]; exact y3
           clear hok hb
           by_cases hpe : (p : Int) < e.en
           ·have dp : decide ((p : Int) < e.en) = true := decide_eq_true hpe
            have WS := aiU (sJ (.slice A n cap) (.slice (some ⟨b, off, none⟩) aC.length dS) sh lk e.nm e.st e.en e.da n cd p ahU wr (HT.out.below BW.out) (Ke.out.below BW.out))
            go_wp2_with (go_at_call 60; refine WS.out.mono ?_; rintro e' W5 ⟨⟨r, rfl, hr⟩, hb5⟩)
            ·rename_i hne
             have hr0 : ¬ (r = 0) := by simpa using hne
             go_ret
             exact ⟨⟨r, rfl, by simp only [hr0, false_iff]; intro h; exact hr0 (hr.2 (h.ins e BD.out p ahU hpe))⟩, BW.out.trans (hb5.mono (by have := BW.out.size; omega))⟩
            ·rename_i hne
             have hr0 : r = 0 := by simpa using hne
             go_roundw
             case rel =>
              refine ⟨p + 1, by go_num, by omega, by omega, fun k h1 h2 => ?_, lH.out.trans (hb5.mono ahU)⟩
              by_cases hkp : k = p
              ·rw [hkp]; exact hr.1 hr0
              ·exact pQ.out k h1 ahU
             case measure => simp [intOf]; omega
           ·have dp : decide ((p : Int) < e.en) = false := decide_eq_false hpe
            go_wp2_with fail
            go_roundw
            case rel =>
             refine ⟨j + 1, by omega, by go_num, fun x hx k h1 h2 => ?_, vt.out⟩
             rw [jC.out] at hx
             rcases List.mem_append.1 hx with h | h
             ·exact uj.out x h k h1 h2
             ·simp at h
              subst h
              exact pQ.out k h1 ahU
            case measure => simp [intOf]; omega
         ·obtain rfl : j = aC.length := by omega
          have dl : decide ((aC.length : Int) < (aC.length : Int)) = false := by simp
          rw [List.take_length] at uj
          go_wp2_with fail
          go_ret
          exact ⟨⟨0, rfl, by simp; exact ⟨q1, q2, q3, q4, Z4.out, ZF.out, zF.out, uj.out⟩⟩, BW.out⟩
       ·have d7 : (m != (n : Int)) = true := by simp [q7]
        go_wp2_with fail
        go_ret
        exact ⟨⟨14, rfl, by simp; intro h; exact q7 (dA.LQ Rn.out h.ch)⟩, BW.out⟩
theorem Ek (v : Value) (l : List Int) (x : Int) (w : World) (H : Ints w v l) :
  Calls Tryz.prog 63 #[v, .int .i64 x] w fun e w' => (∃ r : Int, e = .returned (.int .i64 r) ∧ (0 ≤ r ↔ x ∈ l)) ∧ w = w' := by
 obtain ⟨A, cap, rfl, h2, h3, h4⟩ := H
 have HC := aiU h4
 unfold maxLen at h3
 clear h4
 go_enter Tryz.func63, Tryz.ntmps63
 go_upto_region 2 with fail
 go_loopw [5, 8] (fun a5 a8 wr => ∃ j : Nat, j ≤ l.length ∧ a8 = .int .i64 (j : Int) ∧ x ∉ l.take j ∧ wr = w) (fun _ a8 _ => l.length - (intOf a8).toNat)
 case atStart => exact ⟨0, Nat.zero_le _, rfl, by simp, rfl⟩
 case round =>
  obtain ⟨j, hj, rfl, hno, hw⟩ := hrel
  subst hw
  have mZ := aiU hno
  clear hno
  by_cases hlt : j < l.length
  ·obtain ⟨b, off, rfl, hb, hc⟩ := HC.out ahU
   obtain ⟨s, hs⟩ : ∃ s, l[j] = s := ⟨_, rfl⟩
   have x1 : wr.cell? ⟨b, off + j, none⟩ = some (.int .i64 s) := by rw [hc j hlt, ← hs]; simp [List.getD, List.getElem?_eq_getElem hlt]
   have HS := aiU (show l[j]? = some s by rw [List.getElem?_eq_getElem hlt, hs])
   have dl : decide ((j : Int) < (l.length : Int)) = true := by simpa using hlt
   clear hc hs
   by_cases q : x = s
   ·have d : (x == s) = true := by simp [q]
    have HM := aiU (show x ∈ l by rw [q]; exact List.mem_of_getElem? HS.out)
    clear q
    go_wp2_with fail
    go_ret
    exact ⟨⟨(j : Int), rfl, by simp [HM.out]⟩, rfl⟩
   ·have d : (x == s) = false := by simp [q]
    have HQ := aiU q
    clear q
    go_wp2_with fail
    go_roundw
    case rel =>
     refine ⟨j + 1, by omega, by go_num, ?_, by first | rfl | trivial⟩
     rw [bT HS.out]
     intro h
     rcases List.mem_append.1 h with h | h
     ·exact mZ.out h
     ·simp at h; exact HQ.out h
    case measure => simp [intOf]; omega
  ·obtain rfl : j = l.length := by omega
   have dl : decide ((l.length : Int) < (l.length : Int)) = false := by simp
   rw [List.take_length] at mZ
   go_wp2_with fail
   go_ret
   exact ⟨⟨-1, rfl, by simp; exact mZ.out⟩, rfl⟩
theorem tX (v : Value) (l : List Int) (x : Int) (w : World) (H : Ints w v l) :
  Calls Tryz.prog 34 #[v, .int .i64 x] w fun e w' => e = .returned (.bool (decide (x ∈ l))) ∧ w = w' := by
 have HI := Ek v l x w H
 go_enter Tryz.func34, Tryz.ntmps34
 go_wp2_with (go_at_call 63; refine HI.mono ?_; rintro e w' ⟨⟨r, rfl, hr⟩, rfl⟩)
 go_ret
 refine ⟨aW ?_, rfl⟩
 first | rfl | exact decide_eq_decide.2 hr
section
variable (c : Int → Ins) (st : Int) (D : List Int)
def nB (x : Int) : Bool := decide (x = st) || D.any (fun a => decide (x ∈ dw (c a) a))
theorem gF (x : Int) : nB c st D x = true ↔ tE c st D x := by
 unfold nB tE
 simp
def iQ (L : List (Int × Int)) (t : Int) : List (Int × Int) := match L.reverse with | [] => [] | (a, _) :: r => (r.reverse) ++ [(a, t)]
def blk : Nat → List (Int × Int)
 | 0 => []
 | m + 1 => if st + m ∈ D then (if nB c st D (st + m) = true then blk m ++ [(st + m, st + m + 1)] else iQ (blk m) (st + m + 1)) else blk m
end
theorem fN (L : List (Int × Int)) (a b t : Int) : iQ (L ++ [(a, b)]) t = L ++ [(a, t)] := by simp [iQ]
theorem oU (L : List (Int × Int)) (h : L ≠ []) : ∃ M a b, L = M ++ [(a, b)] := by
 rcases ni L with h' | ⟨t, p, h'⟩
 ·exact absurd h' h
 ·exact ⟨t, p.1, p.2, h'⟩
structure Vr (c : Int → Ins) (st : Int) (D : List Int) (m : Nat) (L : List (Int × Int)) : Prop where
 lo : ∀ p ∈ L, st ≤ p.1 ∧ p.1 < p.2 ∧ p.2 ≤ st + m
 vK : L.Pairwise (fun p q => p.2 ≤ q.1)
 last : ∀ p ∈ L, p.2 - 1 ∈ D
 lead : ∀ p ∈ L, p.1 ∈ D ∧ nB c st D p.1 = true
 cl : ∀ p ∈ L, p.2 < st + m → p.2 ∈ D → nB c st D p.2 = true
 num : ∀ x, st ≤ x → x < st + m → x ∈ D → nB c st D x = true → ∃ p ∈ L, p.1 = x
 ne : st ∈ D → 0 < m → L ≠ []
theorem Ag (c : Int → Ins) (st : Int) (D : List Int) : nB c st D st = true := by simp [nB]
theorem mE (c : Int → Ins) (st : Int) (D : List Int) : ∀ m, Vr c st D m (blk c st D m)
 | 0 => ⟨by simp [blk], by simp [blk], by simp [blk], by simp [blk], by simp [blk], fun x h1 h2 => by omega, fun _ h => by omega⟩
 | m + 1 => by
  have h := mE c st D m
  unfold blk
  by_cases hD : st + (m : Int) ∈ D
  ·rw [if_pos hD]
   by_cases hl : nB c st D (st + m) = true
   ·rw [if_pos hl]
    refine ⟨fun p hp => ?_, ?_, fun p hp => ?_, fun p hp => ?_, fun p hp h1 h2 => ?_, fun x h1 h2 h3 h4 => ?_, fun _ _ => by simp⟩
    ·rcases List.mem_append.1 hp with hp | hp
     ·have := h.lo p hp; omega
     ·simp at hp; subst hp; simp; omega
    ·rw [List.pairwise_append]
     refine ⟨h.vK, by simp, fun p hp q hq => ?_⟩
     simp at hq
     subst hq
     have := h.lo p hp
     simp; omega
    ·rcases List.mem_append.1 hp with hp | hp
     ·exact h.last p hp
     ·simp at hp; subst hp; simp only; rw [show st + (m : Int) + 1 - 1 = st + m by omega]; exact hD
    ·rcases List.mem_append.1 hp with hp | hp
     ·exact h.lead p hp
     ·simp at hp; subst hp; exact ⟨hD, hl⟩
    ·rcases List.mem_append.1 hp with hp | hp
     ·by_cases e : p.2 = st + m
      ·rw [e]; exact hl
      ·exact h.cl p hp ahU h2
     ·simp at hp; subst hp; simp at h1; omega
    ·by_cases e : x = st + m
     ·exact ⟨(st + m, st + m + 1), by simp, e.symm⟩
     ·obtain ⟨p, hp, e⟩ := h.num x h1 ahU h3 h4
      exact ⟨p, by simp [hp], e⟩
   ·rw [if_neg hl]
    have hm : 0 < m := by
     rcases Nat.eq_zero_or_pos m with e | e
     ·subst e
      exact absurd (by simpa using Ag c st D) hl
     ·exact e
    by_cases hE : blk c st D m = []
    ·rw [hE] at h ⊢
     refine ⟨by simp [iQ], by simp [iQ], by simp [iQ], by simp [iQ], by simp [iQ], fun x h1 h2 h3 h4 => ?_, fun h1 h2 => absurd rfl (h.ne h1 hm)⟩
     by_cases e : x = st + m
     ·rw [e] at h4; exact absurd h4 hl
     ·obtain ⟨p, hp, _⟩ := h.num x h1 ahU h3 h4
      cases hp
    ·obtain ⟨M, a, b, hL⟩ := oU _ hE
     rw [hL, fN]
     rw [hL] at h
     have hab := h.lo (a, b) ahZ
     simp only at hab
     have vU := h.vK
     rw [List.pairwise_append] at vU
     refine ⟨fun p hp => ?_, ?_, fun p hp => ?_, fun p hp => ?_, fun p hp h1 h2 => ?_, fun x h1 h2 h3 h4 => ?_, fun _ _ => by simp⟩
     ·rcases List.mem_append.1 hp with hp | hp
      ·have := h.lo p (by simp [hp]); omega
      ·simp at hp; subst hp; simp only; omega
     ·rw [List.pairwise_append]
      refine ⟨vU.1, by simp, fun p hp q hq => ?_⟩
      simp at hq
      subst hq
      exact vU.2.2 p hp (a, b) ahZ
     ·rcases List.mem_append.1 hp with hp | hp
      ·exact h.last p (by simp [hp])
      ·simp at hp; subst hp; simp only; rw [show st + (m : Int) + 1 - 1 = st + m by omega]; exact hD
     ·rcases List.mem_append.1 hp with hp | hp
      ·exact h.lead p (by simp [hp])
      ·simp at hp; subst hp; exact h.lead (a, b) ahZ
     ·rcases List.mem_append.1 hp with hp | hp
      ·have := vU.2.2 p hp (a, b) ahZ
       simp only at this
       exact h.cl p (by simp [hp]) ahU h2
      ·simp at hp; subst hp; simp at h1; omega
     ·by_cases e : x = st + m
      ·rw [e] at h4; exact absurd h4 hl
      ·obtain ⟨p, hp, e⟩ := h.num x h1 ahU h3 h4
       rcases List.mem_append.1 hp with hp | hp
       ·exact ⟨p, by simp [hp], e⟩
       ·simp at hp; subst hp; exact ⟨(a, st + m + 1), by simp, e⟩
  ·rw [if_neg hD]
   refine ⟨fun p hp => ?_, h.vK, h.last, h.lead, fun p hp h1 h2 => ?_, fun x h1 h2 h3 h4 => ?_, fun h1 h2 => ?_⟩
   ·have := h.lo p hp; omega
   ·by_cases e : p.2 = st + m
    ·rw [e] at h2; exact absurd h2 hD
    ·exact h.cl p hp ahU h2
   ·by_cases e : x = st + m
    ·rw [e] at h3; exact absurd h3 hD
    ·exact h.num x h1 ahU h3 h4
   ·rcases Nat.eq_zero_or_pos m with e | e
    ·subst e
     exact absurd (by simpa using h1) hD
    ·exact h.ne h1 e
theorem wK (c : Int → Ins) (st : Int) (D : List Int) : ∀ m, (blk c st D m).length ≤ m
 | 0 => by simp [blk]
 | m + 1 => by
  have h := wK c st D m
  unfold blk
  split
  ·split
   ·simp; omega
   ·by_cases hE : blk c st D m = []
    ·rw [hE]; simp [iQ]
    ·obtain ⟨M, a, b, hL⟩ := oU _ hE
     rw [hL] at h ⊢
     rw [fN]
     simp at h ⊢; omega
  ·omega
def Cb (L : List (Int × Int)) : Int → Option Value := fun x => (L.findIdx? (fun p => p.1 == x)).map (fun i => .int .i64 (i : Int))
theorem KL : Cb [] = fun _ => none := by funext x; simp [Cb]
theorem KJ (L : List (Int × Int)) (a b t : Int) : Cb (L ++ [(a, b)]) = Cb (L ++ [(a, t)]) := by
 funext x
 unfold Cb
 simp [List.findIdx?_append]
theorem Gv (L : List (Int × Int)) (a b : Int) (h : ∀ p ∈ L, p.1 ≠ a) : fZ (Cb L) a (.int .i64 (L.length : Int)) = Cb (L ++ [(a, b)]) := by
 funext x
 unfold fZ Cb
 rw [List.findIdx?_append]
 by_cases e : x = a
 ·subst e
  have : L.findIdx? (fun p => p.1 == x) = none := by
   rw [List.findIdx?_eq_none_iff]
   intro p hp
   simpa using h p hp
  rw [if_pos rfl, this]
  simp
 ·rw [if_neg e]
  have : ([(a, b)] : List (Int × Int)).findIdx? (fun p => p.1 == x) = none := by
   simp
   exact fun h => e h.symm
  rw [this]
  simp
def idx (L : List (Int × Int)) (x : Int) : Nat := (L.findIdx? (fun p => p.1 == x)).getD 0
theorem rT {L : List (Int × Int)} {x : Int} (h : ∃ p ∈ L, p.1 = x) : Cb L x = some (.int .i64 (idx L x : Int)) ∧ idx L x < L.length ∧ (L.getD (idx L x) (0, 0)).1 = x := by
 obtain ⟨p, hp, e⟩ := h
 have hs : (L.findIdx? (fun p => p.1 == x)).isSome := by
  rw [List.findIdx?_isSome]
  simp only [List.any_eq_true]
  exact ⟨p, hp, by simp [e]⟩
 obtain ⟨i, hi⟩ := Option.isSome_iff_exists.1 hs
 have h2 := List.findIdx?_eq_some_iff_getElem.1 hi
 obtain ⟨h3, h4, _⟩ := h2
 unfold Cb idx
 rw [hi]
 refine ⟨rfl, h3, ?_⟩
 simp only [Option.getD_some, List.getD_eq_getElem?_getD, List.getElem?_eq_getElem h3]
 simpa using h4
theorem cV {w : World} {B B' : Nat} {e e' : TypeId} {s s' n n' : Nat} {v v' : Value} {xs xs' : List Value} (h : w.ownsRow B e s v n xs) (h' : w.ownsRow B' e' s' v' n' xs') (hne : e ≠ e') (q : Nat) (hq : v.ownBlock = some q) : v'.ownBlock ≠ some q := by
 intro hq'
 rcases h.2 with ⟨rfl, _⟩ | ⟨g, cap, cur, rfl, _, hg, _⟩
 ·cases hq
 ·rcases h'.2 with ⟨rfl, _⟩ | ⟨g', cap', cur', rfl, _, hg', _⟩
  ·cases hq'
  ·simp [Value.ownBlock] at hq hq'
   subst hq hq'
   rw [hg] at hg'
   cases hg'
   exact hne rfl
theorem grown_of {w w2 W' : World} {row : Option Nat} (hb : Below w.heap.size w w2) (hg : w2.grownBy W' row) : w.grownBy W' row :=
 ⟨hg.os.trans hb.os, hg.tape.trans hb.tape, hg.output.trans hb.output, Nat.le_trans hb.size hg.size, fun k hk hne => (hg.block k (by have := hb.size; omega) hne).trans (hb.block k hk)⟩
theorem aQ (w : World) (g o : Nat) (u : Value) : w.grownBy (w.setCell ⟨g, o, none⟩ u) (some g) :=
 ⟨rfl, rfl, rfl, by simp, fun k _ hne => Below.heap_setCell _ _ _ _ (fun e => hne (by rw [e]))⟩
def upd {α : Type} (f : Nat → α) (i : Nat) (x : α) : Nat → α := fun j => if j = i then x else f j
def l8 (L : List (Int × Int)) (val : Nat → Value) : List Value := (List.range L.length).flatMap fun i => [.int .i64 (L.getD i (0, 0)).1, .int .i64 (L.getD i (0, 0)).2, val i]
theorem yH {f : Nat → List Value} (hf : ∀ i, (f i).length = 3) : ∀ (n i j : Nat), i < n → j < 3 → ((List.range n).flatMap f)[i * 3 + j]? = (f i)[j]?
 | n + 1, i, j, hi, hj => by
  rw [List.range_succ, List.flatMap_append]
  have hl : ((List.range n).flatMap f).length = n * 3 := by
   clear hi
   induction n with
   | zero => rfl
   | succ n ih => rw [List.range_succ, List.flatMap_append, List.length_append, ih]; simp [hf]; omega
  by_cases e : i < n
  ·rw [List.getElem?_append_left ahU]
   exact yH hf n i j e hj
  ·obtain rfl : i = n := by omega
   rw [List.getElem?_append_right ahU, hl]
   simp
theorem Ey {f : Nat → List Value} (hf : ∀ i, (f i).length = 3) (n : Nat) : ((List.range n).flatMap f).length = n * 3 := by
 induction n with
 | zero => rfl
 | succ n ih => rw [List.range_succ, List.flatMap_append, List.length_append, ih]; simp [hf]; omega
theorem mC (L : List (Int × Int)) (val : Nat → Value) : (l8 L val).length = L.length * 3 := Ey (fun _ => rfl) _
theorem gQ (L : List (Int × Int)) (val : Nat → Value) {i j : Nat} (hi : i < L.length) (hj : j < 3) : (l8 L val)[i * 3 + j]? = [.int .i64 (L.getD i (0, 0)).1, .int .i64 (L.getD i (0, 0)).2, val i][j]? := yH (f := fun i => [.int .i64 (L.getD i (0, 0)).1, .int .i64 (L.getD i (0, 0)).2, val i]) (fun _ => rfl) _ _ _ hi hj
theorem Ev (L : List (Int × Int)) (val : Nat → Value) {i : Nat} (hi : i < L.length) (v : Value) : (l8 L val).set (i * 3 + 2) v = l8 L (upd val i v) := by
 apply List.ext_getElem?
 intro q
 by_cases hq : q < L.length * 3
 ·obtain ⟨a, b, hb, rfl⟩ : ∃ a b, b < 3 ∧ q = a * 3 + b := ⟨q / 3, q % 3, Nat.mod_lt _ ahU, by omega⟩
  have ha : a < L.length := by omega
  rw [List.getElem?_set, mC, gQ L _ ha hb, gQ L _ ha hb]
  by_cases e : i * 3 + 2 = a * 3 + b
  ·obtain rfl : a = i := by omega
   obtain rfl : b = 2 := by omega
   rw [if_pos rfl, if_pos ahU]
   simp [upd]
  ·rw [if_neg e]
   obtain rfl | rfl | rfl : b = 0 ∨ b = 1 ∨ b = 2 := by omega
   ·rfl
   ·rfl
   ·have : a ≠ i := by omega
    simp [upd, this]
 ·rw [List.getElem?_eq_none (by rw [List.length_set, mC]; omega), List.getElem?_eq_none (by rw [mC]; omega)]
theorem zS (n : Nat) (val : Nat → Value) {p : Nat} (hp : p < n) (v : Value) : ((List.range n).map fun i => val (n + i)).set p v = (List.range n).map fun i => upd val (n + p) v (n + i) := by
 apply List.ext_getElem?
 intro q
 rw [List.getElem?_set]
 simp only [List.length_map, List.length_range, List.getElem?_map]
 by_cases e : p = q
 ·subst e
  rw [if_pos rfl, if_pos hp, List.getElem?_range hp]
  simp [upd]
 ·rw [if_neg e]
  by_cases hq : q < n
  ·rw [List.getElem?_range hq]
   simp [upd]
   intro h; omega
  ·rw [List.getElem?_eq_none (by simpa using hq)]
   rfl
structure BN (V wr : World) (gb nb g aY pg : Nat) (L : List (Int × Int)) (val : Nat → Value) (dM : Nat → List Int) : Prop where
 gV : gb < V.heap.size
 nV : nb < V.heap.size
 gn : gb ≠ nb
 os : wr.os = V.os
 tape : wr.tape = V.tape
 output : wr.output = V.output
 sz : V.heap.size ≤ wr.heap.size
 blk : ∀ k, k < V.heap.size → k ≠ gb → k ≠ nb → wr.heap[k]? = V.heap[k]?
 gg : wr.heap[gb]? = some (.cells #[.slice (some ⟨g, 0, none⟩) L.length aY, .slice (some ⟨pg, 0, none⟩) L.length L.length] 31 (0, 0))
 num : Im wr nb (Cb L)
 qB : wr.ownsRow V.heap.size 78 3 (.slice (some ⟨g, 0, none⟩) L.length aY) L.length (l8 L val)
 cH : wr.ownsRow V.heap.size 38 1 (.slice (some ⟨pg, 0, none⟩) L.length L.length) L.length ((List.range L.length).map fun i => val (L.length + i))
 own : ∀ i, i < 2 * L.length → wr.ownsRow V.heap.size 3 1 (val i) (dM i).length (dU (dM i))
 qi : ∀ i j, i < 2 * L.length → j < 2 * L.length → i ≠ j → ∀ q, (val i).ownBlock = some q → (val j).ownBlock ≠ some q
section
variable {V wr : World} {gb nb g aY pg : Nat} {L : List (Int × Int)} {val : Nat → Value} {dM : Nat → List Int}
theorem BN.below {wr' : World} (h : BN V wr gb nb g aY pg L val dM) (hb : Below wr.heap.size wr wr') : BN V wr' gb nb g aY pg L val dM :=
 ⟨h.gV, h.nV, h.gn, hb.os.trans h.os, hb.tape.trans h.tape, hb.output.trans h.output, Nat.le_trans h.sz hb.size, fun k h1 h2 h3 => (hb.block k (by have := h.sz; omega)).trans (h.blk k h1 h2 h3), (hb.block _ (by have := h.sz; have := h.gV; omega)).trans h.gg, h.num.below hb h.num.lt, ak h.qB hb, ak h.cH hb, fun i hi => ak (h.own i hi) hb, h.qi⟩
theorem BN.im (h : BN V wr gb nb g aY pg L val dM) {x : Nat} {f : Int → Option Value} (hx : Im V x f) (h1 : x ≠ gb) (h2 : x ≠ nb) : Im wr x f := hx.keep (h.blk x hx.lt h1 h2)
theorem BN.rg (h : BN V wr gb nb g aY pg L val dM) : (V.heap.size ≤ g ∧ g < wr.heap.size) ∧ (V.heap.size ≤ pg ∧ pg < wr.heap.size) ∧ g ≠ pg :=
 ⟨h.qB.lt g rfl, h.cH.lt pg rfl, fun e => cV h.qB h.cH ahW g rfl ain⟩
theorem BN.app {w2 W' : World} {i x : Nat} {y : Int} {v' : Value} (h : BN V wr gb nb g aY pg L val dM) (hi : i < 2 * L.length) (hb : Below wr.heap.size wr w2) (hg : w2.grownBy W' (val i).ownBlock)
  (hown : W'.ownsRow V.heap.size 3 1 v' ((dM i).length + 1) (dU (dM i ++ [y]))) (j6 : v'.ownBlock = (val i).ownBlock ∨ v'.ownBlock = some w2.heap.size) (r o : Nat) (hr : (i < L.length ∧ r = g ∧ o = i * 3 + 2) ∨ (L.length ≤ i ∧ r = pg ∧ o = i - L.length)) :
  BN V (W'.setCell ⟨r, o, none⟩ v') gb nb g aY pg L (upd val i v') (upd dM i (dM i ++ [y])) := by
 have G := grown_of hb hg
 have S := aQ W' r o v'
 obtain ⟨⟨g1, g2⟩, ⟨p1, p2⟩, gp⟩ := h.rg
 have Nc := h.gV
 have Hx := h.nV
 have hsz := h.sz
 have wY := G.size
 have oi := h.own i hi
 have ob : ∀ q, (val i).ownBlock = some q → V.heap.size ≤ q ∧ q ≠ g ∧ q ≠ pg := fun q hq => ⟨(oi.lt q hq).1, fun e => cV oi h.qB ahW q hq ain, fun e => cV oi h.cH ahW q hq ain⟩
 have rV : V.heap.size ≤ r ∧ (r = g ∨ r = pg) := by rcases hr with ⟨_, rfl, _⟩ | ⟨_, rfl, _⟩; exact ⟨g1, .inl rfl⟩; exact ⟨p1, .inr rfl⟩
 have small : ∀ k, k < V.heap.size → (W'.setCell ⟨r, o, none⟩ v').heap[k]? = wr.heap[k]? := fun k hk => by
  rw [Below.heap_setCell _ _ _ _ (by show k ≠ r; omega)]
  exact G.block k ahU (fun e => by have := (ob k e.symm).1; omega)
 have tR : ∀ q, v'.ownBlock = some q → q ≠ r ∧ V.heap.size ≤ q := fun q hq => by
  have h1 := (hown.lt q hq).1
  refine ⟨fun e => ?_, h1⟩
  have : W'.ownsRow V.heap.size 78 3 (.slice (some ⟨g, 0, none⟩) L.length aY) L.length (l8 L val) := h.qB.kept G (.inr (fun e' => (ob g e'.symm).2.1 rfl))
  have h2 : W'.ownsRow V.heap.size 38 1 (.slice (some ⟨pg, 0, none⟩) L.length L.length) L.length ((List.range L.length).map fun i => val (L.length + i)) := h.cH.kept G (.inr (fun e' => (ob pg e'.symm).2.2 rfl))
  rcases rV.2 with e2 | e2
  ·exact cV hown this ahW q hq (by rw [e, e2]; rfl)
  ·exact cV hown h2 ahW q hq (by rw [e, e2]; rfl)
 have b' : W'.ownsRow V.heap.size 78 3 (.slice (some ⟨g, 0, none⟩) L.length aY) L.length (l8 L val) := h.qB.kept G (.inr (fun e' => (ob g e'.symm).2.1 rfl))
 have p' : W'.ownsRow V.heap.size 38 1 (.slice (some ⟨pg, 0, none⟩) L.length L.length) L.length ((List.range L.length).map fun i => val (L.length + i)) := h.cH.kept G (.inr (fun e' => (ob pg e'.symm).2.2 rfl))
 have h2V : V.heap.size ≤ W'.heap.size := by omega
 refine ⟨h.gV, h.nV, h.gn, G.os.trans h.os, G.tape.trans h.tape, G.output.trans h.output, by simpa using h2V, fun k h1 h2 h3 => (small k h1).trans (h.blk k h1 h2 h3), (small gb Nc).trans h.gg, h.num.keep (small nb Hx), ?_, ?_, fun j hj => ?_, fun a c ha hc hac q hq => ?_⟩
 ·rcases hr with ⟨hl, rfl, rfl⟩ | ⟨hl, rfl, rfl⟩
  ·rw [← Ev L val hl v']
   exact (b'.stored (i * 3 + 2) v').1
  ·have e : l8 L (upd val i v') = l8 L val := by
    unfold l8
    rw [List.flatMap_def, List.flatMap_def]
    congr 1
    apply List.map_congr_left
    intro a ha
    have : a ≠ i := by have := List.mem_range.1 ha; omega
    simp [upd, this]
   rw [e]
   exact b'.kept S (.inr (by simp [Value.ownBlock]; exact gp))
 ·rcases hr with ⟨hl, rfl, rfl⟩ | ⟨hl, rfl, rfl⟩
  ·have e : ((List.range L.length).map fun a => upd val i v' (L.length + a)) = (List.range L.length).map fun a => val (L.length + a) := by
    apply List.map_congr_left
    intro a ha
    have : L.length + a ≠ i := by omega
    simp [upd, this]
   rw [e]
   exact p'.kept S (.inr (by simp [Value.ownBlock]; exact Ne.symm gp))
  ·have e : upd val i v' = upd val (L.length + (i - L.length)) v' := by rw [show L.length + (i - L.length) = i by omega]
   rw [e, ← zS L.length val ahU v']
   exact (p'.stored (i - L.length) v').1
 ·unfold upd
  by_cases e : j = i
  ·subst e
   rw [if_pos rfl, if_pos rfl]
   rw [show (dM j ++ [y]).length = (dM j).length + 1 by simp]
   exact hown.kept S (by
    cases hv : v'.ownBlock with
    | none => exact .inl rfl
    | some q => exact .inr (fun e' => (tR q hv).1 aiP))
  ·rw [if_neg e, if_neg e]
   refine ((h.own j hj).kept G ?_).kept S ?_
   ·cases hv : (val j).ownBlock with
    | none => exact .inl rfl
    | some q => exact .inr (fun e' => h.qi i j hi hj (fun e2 => e e2.symm) q e'.symm hv)
   ·cases hv : (val j).ownBlock with
    | none => exact .inl rfl
    | some q =>
     refine .inr (fun e' => ?_)
     have M4 : q = r := by simpa using e'
     rcases rV.2 with e2 | e2
     ·exact cV (h.own j hj) h.qB ahW q hv (by rw [M4, e2]; rfl)
     ·exact cV (h.own j hj) h.cH ahW q hv (by rw [M4, e2]; rfl)
 ·have new : ∀ a, a < 2 * L.length → a ≠ i → ∀ q, v'.ownBlock = some q → (val a).ownBlock ≠ some q := fun a ha hai q hq hq2 => by
   rcases j6 with h1 | h1
   ·rw [h1] at hq
    exact h.qi i a hi ha (fun e => hai e.symm) q hq hq2
   ·rw [h1] at hq
    cases hq
    have := ((h.own a ha).lt _ hq2).2
    have := hb.size
    omega
  unfold upd at hq ⊢
  by_cases e1 : a = i
  ·rw [if_pos e1] at hq
   rw [if_neg (fun e => hac (e1.trans e.symm))]
   exact new c hc (fun e => hac (e1.trans e.symm)) q hq
  ·rw [if_neg e1] at hq
   by_cases e2 : c = i
   ·rw [if_pos e2]
    exact fun hq2 => new a ha e1 q hq2 hq
   ·rw [if_neg e2]
    exact h.qi a c ha hc hac q hq
end
def mM (l : List Int) (x : Int) : List Int := if x ∈ l then l else l ++ [x]
def rQ (L : List (Int × Int)) (S : List Int) : List Int := S.foldl (fun l s => mM l (idx L s : Int)) []
def gy (L : List (Int × Int)) (k : Nat) : Int := (L.getD k (0, 0)).2 - 1
def dD (c : Int → Ins) (L : List (Int × Int)) (k : Nat) : List Int := rQ L (bL (c (gy L k)) (gy L k))
def jY (c : Int → Ins) (L : List (Int × Int)) (k p : Nat) : List Int := ((List.range k).filter (fun b => decide ((p : Int) ∈ dD c L b))).map (fun (b : Nat) => (b : Int))
def dV (c : Int → Ins) (L : List (Int × Int)) (k : Nat) (l : List Int) : Nat → List Int := fun i =>
 if i < L.length then (if i < k then dD c L i else if i = k then l else []) else jY c L k (i - L.length) ++ if ((i - L.length : Nat) : Int) ∈ l then [(k : Int)] else []
theorem Ad (c : Int → Ins) (L : List (Int × Int)) : dV c L 0 [] = fun _ => [] := by
 funext i
 unfold dV jY
 split
 ·simp
 ·simp
theorem Ae (c : Int → Ins) (L : List (Int × Int)) (k : Nat) : dV c L k (dD c L k) = dV c L (k + 1) [] := by
 funext i
 unfold dV
 by_cases h : i < L.length
 ·rw [if_pos h, if_pos h]
  by_cases h1 : i < k
  ·rw [if_pos h1, if_pos ahU]
  ·rw [if_neg h1]
   by_cases h2 : i = k
   ·rw [if_pos h2, if_pos ahU, h2]
   ·rw [if_neg h2, if_neg ahU]
    split <;> rfl
 ·rw [if_neg h, if_neg h]
  unfold jY
  rw [List.range_succ, List.filter_append, List.map_append]
  by_cases h3 : ((i - L.length : Nat) : Int) ∈ dD c L k
  ·simp [h3]
  ·simp [h3]
theorem D7 (c : Int → Ins) (L : List (Int × Int)) (k p : Nat) (l : List Int) (hk : k < L.length) (hp : p < L.length) (hx : (p : Int) ∉ l) : dV c L k (l ++ [(p : Int)]) = upd (upd (dV c L k l) k (l ++ [(p : Int)])) (L.length + p) (dV c L k l (L.length + p) ++ [(k : Int)]) := by
 funext i
 unfold upd
 by_cases h1 : i = L.length + p
 ·subst h1
  rw [if_pos rfl]
  unfold dV
  have e : ¬ (L.length + p < L.length) := by omega
  have e2 : L.length + p - L.length = p := by omega
  simp [e, e2, hx]
 ·rw [if_neg h1]
  by_cases h2 : i = k
  ·subst h2
   rw [if_pos rfl]
   unfold dV
   rw [if_pos hk, if_neg ahU, if_pos rfl]
  ·rw [if_neg h2]
   unfold dV
   by_cases h : i < L.length
   ·rw [if_pos h, if_pos h, if_neg h2, if_neg h2]
   ·rw [if_neg h, if_neg h]
    congr 1
    have : ((i - L.length : Nat) : Int) ≠ (p : Int) := by omega
    simp [this]
theorem nw (c : Int → Ins) (L : List (Int × Int)) (k : Nat) (l : List Int) (hk : k < L.length) : dV c L k l k = l := by
 unfold dV
 rw [if_pos hk, if_neg ahU, if_pos rfl]
theorem Gt (L : List (Int × Int)) (S : List Int) (j : Nat) (s : Int) (h : S[j]? = some s) : rQ L (S.take (j + 1)) = mM (rQ L (S.take j)) (idx L s : Int) := by
 unfold rQ
 rw [bT h, List.foldl_append]
 rfl
theorem Ca (L : List (Int × Int)) (S : List Int) : (rQ L S).length ≤ S.length := by
 have : ∀ (S l : List Int), (S.foldl (fun l s => mM l (idx L s : Int)) l).length ≤ l.length + S.length := by
  intro S
  induction S with
  | nil => intro l; simp
  | cons s S ih =>
   intro l
   rw [List.foldl_cons]
   have := ih (mM l (idx L s : Int))
   have h2 : (mM l (idx L s : Int)).length ≤ l.length + 1 := by unfold mM; split <;> simp
   simp; omega
 have h := this S []
 simp only [List.length_nil, Nat.zero_add] at h
 exact h
theorem zY (c : Int → Ins) (L : List (Int × Int)) (k p : Nat) : (jY c L k p).length ≤ k := by
 unfold jY
 rw [List.length_map]
 exact Nat.le_trans (List.length_filter_le _ _) ahZ
structure aU where
 lo : Int
 hi : Int
 nx : List Int
deriving DecidableEq
def fL (w : World) (v : Value) (G : List aU) : Prop :=
 ∃ A cap, v = .slice A G.length cap ∧ G.length ≤ cap ∧ cap ≤ maxLen ∧ (0 < G.length → ∃ b off, A = some ⟨b, off, none⟩ ∧ b < w.heap.size ∧ ∀ i x, G[i]? = some x →
  w.cell? ⟨b, off + i * 3, none⟩ = some (.int .i64 x.lo) ∧ w.cell? ⟨b, off + i * 3 + 1, none⟩ = some (.int .i64 x.hi) ∧ ∃ nv, w.cell? ⟨b, off + i * 3 + 2, none⟩ = some nv ∧ Ints w nv x.nx)
def mG (w : World) (v : Value) (P : List (List Int)) : Prop :=
 ∃ A cap, v = .slice A P.length cap ∧ P.length ≤ cap ∧ cap ≤ maxLen ∧ (0 < P.length → ∃ b off, A = some ⟨b, off, none⟩ ∧ b < w.heap.size ∧ ∀ i x, P[i]? = some x →
  ∃ nv, w.cell? ⟨b, off + i, none⟩ = some nv ∧ Ints w nv x)
theorem fL.below {w w' : World} {v : Value} {G : List aU} (h : fL w v G) (hb : Below w.heap.size w w') : fL w' v G := by
 obtain ⟨A, cap, h1, h2, h3, h4⟩ := h
 refine ⟨A, cap, h1, h2, h3, fun h0 => ?_⟩
 obtain ⟨b, off, ha, hlt, hc⟩ := h4 h0
 refine ⟨b, off, ha, by have := hb.size; omega, fun i x hx => ?_⟩
 obtain ⟨c0, c1, nv, c2, hn⟩ := hc i x hx
 exact ⟨(hb.cell (p := ⟨b, _, none⟩) hlt).trans c0, (hb.cell (p := ⟨b, _, none⟩) hlt).trans c1, nv, (hb.cell (p := ⟨b, _, none⟩) hlt).trans c2, hn.below hb⟩
theorem mG.below {w w' : World} {v : Value} {P : List (List Int)} (h : mG w v P) (hb : Below w.heap.size w w') : mG w' v P := by
 obtain ⟨A, cap, h1, h2, h3, h4⟩ := h
 refine ⟨A, cap, h1, h2, h3, fun h0 => ?_⟩
 obtain ⟨b, off, ha, hlt, hc⟩ := h4 h0
 refine ⟨b, off, ha, by have := hb.size; omega, fun i x hx => ?_⟩
 obtain ⟨nv, c2, hn⟩ := hc i x hx
 exact ⟨nv, (hb.cell (p := ⟨b, _, none⟩) hlt).trans c2, hn.below hb⟩
theorem eL {w : World} {B : Nat} {v : Value} {l : List Int} (h : w.ownsRow B 3 1 v l.length (dU l)) : Ints w v l := by
 rcases h.2 with ⟨rfl, h0⟩ | ⟨g, cap, cur, rfl, _, hg, h1, h2, _, _⟩
 ·have : l = [] := List.length_eq_zero_iff.1 h0
  subst this
  exact jN _
 ·refine ⟨_, cap, rfl, h1, h2, fun _ => ⟨g, 0, rfl, (Array.getElem?_eq_some_iff.1 hg).1, fun i hi => ?_⟩⟩
  rw [Nat.zero_add, h.cellAt i ahU]
  simp [dU, List.getD, List.getElem?_eq_getElem hi]
def cU (c : Int → Ins) (L : List (Int × Int)) : List aU := (List.range L.length).map fun k => ⟨(L.getD k (0, 0)).1, (L.getD k (0, 0)).2, dD c L k⟩
def gi (c : Int → Ins) (L : List (Int × Int)) : List (List Int) := (List.range L.length).map fun p => jY c L L.length p
theorem BN.graph {V wr wf : World} {gb nb g aY pg rb : Nat} {c : Int → Ins} {L : List (Int × Int)} {val : Nat → Value} (h : BN V wr gb nb g aY pg L val (dV c L L.length [])) (G : wr.grownBy wf (some rb)) (hrb : rb < V.heap.size) :
  fL wf (.slice (some ⟨g, 0, none⟩) L.length aY) (cU c L) ∧ mG wf (.slice (some ⟨pg, 0, none⟩) L.length L.length) (gi c L) := by
 obtain ⟨⟨g1, g2⟩, ⟨p1, p2⟩, gp⟩ := h.rg
 have gs := G.size
 have b' := h.qB.kept G (.inr aiu)
 have p' := h.cH.kept G (.inr aiu)
 have tR : ∀ i, i < 2 * L.length → wf.ownsRow V.heap.size 3 1 (val i) (dV c L L.length [] i).length (dU (dV c L L.length [] i)) := fun i hi => (h.own i hi).kept G (by
  cases hv : (val i).ownBlock with
  | none => exact .inl rfl
  | some q => exact .inr (fun e => by have := ((h.own i hi).lt q hv).1; simp at e; omega))
 have bc : L.length ≤ aY ∧ aY ≤ maxLen := by
  rcases b'.2 with ⟨e, _⟩ | ⟨_, _, _, e, _, _, h1, h2, _⟩
  ·cases e
  ·cases e; exact ⟨h1, h2⟩
 have pc : L.length ≤ maxLen := by
  rcases p'.2 with ⟨e, _⟩ | ⟨_, _, _, e, _, _, h1, h2, _⟩
  ·cases e
  ·cases e; exact h2
 refine ⟨⟨_, aY, by simp [cU], by simp [cU]; exact bc.1, bc.2, fun _ => ⟨g, 0, rfl, by omega, fun i x hx => ?_⟩⟩, ⟨_, L.length, by simp [gi], by simp [gi], pc, fun _ => ⟨pg, 0, rfl, by omega, fun i x hx => ?_⟩⟩⟩
 ·unfold cU at hx
  rw [List.getElem?_map] at hx
  have hi : i < L.length := by
   by_cases hi : i < L.length
   ·exact hi
   ·rw [List.getElem?_eq_none aiJ] at hx; cases hx
  rw [List.getElem?_range hi] at hx
  simp only [Option.map_some, Option.some.injEq] at hx
  subst hx
  refine ⟨?_, ?_, val i, ?_, ?_⟩
  ·rw [Nat.zero_add, b'.cellAt _ ahU, show i * 3 = i * 3 + 0 from rfl, gQ L val hi ahU]; rfl
  ·rw [Nat.zero_add, b'.cellAt _ ahU, gQ L val hi ahU]; rfl
  ·rw [Nat.zero_add, b'.cellAt _ ahU, gQ L val hi ahU]; rfl
  ·have := eL (tR i ahU)
   unfold dV at this
   rwa [if_pos hi, if_pos hi] at this
 ·unfold gi at hx
  rw [List.getElem?_map] at hx
  have hi : i < L.length := by
   by_cases hi : i < L.length
   ·exact hi
   ·rw [List.getElem?_eq_none aiJ] at hx; cases hx
  rw [List.getElem?_range hi] at hx
  simp only [Option.map_some, Option.some.injEq] at hx
  subst hx
  refine ⟨val (L.length + i), ?_, ?_⟩
  ·rw [Nat.zero_add, p'.cellAt _ ahU, List.getElem?_map, List.getElem?_range hi]; rfl
  ·have := eL (tR (L.length + i) ahU)
   unfold dV at this
   rw [if_neg ahU, show L.length + i - L.length = i by omega] at this
   simpa using this
theorem Ints.len {w : World} {v : Value} {l : List Int} (h : Ints w v l) : l.length ≤ 2 ^ 63 - 1 := by
 obtain ⟨A, cap, _, h2, h3, _⟩ := h
 unfold maxLen at h3
 omega
theorem vD {l1 l2 : List Int} {j : Nat} {a b : Int} (h1 : l1[j]? = some a) (h2 : l2[j]? = some b) (h : l1.take j = l2.take j) (hab : a = b) : l1.take (j + 1) = l2.take (j + 1) := by
 rw [bT h1, bT h2, h, hab]
theorem Ez (u v : Value) (l1 l2 : List Int) (w : World) (H1 : Ints w u l1) (H2 : Ints w v l2) :
  Calls Tryz.prog 65 #[u, v] w fun e w' => e = .returned (.bool (decide (l1 = l2))) ∧ Below w.heap.size w w' := by
 obtain ⟨A, cap, rfl, h2, h3, h4⟩ := H1
 obtain ⟨A2, gj, rfl, k2, k3, k4⟩ := H2
 have HC := aiU h4
 have HK := aiU k4
 unfold maxLen at h3 k3
 clear h4 k4
 go_enter Tryz.func65, Tryz.ntmps65
 by_cases hl : l1.length = l2.length
 case neg =>
  have d : ((l1.length : Int) != (l2.length : Int)) = true := by simp; omega
  have HL := aiU hl
  clear hl
  go_wp2_with fail
  go_ret
  exact ⟨aW (by symm; simp; intro h; exact HL.out (by rw [h])), Below.refl _ _⟩
 have d : ((l1.length : Int) != (l2.length : Int)) = false := by simp; omega
 have HL := aiU hl
 clear hl
 go_upto_region 4 with fail
 go_loopw [5, 13] (fun a5 a13 wr => ∃ j : Nat, j ≤ l1.length ∧ a13 = .int .i64 (j : Int) ∧ l1.take j = l2.take j ∧ Below w.heap.size w wr) (fun _ a13 _ => l1.length - (intOf a13).toNat)
 case atStart => exact ⟨0, Nat.zero_le _, rfl, by simp, Below.refl _ _⟩
 case round =>
  obtain ⟨j, hj, rfl, lf, hb⟩ := hrel
  have jC := aiU lf
  have HB := aiU hb
  have hs := hb.size
  clear lf hb
  by_cases hlt : j < l1.length
  ·have hlt2 : j < l2.length := by have := HL.out; omega
   obtain ⟨b, off, rfl, hb1, hc⟩ := HC.out ahU
   obtain ⟨b2, off2, rfl, hb2, hc2⟩ := HK.out ahU
   obtain ⟨s, hs1⟩ : ∃ s, l1[j] = s := ⟨_, rfl⟩
   obtain ⟨t, hs2⟩ : ∃ t, l2[j] = t := ⟨_, rfl⟩
   have x1 : wr.cell? ⟨b, off + j, none⟩ = some (.int .i64 s) := by rw [HB.out.cell (p := ⟨b, off + j, none⟩) hb1, hc j hlt, ← hs1]; simp [List.getD, List.getElem?_eq_getElem hlt]
   have x2 : wr.cell? ⟨b2, off2 + j, none⟩ = some (.int .i64 t) := by rw [HB.out.cell (p := ⟨b2, off2 + j, none⟩) hb2, hc2 j hlt2, ← hs2]; simp [List.getD, List.getElem?_eq_getElem hlt2]
   have NY := aiU (show l1[j]? = some s by rw [List.getElem?_eq_getElem hlt, hs1])
   have FB := aiU (show l2[j]? = some t by rw [List.getElem?_eq_getElem hlt2, hs2])
   have dl : decide ((j : Int) < (l1.length : Int)) = true := by simpa using hlt
   have g1 : b < wr.heap.size := by omega
   have g2 : b2 < wr.heap.size := by omega
   clear hc hc2 hs1 hs2
   by_cases q : s = t
   ·have dq : (s != t) = false := by simp [q]
    have HQ := aiU q
    clear q
    go_upto_region 6 with fail
    refine aj ahV ahV ?_
    repeat (go_big_quiet_step (fail))
    refine wpQuiet_nil ?_
    rintro _ ⟨y, rfl⟩
    go_wp2_with fail
    go_roundw
    case rel => exact ⟨j + 1, by omega, by go_num, vD NY.out FB.out jC.out HQ.out, Ext.below HB.out hs y⟩
    case measure => simp [intOf]; omega
   ·have dq : (s != t) = true := by simp [q]
    have HQ := aiU q
    clear q
    go_upto_region 6 with fail
    refine aj ahV ahV ?_
    repeat (go_big_quiet_step (fail))
    refine wpQuiet_nil ?_
    rintro _ ⟨y, rfl⟩
    go_wp2_with fail
    go_ret
    refine ⟨aW aiA, Ext.below HB.out hs y⟩
  ·obtain rfl : j = l1.length := by omega
   have dl : decide ((l1.length : Int) < (l1.length : Int)) = false := by simp
   have e : l1 = l2 := by
    have h := jC.out
    have hL := HL.out
    rw [List.take_length, hL, List.take_length] at h
    exact h
   have HE := aiU e
   clear e
   go_wp2_with fail
   go_ret
   exact ⟨aW (by symm; simp; exact HE.out), HB.out⟩
theorem mG.at_ {w wr : World} {A : Option Addr} {cap : Nat} {P : List (List Int)} (h : mG w (.slice A P.length cap) P) (hb : Below w.heap.size w wr) {j : Nat} (hj : j < P.length) :
  ∃ l nv b off, P[j]? = some l ∧ A = some ⟨b, off, none⟩ ∧ b < w.heap.size ∧ wr.cell? ⟨b, off + j, none⟩ = some nv ∧ Ints wr nv l := by
 obtain ⟨A', cap', hv, _, _, h4⟩ := h
 cases hv
 obtain ⟨b, off, rfl, hlt, hc⟩ := h4 ahU
 obtain ⟨nv, c1, c2⟩ := hc j _ (List.getElem?_eq_getElem hj)
 exact ⟨P[j], nv, b, off, List.getElem?_eq_getElem hj, rfl, hlt, (hb.cell (p := ⟨b, _, none⟩) hlt).trans c1, c2.below hb⟩
theorem mG.slice {w : World} {v : Value} {P : List (List Int)} (h : mG w v P) : ∃ A cap, v = .slice A P.length cap ∧ P.length ≤ cap ∧ cap ≤ 2 ^ 63 - 1 := by
 obtain ⟨A, cap, h1, h2, h3, _⟩ := h
 unfold maxLen at h3
 exact ⟨A, cap, h1, h2, h3⟩
theorem tY (u v : Value) (P1 P2 : List (List Int)) (w : World) (H1 : mG w u P1) (H2 : mG w v P2) :
  Calls Tryz.prog 64 #[u, v, .func (.func 65) #[] #[]] w fun e w' => e = .returned (.bool (decide (P1 = P2))) ∧ Below w.heap.size w w' := by
 obtain ⟨A, cap, rfl, h2, h3⟩ := H1.slice
 obtain ⟨A2, gj, rfl, k2, k3⟩ := H2.slice
 have HC := aiU H1
 have HK := aiU H2
 clear H1 H2
 go_enter Tryz.func64, Tryz.ntmps64
 by_cases hl : P1.length = P2.length
 case neg =>
  have d : ((P1.length : Int) != (P2.length : Int)) = true := by simp; omega
  have HL := aiU hl
  clear hl
  go_wp2_with fail
  go_ret
  exact ⟨aW (by symm; simp; intro h; exact HL.out (by rw [h])), Below.refl _ _⟩
 have d : ((P1.length : Int) != (P2.length : Int)) = false := by simp; omega
 have HL := aiU hl
 clear hl
 go_upto_region 4 with fail
 go_loopw [7, 8, 9, 17] (fun a7 a8 a9 a17 wr => ∃ j : Nat, j ≤ P1.length ∧ a17 = .int .i64 (j : Int) ∧ P1.take j = P2.take j ∧ Below w.heap.size w wr) (fun _ _ _ a17 _ => P1.length - (intOf a17).toNat)
 case atStart => exact ⟨0, Nat.zero_le _, rfl, by simp, Below.refl _ _⟩
 case round =>
  obtain ⟨j, hj, rfl, lf, hb⟩ := hrel
  have jC := aiU lf
  have HB := aiU hb
  have hs := hb.size
  clear lf hb
  by_cases hlt : j < P1.length
  ·have hlt2 : j < P2.length := by have := HL.out; omega
   obtain ⟨l1, nv, b, off, g1, rfl, hb1, x1, oy⟩ := HC.out.at_ HB.out hlt
   obtain ⟨l2, nv2, b2, off2, g2, rfl, hb2, x2, ox⟩ := HK.out.at_ HB.out hlt2
   have NY := aiU g1
   have FB := aiU g2
   have dl : decide ((j : Int) < (P1.length : Int)) = true := by simpa using hlt
   have HE := aiU (Ez nv nv2 l1 l2 wr oy ox)
   clear g1 g2 oy ox
   by_cases q : l1 = l2
   ·rw [decide_eq_true q] at HE
    have HQ := aiU q
    clear q
    go_wp2_with (go_at_call 65; refine HE.out.mono ?_; rintro e w' ⟨rfl, hb5⟩)
    go_roundw
    case rel => exact ⟨j + 1, by omega, by go_num, by rw [bT NY.out, bT FB.out, jC.out, HQ.out], HB.out.trans (hb5.mono hs)⟩
    case measure => simp [intOf]; omega
   ·rw [decide_eq_false q] at HE
    have HQ := aiU q
    clear q
    go_wp2_with (go_at_call 65; refine HE.out.mono ?_; rintro e w' ⟨rfl, hb5⟩)
    go_ret
    refine ⟨aW aiA, HB.out.trans (hb5.mono hs)⟩
  ·obtain rfl : j = P1.length := by omega
   have dl : decide ((P1.length : Int) < (P1.length : Int)) = false := by simp
   have e : P1 = P2 := by
    have h := jC.out
    have hL := HL.out
    rw [List.take_length, hL, List.take_length] at h
    exact h
   have HE := aiU e
   clear e
   go_wp2_with fail
   go_ret
   exact ⟨aW (by symm; simp; exact HE.out), HB.out⟩
theorem MU : (Tryz.prog.info? 38).map (fun i => (i.zero, i.size, i.bytes)) = some (some (.slice none 0 0), 1, 24) := by kernel_rfl
structure PM (V wr : World) (pg n : Nat) (val : Nat → Value) (dM : Nat → List Int) : Prop where
 aD : Below V.heap.size V wr
 cH : wr.ownsRow V.heap.size 38 1 (.slice (some ⟨pg, 0, none⟩) n n) n ((List.range n).map fun i => val i)
 own : ∀ i, i < n → wr.ownsRow V.heap.size 3 1 (val i) (dM i).length (dU (dM i))
 qi : ∀ i j, i < n → j < n → i ≠ j → ∀ q, (val i).ownBlock = some q → (val j).ownBlock ≠ some q
theorem nt (n : Nat) (val : Nat → Value) {p : Nat} (hp : p < n) (v : Value) : ((List.range n).map fun i => val i).set p v = (List.range n).map fun i => upd val p v i := by
 apply List.ext_getElem?
 intro q
 rw [List.getElem?_set]
 simp only [List.length_map, List.length_range, List.getElem?_map]
 by_cases e : p = q
 ·subst e
  rw [if_pos rfl, if_pos hp, List.getElem?_range hp]
  simp [upd]
 ·rw [if_neg e]
  by_cases hq : q < n
  ·rw [List.getElem?_range hq]
   simp [upd]
   intro h; omega
  ·rw [List.getElem?_eq_none (by simpa using hq)]
   rfl
section
variable {V wr : World} {pg n : Nat} {val : Nat → Value} {dM : Nat → List Int}
theorem PM.below {wr' : World} (h : PM V wr pg n val dM) (hb : Below wr.heap.size wr wr') : PM V wr' pg n val dM :=
 ⟨h.aD.trans (hb.mono h.aD.size), ak h.cH hb, fun i hi => ak (h.own i hi) hb, h.qi⟩
theorem PM.rg (h : PM V wr pg n val dM) : V.heap.size ≤ pg ∧ pg < wr.heap.size := h.cH.lt pg rfl
theorem PM.cells (h : PM V wr pg n val dM) {i : Nat} (hi : i < n) : wr.cell? ⟨pg, i, none⟩ = some (val i) ∧ wr.frozen? ⟨pg, i, none⟩ = false :=
 ⟨by rw [h.cH.cellAt _ ahU, List.getElem?_map, List.getElem?_range hi]; rfl, h.cH.frozenAt _⟩
theorem PM.made {W' : World} (hg : wr.grownBy W' none) (hb : Below V.heap.size V wr) (hr : W'.ownsRow V.heap.size 38 1 (.slice (some ⟨pg, 0, none⟩) n n) n (List.replicate n (.slice none 0 0))) : PM V W' pg n (fun _ => .slice none 0 0) (fun _ => []) := by
 refine ⟨hb.grown hg hb.size (fun k hk => by cases hk), ?_, fun i hi => World.ownsRow_nil _ _ _ _, fun i j hi hj _ q hq => by cases hq⟩
 have e : ((List.range n).map fun _ => Value.slice none 0 0) = List.replicate n (Value.slice none 0 0) := by
  apply List.ext_getElem?
  intro q
  by_cases hq : q < n
  ·simp [hq]
  ·simp [hq]
 rw [e]
 exact hr
theorem PM.app {w2 W' : World} {i : Nat} {y : Int} {v' : Value} (h : PM V wr pg n val dM) (hi : i < n) (hb : Below wr.heap.size wr w2) (hg : w2.grownBy W' (val i).ownBlock)
  (hown : W'.ownsRow V.heap.size 3 1 v' ((dM i).length + 1) (dU (dM i ++ [y]))) (j6 : v'.ownBlock = (val i).ownBlock ∨ v'.ownBlock = some w2.heap.size) :
  PM V (W'.setCell ⟨pg, i, none⟩ v') pg n (upd val i v') (upd dM i (dM i ++ [y])) := by
 have G := grown_of hb hg
 have S := aQ W' pg i v'
 obtain ⟨p1, p2⟩ := h.rg
 have wY := G.size
 have Es := h.aD.size
 have oi := h.own i hi
 have ob : ∀ q, (val i).ownBlock = some q → V.heap.size ≤ q ∧ q ≠ pg := fun q hq => ⟨(oi.lt q hq).1, fun e => cV oi h.cH ahW q hq ain⟩
 have p' : W'.ownsRow V.heap.size 38 1 (.slice (some ⟨pg, 0, none⟩) n n) n ((List.range n).map fun i => val i) := h.cH.kept G (.inr (fun e' => (ob pg e'.symm).2 rfl))
 have tR : ∀ q, v'.ownBlock = some q → q ≠ pg := fun q hq e => cV hown p' ahW q hq ain
 refine ⟨?_, ?_, fun j hj => ?_, fun a c ha hc hac q hq => ?_⟩
 ·exact ((h.aD.grown G Es (fun k hk => (ob k hk).1)).grown S ahU (fun k hk => by cases hk; exact p1))
 ·rw [← nt n val hi v']
  exact (p'.stored i v').1
 ·unfold upd
  by_cases e : j = i
  ·subst e
   rw [if_pos rfl, if_pos rfl]
   rw [show (dM j ++ [y]).length = (dM j).length + 1 by simp]
   exact hown.kept S (by
    cases hv : v'.ownBlock with
    | none => exact .inl rfl
    | some q => exact .inr (fun e' => tR q hv aiP))
  ·rw [if_neg e, if_neg e]
   refine ((h.own j hj).kept G ?_).kept S ?_
   ·cases hv : (val j).ownBlock with
    | none => exact .inl rfl
    | some q => exact .inr (fun e' => h.qi i j hi hj (fun e2 => e e2.symm) q e'.symm hv)
   ·cases hv : (val j).ownBlock with
    | none => exact .inl rfl
    | some q =>
     refine .inr (fun e' => ?_)
     have M4 : q = pg := by simpa using e'
     exact cV (h.own j hj) h.cH ahW q hv (by rw [M4]; rfl)
 ·have new : ∀ a, a < n → a ≠ i → ∀ q, v'.ownBlock = some q → (val a).ownBlock ≠ some q := fun a ha hai q hq hq2 => by
   rcases j6 with h1 | h1
   ·rw [h1] at hq
    exact h.qi i a hi ha (fun e => hai e.symm) q hq hq2
   ·rw [h1] at hq
    cases hq
    have := ((h.own a ha).lt _ hq2).2
    have := hb.size
    omega
  unfold upd at hq ⊢
  by_cases e1 : a = i
  ·rw [if_pos e1] at hq
   rw [if_neg (fun e => hac (e1.trans e.symm))]
   exact new c hc (fun e => hac (e1.trans e.symm)) q hq
  ·rw [if_neg e1] at hq
   by_cases e2 : c = i
   ·rw [if_pos e2]
    exact fun hq2 => new a ha e1 q hq2 hq
   ·rw [if_neg e2]
    exact h.qi a c ha hc hac q hq
theorem PM.lls (h : PM V wr pg n val dM) : mG wr (.slice (some ⟨pg, 0, none⟩) n n) ((List.range n).map dM) := by
 have pc : n ≤ maxLen := by
  rcases h.cH.2 with ⟨e, _⟩ | ⟨_, _, _, e, _, _, h1, h2, _⟩
  ·cases e
  ·cases e; exact h2
 refine ⟨_, n, by simp, by simp, pc, fun _ => ⟨pg, 0, rfl, h.rg.2, fun i x hx => ?_⟩⟩
 rw [List.getElem?_map] at hx
 have hi : i < n := by
  by_cases hi : i < n
  ·exact hi
  ·rw [List.getElem?_eq_none aiJ] at hx; cases hx
 rw [List.getElem?_range hi] at hx
 simp only [Option.map_some, Option.some.injEq] at hx
 subst hx
 exact ⟨val i, by rw [Nat.zero_add]; exact (h.cells hi).1, eL (h.own i hi)⟩
end
def nI (nx : List Int) (p k : Nat) : List Int := (nx.filter (fun x => decide (x = (p : Int)))).map (fun _ => (k : Int))
def vG (G : List aU) (k : Nat) (p : Nat) : List Int := (List.range k).flatMap fun b => nI (G.getD b ⟨0, 0, []⟩).nx p b
def gw (G : List aU) (k : Nat) (l : List Int) : Nat → List Int := fun p => vG G k p ++ nI l p k
theorem zW (G : List aU) : gw G 0 [] = fun _ => [] := by funext p; simp [gw, vG, nI]
theorem Dx (G : List aU) (k p : Nat) (l : List Int) : gw G k (l ++ [(p : Int)]) = upd (gw G k l) p (gw G k l p ++ [(k : Int)]) := by
 funext i
 unfold upd gw
 by_cases h : i = p
 ·subst h
  rw [if_pos rfl]
  simp [nI]
 ·rw [if_neg h]
  have : (p : Int) ≠ (i : Int) := by omega
  simp [nI, this]
theorem rL (G : List aU) (k : Nat) (x : aU) (h : G[k]? = some x) : gw G k x.nx = gw G (k + 1) [] := by
 funext i
 unfold gw vG
 rw [List.range_succ, List.flatMap_append]
 simp [List.getD, h, nI]
theorem Dw (G : List aU) (hn : ∀ x ∈ G, x.nx.length ≤ 5000) (k : Nat) (hk : k ≤ G.length) (l : List Int) (p : Nat) : (gw G k l p).length ≤ 5000 * k + l.length := by
 have c1 : ∀ (nx : List Int) (b : Nat), (nI nx p b).length ≤ nx.length := fun nx b => by
  unfold nI
  rw [List.length_map]
  exact List.length_filter_le _ _
 have c2 : (vG G k p).length ≤ 5000 * k := by
  unfold vG
  induction k with
  | zero => simp
  | succ k ih =>
   have := ih ahU
   rw [List.range_succ, List.flatMap_append, List.length_append]
   have h1 := c1 (G.getD k ⟨0, 0, []⟩).nx k
   have h2 : (G.getD k ⟨0, 0, []⟩).nx.length ≤ 5000 := by
    have hk' : k < G.length := by omega
    rw [show G.getD k ⟨0, 0, []⟩ = G[k] by simp [List.getD, List.getElem?_eq_getElem hk']]
    exact hn _ (List.getElem_mem hk')
   simp only [List.flatMap_cons, List.flatMap_nil, List.append_nil]
   omega
 unfold gw
 rw [List.length_append]
 have := c1 l k
 omega
def qz (i : Ins) : Int := i.op * 67108864 + i.a * 4194304 + i.b * 262144 + i.c * 16384 + (if i.aP < 0 then i.aP + 262144 else i.aP)
theorem lK (n : Int) (h0 : 0 ≤ n) (h1 : n < 2 ^ 32) : IntKind.u32.wrap n = n := by
 have : (2 : Int) ^ 32 = 4294967296 := by decide
 exact IntWalk.u32_in _ ahU
theorem uG (x : Int) (h0 : 0 ≤ x) (h1 : x < 4294967296) : bits .and .u32 x 15 = x % 16 := by
 have p32 : x < (2 : Int) ^ 32 := by rw [show (2 : Int) ^ 32 = 4294967296 by decide]; exact h1
 have := bits_mask .u32 32 ahW lK 4 ahW x h0 p32
 simpa using this
theorem GH (x : Int) (h0 : 0 ≤ x) (h1 : x < 4294967296) : bits .and .u32 x 262143 = x % 262144 := by
 have p32 : x < (2 : Int) ^ 32 := by rw [show (2 : Int) ^ 32 = 4294967296 by decide]; exact h1
 have := bits_mask .u32 32 ahW lK 18 ahW x h0 p32
 simpa using this
theorem vP (i : Nat) (m : Int) (hm : (2 : Int) ^ i = m) (x y : Int) (h0 : 0 ≤ x) (hx : x % m = 0) (h1 : x < 4294967296) (h2 : 0 ≤ y) (h3 : y < m) (h4 : y < 4294967296) : bits .or .u32 x y = x + y := by
 have e : (2 : Int) ^ 32 = 4294967296 := by decide
 exact bits_join .u32 32 ahW lK i x y h0 (by rw [hm]; exact hx) ahU h2 (by rw [hm]; exact h3) ahU
theorem Iw (i : Ins) (x : Int) (h0 : 0 ≤ x) (hx : x % 67108864 = 0) (h1 : x < 4294967296) (ha : 0 ≤ i.a) (ha' : i.a ≤ 15) : ew i x 65 = x + i.a * 4194304 := by
 have e : ew i x 65 = bits .or .u32 x (bits .and .u32 (i.a % 4294967296) 15 * 4194304 % 4294967296) := by
  unfold ew letVal pX pY
  simp
 rw [e, uG _ ahU ahU, show i.a % 4294967296 % 16 * 4194304 % 4294967296 = i.a * 4194304 by omega]
 exact vP 26 67108864 ahW x _ h0 hx h1 ahU ahU ahU
theorem Nl (i : Ins) (x : Int) (h0 : 0 ≤ x) (hx : x % 4194304 = 0) (h1 : x < 4294967296) (ha : 0 ≤ i.b) (ha' : i.b ≤ 15) : ew i x 66 = x + i.b * 262144 := by
 have e : ew i x 66 = bits .or .u32 x (bits .and .u32 (i.b % 4294967296) 15 * 262144 % 4294967296) := by
  unfold ew letVal pX pY
  simp
 rw [e, uG _ ahU ahU, show i.b % 4294967296 % 16 * 262144 % 4294967296 = i.b * 262144 by omega]
 exact vP 22 4194304 ahW x _ h0 hx h1 ahU ahU ahU
theorem Tx (i : Ins) (x : Int) (h0 : 0 ≤ x) (hx : x % 262144 = 0) (h1 : x < 4294967296) (ha : 0 ≤ i.c) (ha' : i.c ≤ 15) : ew i x 67 = x + i.c * 16384 := by
 have e : ew i x 67 = bits .or .u32 x (bits .and .u32 (i.c % 4294967296) 15 * 16384 % 4294967296) := by
  unfold ew letVal pX pY
  simp
 rw [e, uG _ ahU ahU, show i.c % 4294967296 % 16 * 16384 % 4294967296 = i.c * 16384 by omega]
 exact vP 18 262144 ahW x _ h0 hx h1 ahU ahU ahU
theorem Iu (i : Ins) (x : Int) (h0 : 0 ≤ x) (hx : x % 262144 = 0) (h1 : x < 4294967296) (ha : -131072 ≤ i.aP) (ha' : i.aP ≤ 131071) : ew i x 73 = x + (if i.aP < 0 then i.aP + 262144 else i.aP) := by
 have e : ew i x 73 = bits .or .u32 x (bits .and .u32 (i.aP % 4294967296) 262143 % 4294967296) := by
  unfold ew letVal pX pY
  simp
 rw [e, GH _ ahU ahU, show i.aP % 4294967296 % 262144 % 4294967296 = (if i.aP < 0 then i.aP + 262144 else i.aP) by split <;> omega]
 exact vP 18 262144 ahW x _ h0 hx h1 (by split <;> omega) (by split <;> omega) (by split <;> omega)
theorem R7 (x : Int) (h0 : 0 ≤ x) (h1 : x < 4294967296) : rawVal x 65 = x / 4194304 % 16 := by
 unfold rawVal
 rw [if_pos rfl, uG _ ahU ahU]
 exact Go.IntWalk.wrap64_in _ ahU
theorem R3 (x : Int) (h0 : 0 ≤ x) (h1 : x < 4294967296) : rawVal x 66 = x / 262144 % 16 := by
 unfold rawVal
 rw [if_neg ahW, if_pos rfl, uG _ ahU ahU]
 exact Go.IntWalk.wrap64_in _ ahU
theorem RZ (x : Int) (h0 : 0 ≤ x) (h1 : x < 4294967296) : rawVal x 67 = x / 16384 % 16 := by
 unfold rawVal
 rw [if_neg ahW, if_neg ahW, if_pos rfl, uG _ ahU ahU]
 exact Go.IntWalk.wrap64_in _ ahU
theorem RV (x : Int) (h0 : 0 ≤ x) (h1 : x < 4294967296) : rawVal x 73 = if 131072 ≤ x % 262144 then x % 262144 - 262144 else x % 262144 := by
 unfold rawVal
 rw [if_neg ahW, if_neg ahW, if_neg ahW, GH _ ahU ahU, Go.IntWalk.wrap64_in (x % 262144) ahU]
 split
 ·exact Go.IntWalk.wrap64_in _ ahU
 ·rfl
inductive qE : Type
 | Sd | T4 | TZ | ai | i
def qE.ops : qE → List UInt8
 | .Sd => [] | .T4 => [65, 66, 67] | .TZ => [65, 66, 73] | .ai => [65, 73] | .i => [73]
def eV (k : Nat) : qE := if k < 2 then .Sd else if k < 14 then .T4 else if k = 14 then .ai else if k < 22 then .TZ else if k = 22 ∨ k = 23 then .ai else if k = 24 then .i else if k < 28 then .ai else .i
def qE.Mn : qE → Int | .Sd => 0 | .T4 => 15 | .TZ => 15 | .ai => 15 | .i => 0
def qE.Mj : qE → Int | .Sd => 0 | .T4 => 15 | .TZ => 15 | .ai => 0 | .i => 0
def qE.J7 : qE → Int | .Sd => 0 | .T4 => 15 | .TZ => 0 | .ai => 0 | .i => 0
def mS (k : Nat) : Int := if k < 14 then 0 else if k = 16 ∨ k = 17 ∨ 26 ≤ k then 0 else if k = 25 then 1 else -131072
def mU (k : Nat) : Int := if k < 14 then 0 else if k = 16 then 31 else if k = 17 then 16383 else if k < 26 then 131071 else if k < 28 then 7 else 3
theorem oB : ∀ k, k < 30 → (fm k).ops = (eV k).ops ∧ fB (fm k) 0 = 0 ∧ dF (fm k) 0 = (eV k).Mn ∧ fB (fm k) 1 = 0 ∧ dF (fm k) 1 = (eV k).Mj ∧ fB (fm k) 2 = 0 ∧ dF (fm k) 2 = (eV k).J7 ∧ fB (fm k) 3 = mS k ∧ dF (fm k) 3 = mU k := by decide +kernel
theorem Ao : ∀ k, k < 30 → -131072 ≤ mS k ∧ mU k ≤ 131071 := by decide
theorem vT : ∀ k, k < 30 → ((eV k).ops = [] ∨ (eV k).ops = [65, 66, 67]) → mS k = 0 ∧ mU k = 0 := by decide
structure Good (i : Ins) (k : Nat) : Prop where
 op : i.op = (k : Int)
 lt : k < 30
 a : 0 ≤ i.a ∧ i.a ≤ (eV k).Mn
 b : 0 ≤ i.b ∧ i.b ≤ (eV k).Mj
 c : 0 ≤ i.c ∧ i.c ≤ (eV k).J7
 aP : mS k ≤ i.aP ∧ i.aP ≤ mU k
theorem eR {i : Ins} (h0 : 0 ≤ i.op) : aT i = true ↔ ∃ k, Good i k := by
 constructor
 ·intro hv
  unfold aT at hv
  simp only [Bool.and_eq_true, decide_eq_true_eq] at hv
  obtain ⟨v0, ⟨⟨v1, v2⟩, v3⟩, v4⟩ := hv
  have ek : i.op = (i.op.toNat : Int) := by omega
  have hk : i.op.toNat < 30 := by omega
  obtain ⟨_, e1, e2, e3, e4, e5, e6, e7, e8⟩ := oB _ hk
  unfold jK at v1 v2 v3 v4
  rw [e1, e2] at v1
  rw [e3, e4] at v2
  rw [e5, e6] at v3
  rw [e7, e8] at v4
  exact ⟨_, ek, hk, v1, v2, v3, v4⟩
 ·rintro ⟨k, h⟩
  have ho : i.op.toNat = k := by have := h.op; omega
  have hl := h.lt
  obtain ⟨_, e1, e2, e3, e4, e5, e6, e7, e8⟩ := oB _ hl
  refine qZ (by have := h.op; omega) fun j hj => ?_
  rw [ho]
  unfold jK
  obtain rfl | rfl | rfl | rfl : j = 0 ∨ j = 1 ∨ j = 2 ∨ j = 3 := by omega
  ·rw [e1, e2]; exact h.a
  ·rw [e3, e4]; exact h.b
  ·rw [e5, e6]; exact h.c
  ·rw [e7, e8]; exact h.aP
theorem Good.Gu {i : Ins} {k : Nat} (h : Good i k) : 0 ≤ qz i ∧ qz i < 4294967296 := by
 have hk := h.lt
 have hi := Ao _ hk
 have ha := h.a
 have hb := h.b
 have hc := h.c
 have hm := h.aP
 have hz := vT _ hk
 unfold qz
 rw [h.op]
 cases hs : eV k <;> rw [hs] at ha hb hc hz <;> simp only [qE.Mn, qE.Mj, qE.J7, qE.ops, true_or, or_true, forall_const] at ha hb hc hz <;> split <;> omega
theorem Good.enc {i : Ins} {k : Nat} (h : Good i k) : encI i = (qz i, 0) := by
 have hk := h.lt
 have hi := Ao _ hk
 have ha := h.a
 have hb := h.b
 have hc := h.c
 have hm := h.aP
 have hz := vT _ hk
 have hop := h.op
 have ho : i.op.toNat = k := by omega
 unfold encI
 rw [if_pos ((eR ahU).2 ⟨k, h⟩), ho, (oB k hk).1]
 congr 1
 unfold AH qz
 have e65 : ((65 : UInt8).toNat : Int) = 65 := rfl
 have e66 : ((66 : UInt8).toNat : Int) = 66 := rfl
 have e67 : ((67 : UInt8).toNat : Int) = 67 := rfl
 have e73 : ((73 : UInt8).toNat : Int) = 73 := rfl
 cases hs : eV k <;> rw [hs] at ha hb hc hz <;> simp only [qE.Mn, qE.Mj, qE.J7, qE.ops, true_or, or_true, forall_const, List.cons_ne_nil, false_or, or_false, List.foldl_cons, List.foldl_nil, e65, e66, e67, e73] at ha hb hc hz ⊢
 ·split <;> omega
 ·rw [Iw i _ ahU ahU ahU ahU ahU, Nl i _ ahU ahU ahU ahU ahU, Tx i _ ahU ahU ahU ahU ahU]
  split <;> omega
 ·rw [Iw i _ ahU ahU ahU ahU ahU, Nl i _ ahU ahU ahU ahU ahU, Iu i _ ahU ahU ahU ahU ahU]
  split <;> omega
 ·rw [Iw i _ ahU ahU ahU ahU ahU, Iu i _ ahU ahU ahU ahU ahU]
  split <;> omega
 ·rw [Iu i _ ahU ahU ahU ahU ahU]
  split <;> omega
theorem Good.dec {i : Ins} {k : Nat} (h : Good i k) : bk (qz i) = (i, 0) := by
 have hk := h.lt
 have hi := Ao _ hk
 have ha := h.a
 have hb := h.b
 have hc := h.c
 have hm := h.aP
 have hz := vT _ hk
 have hop := h.op
 have hin := h.Gu
 have hd : qz i / 67108864 = (k : Int) := by
  unfold qz
  cases hs : eV k <;> rw [hs] at ha hb hc hz <;> simp only [qE.Mn, qE.Mj, qE.J7, qE.ops, true_or, or_true, forall_const] at ha hb hc hz <;> split <;> omega
 have hdo : jP (qz i) = i := by
  unfold jP ud
  rw [hd]
  rw [show ((k : Int)).toNat = k from rfl, (oB k hk).1]
  have e65 : ((65 : UInt8).toNat : Int) = 65 := rfl
  have e66 : ((66 : UInt8).toNat : Int) = 66 := rfl
  have e67 : ((67 : UInt8).toNat : Int) = 67 := rfl
  have e73 : ((73 : UInt8).toNat : Int) = 73 := rfl
  obtain ⟨op, a, b, c, aP⟩ := i
  simp only at hop ha hb hc hm
  cases hs : eV k <;> rw [hs] at ha hb hc hz <;> simp only [qE.Mn, qE.Mj, qE.J7, qE.ops, true_or, or_true, forall_const, List.cons_ne_nil, false_or, or_false, List.foldl_cons, List.foldl_nil, e65, e66, e67, e73, nj, if_true, if_false, Int.reduceEq, R7 _ hin.1 hin.2, R3 _ hin.1 hin.2, RZ _ hin.1 hin.2, RV _ hin.1 hin.2] at ha hb hc hz ⊢
  all_goals
   simp only [qz, Ins.mk.injEq]
   refine ⟨by omega, ?_, ?_, ?_, ?_⟩
   all_goals first | omega | (split <;> omega) | (split <;> split <;> omega)
 unfold bk
 rw [hdo, h.enc, if_pos ⟨by omega, rfl⟩]
theorem iG {x : Int} (h0 : 0 ≤ x) (h : (bk x).2 = 0) : ∃ k, Good (bk x).1 k ∧ qz (bk x).1 = x := by
 unfold bk at h ⊢
 by_cases hc : x / 67108864 < 30 ∧ encI (jP x) = (x, 0)
 ·rw [if_pos hc] at h ⊢
  have ho : (jP x).op = x / 67108864 := wC x _
  have hv : aT (jP x) = true := by
   have h2 := hc.2
   unfold encI at h2
   split at h2
   ·assumption
   ·simp at h2
  obtain ⟨k, hg⟩ := (eR (by rw [ho]; omega)).1 hv
  refine ⟨k, hg, ?_⟩
  have h3 := hg.enc
  rw [hc.2] at h3
  simpa using h3.symm
 ·rw [if_neg hc] at h
  cases h
end
end Go.Proofs.YtlmgkipmfgijiaaGreatDoor
