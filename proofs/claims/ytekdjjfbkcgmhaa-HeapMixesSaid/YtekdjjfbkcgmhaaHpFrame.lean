/-
  What is proved here: what a change of a heap leaves alone, and what a heap holds after an item is written.
-/
import Derived.Test.YtekdjjfbkcgmhaaHpDefer
import Derived.Test.YtekdjjfbkcgmhaaQTail3
import Derived.Maps.AppendAt
import Derived.OneCell
import Derived.Laws.OwnMore
namespace Go.Proofs.Ytekdjjfbkcgmhaa
open Go.RowKit Hp
set_option linter.unusedVariables false
set_option linter.unusedSimpArgs false

/-- Every block that was there, but for the heap's own two, is as it was. -/
structure Touch (hb : Nat) (ov : Option Nat) (w w' : World) : Prop where
  os : w'.os = w.os
  tape : w'.tape = w.tape
  output : w'.output = w.output
  size : w.heap.size ≤ w'.heap.size
  block : ∀ k, k < w.heap.size → k ≠ hb → some k ≠ ov → w'.heap[k]? = w.heap[k]?
/-- A row's block is the same one, or a new one. -/
def Same_or_new (w : World) (ov ov' : Option Nat) : Prop := ov' = ov ∨ ∃ g, ov' = some g ∧ w.heap.size ≤ g
theorem Same_or_new.refl (w : World) (ov : Option Nat) : Same_or_new w ov ov := .inl rfl
theorem Same_or_new.trans {w w' : World} {a b c : Option Nat} (h : Same_or_new w a b) (k : Same_or_new w' b c) (hs : w.heap.size ≤ w'.heap.size) : Same_or_new w a c := by
  rcases k with rfl | ⟨g, rfl, hg⟩
  · exact h
  · exact .inr ⟨g, rfl, by omega⟩
theorem Touch.refl (hb : Nat) (ov : Option Nat) (w : World) : Touch hb ov w w := ⟨rfl, rfl, rfl, Nat.le_refl _, fun _ _ _ _ => rfl⟩
theorem Touch.trans {hb : Nat} {ov ov' : Option Nat} {a b c : World} (h : Touch hb ov a b) (k : Touch hb ov' b c) (hn : Same_or_new a ov ov') : Touch hb ov a c := by
  refine ⟨k.os.trans h.os, k.tape.trans h.tape, k.output.trans h.output, Nat.le_trans h.size k.size, fun i hi h1 h2 => (k.block i (by have := h.size; omega) h1 ?_).trans (h.block i hi h1 h2)⟩
  rcases hn with rfl | ⟨g, rfl, hg⟩
  · exact h2
  · intro e; cases e; omega
theorem Touch.of_below {hb : Nat} (ov : Option Nat) {w w' : World} (h : Below w.heap.size w w') : Touch hb ov w w' := ⟨h.os, h.tape, h.output, h.size, fun k hk _ _ => h.block k hk⟩
theorem Touch.of_grown {hb : Nat} {ov : Option Nat} {w w' : World} (h : w.grownBy w' ov) : Touch hb ov w w' := ⟨h.os, h.tape, h.output, h.size, fun k hk _ h2 => h.block k hk h2⟩
theorem Touch.below {hb B : Nat} {ov : Option Nat} {w w' : World} (h : Touch hb ov w w') (hB : B ≤ hb) (hw : B ≤ w.heap.size) (ho : ∀ k, ov = some k → B ≤ k) : Below B w w' :=
  ⟨h.os, h.tape, h.output, h.size, fun k hk => h.block k (by omega) (by omega) (fun e => by have := ho k e.symm; omega)⟩
theorem Touch.cell {hb : Nat} {ov : Option Nat} (w : World) (i : Nat) (u : Value) : Touch hb ov w (w.setCell ⟨hb, i, none⟩ u) :=
  ⟨rfl, rfl, rfl, by simp, fun k hk h1 _ => heap_setCell_other w ⟨hb, i, none⟩ k u (fun e => h1 (by simp [e]))⟩
theorem own_touch {hb B n size : Nat} {ov : Option Nat} {w w' : World} {e : TypeId} {v : Value} {xs : List Value} (h : w.ownsRow B e size v n xs) (t : Touch hb ov w w') (h1 : v.ownBlock ≠ some hb) (h2 : v.ownBlock = none ∨ v.ownBlock ≠ ov) : w'.ownsRow B e size v n xs := by
  refine ⟨h.1, ?_⟩
  rcases h.2 with h0 | ⟨g, cap, cur, rfl, hb', hk, hr⟩
  · exact .inl h0
  · refine .inr ⟨g, cap, cur, rfl, hb', ?_, hr⟩
    simp only [Value.ownBlock] at h1 h2
    rw [t.block g (lt_of_block hk) (fun e => h1 (by rw [e])) (by simpa using h2)]
    exact hk

theorem flat_set (L : List It) : ∀ (i : Nat) (x : It), (((flat L).set (i * 3) (.int .i64 x.key)).set (i * 3 + 1) (.int .i64 x.name)).set (i * 3 + 2) (.int .i64 x.ord) = flat (L.set i x) := by
  induction L with
  | nil => intro i x; rfl
  | cons a L ih =>
    intro i x
    cases i with
    | zero => simp [flat_cons]
    | succ i =>
      rw [List.set_cons_succ, flat_cons, flat_cons, ← ih i x, show (i + 1) * 3 = i * 3 + 3 by omega]
      rfl
abbrev put3 (w : World) (g i : Nat) (x : It) : World := ((w.setCell ⟨g, i * 3, none⟩ (.int .i64 x.key)).setCell ⟨g, i * 3 + 1, none⟩ (.int .i64 x.name)).setCell ⟨g, i * 3 + 2, none⟩ (.int .i64 x.ord)
theorem HpAt.ne {w : World} {B hb : Nat} {fid : FuncId} {v : Value} {L : List It} {nx : Int} (h : HpAt w B hb fid v L nx) : v.ownBlock ≠ some hb := by
  rcases h.row.2 with ⟨rfl, _⟩ | ⟨g, cap, cur, rfl, _, hk, _⟩
  · simp [Value.ownBlock]
  · intro e
    simp only [Value.ownBlock, Option.some.injEq] at e
    subst e
    have := hk.symm.trans h.blk
    simp at this
theorem HpAt.put {w : World} {B hb g cap : Nat} {fid : FuncId} {L : List It} {nx : Int} (h : HpAt w B hb fid (.slice (some ⟨g, 0, none⟩) L.length cap) L nx) (i : Nat) (x : It) :
    HpAt (put3 w g i x) B hb fid (.slice (some ⟨g, 0, none⟩) L.length cap) (L.set i x) nx ∧ w.grownBy (put3 w g i x) (some g) := by
  have hne := h.ne
  simp only [Value.ownBlock, ne_eq, Option.some.injEq] at hne
  obtain ⟨o1, g1⟩ := h.row.stored (i * 3) (.int .i64 x.key)
  obtain ⟨o2, g2⟩ := o1.stored (i * 3 + 1) (.int .i64 x.name)
  obtain ⟨o3, g3⟩ := o2.stored (i * 3 + 2) (.int .i64 x.ord)
  have gg : w.grownBy (put3 w g i x) (some g) := by
    refine ⟨rfl, rfl, rfl, by simp [put3], fun k hk h2 => ?_⟩
    rw [g3.block k (by simpa using hk) h2, g2.block k (by simpa using hk) h2, g1.block k hk h2]
  refine ⟨⟨?_, ?_⟩, gg⟩
  · rw [gg.block hb (lt_of_block h.blk) (by simpa using fun e => hne e.symm)]
    exact h.blk
  · rw [flat_set] at o3
    rw [List.length_set]
    exact o3

end Go.Proofs.Ytekdjjfbkcgmhaa
