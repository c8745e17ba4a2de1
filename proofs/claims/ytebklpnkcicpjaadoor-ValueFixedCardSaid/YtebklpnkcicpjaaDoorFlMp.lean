/-
 What is proved here: a map of edges: its keys; which edges are in it; the dead edges' bounds.
-/
import Derived.Test.YtebklpnkcicpjaaDoorFMap
import Derived.Test.YtebklpnkcicpjaaDoorFlCm
namespace Go.Proofs.YtebklpnkcicpjaaDoor
open Go.RowKit
set_option linter.unusedVariables false
set_option linter.unusedSimpArgs false

theorem pairKey : PairKey Tryd.prog 72 where
 law := Go.Maps.Keyed.of_law (deep_law (m := 2) (by omega) (by kernel_rfl) (by kernel_rfl) (by kernel_rfl))
 key := fun k h => by
  obtain ⟨h1, h2⟩ := h
  have e1 : Tryd.prog.keyType 72 = true := by kernel_rfl
  have e2 : (pv k).formed Tryd.prog 72 = true := by kernel_rfl
  have e3 : Tryd.prog.cellsOf 72 = 2 := by kernel_rfl
  have e4 : Tryd.prog.cellsOf 3 = 1 := by kernel_rfl
  obtain ⟨n, hn⟩ : ∃ n, Tryd.prog.types.size = n + 1 := ⟨Tryd.prog.types.size - 1, by have : 0 < Tryd.prog.types.size := of_decide_eq_true (by kernel_rfl); omega⟩
  have e6 : List.range 2 = [0, 1] := rfl
  have e5 : Tryd.prog.keyLits (Tryd.prog.types.size + 1) 72 (pv k).cells.toList = some [.int .i64 k.1, .int .i64 k.2] := by
   rw [hn]
   simp [Program.keyLits, Tryd.underlying72, Tryd.underlying3, pv, Value.cells, e3, e4, e6, h1, h2]
  unfold keyOf
  simp only [Tryd.underlying72, e1, e2, e5]
  exact ⟨_, rfl⟩
theorem bcell {W w1 : World} (hb : Below W.heap.size W w1) : (∀ b o, b < W.heap.size → w1.cell? ⟨b, o, none⟩ = W.cell? ⟨b, o, none⟩) ∧ (∀ b o, b < W.heap.size → w1.frozen? ⟨b, o, none⟩ = W.frozen? ⟨b, o, none⟩) :=
 ⟨fun b o h => hb.cell (p := ⟨b, o, none⟩) h, fun b o h => hb.frozen (p := ⟨b, o, none⟩) h⟩
theorem zeroB (w : World) : (zeroValue 4).run Tryd.prog w = .ok (.bool false) w := by kernel_rfl
def pmOf (L : List (Int × Int)) : Int × Int → Option Value := fun k => if k ∈ L then some (.bool true) else none
theorem pmOf_nil : pmOf [] = fun _ => none := by funext k; simp [pmOf]
theorem pmOf_step {L : List (Int × Int)} {k : Nat} {p : Int × Int} (h : L[k]? = some p) : pdo (pmOf (L.take k)) p (.bool true) = pmOf (L.take (k + 1)) := by
 obtain ⟨hk, e⟩ := List.getElem?_eq_some_iff.1 h
 have e2 : L.take (k + 1) = L.take k ++ [p] := by rw [List.take_succ_eq_append_getElem hk, e]
 funext x
 unfold pdo pmOf
 rw [e2]
 by_cases hx : x = p
 ·simp [hx]
 ·simp [hx]
theorem edge_look {w : World} {b : Nat} {L : List (Int × Int)} (h : Pm w b (pmOf L)) {x y : Int} (hx : kwf x) (hy : kwf y) :
  (Instr.lookup 71 (.map (some b)) (.agg #[.int .i64 x, .int .i64 y]) false).run Tryd.prog w = .ok (.bool (decide ((x, y) ∈ L))) w := by
 by_cases hm : (x, y) ∈ L
 ·have := h.look_some pairKey Tryd.underlying71 (k := (x, y)) (v := .bool true) (by unfold pmOf; rw [if_pos hm]) false
  rw [decide_eq_true hm]
  exact this
 ·have := h.look_none pairKey Tryd.underlying71 (zeroB w) (k := (x, y)) ⟨hx, hy⟩ (by unfold pmOf; rw [if_neg hm]) false
  rw [decide_eq_false hm]
  exact this
theorem deadK_in {n : Nat} {cd : Nat → Int} {G : List Blk} {s : AS} (hok : ∀ x ∈ G, GOk n cd G x) {p : Int × Int} (h : p ∈ deadK (absOf cd G) s G.length) : 0 ≤ p.1 ∧ p.1 < (G.length : Int) ∧ 0 ≤ p.2 ∧ p.2 < (G.length : Int) := by
 unfold deadK at h
 obtain ⟨j, hj, h⟩ := List.mem_flatMap.1 h
 have hj := List.mem_range.1 hj
 split at h
 ·have hx : G[j]? = some G[j] := List.getElem?_eq_getElem hj
  have e : (absOf cd G).getD j ⟨[], []⟩ = ⟨codeFrom cd G[j].lo (G[j].hi - G[j].lo).toNat, G[j].nx⟩ := by unfold absOf; simp [List.getD, hx]
  rw [e] at h
  have ho := hok _ (List.getElem_mem hj)
  unfold deadB at h
  simp only at h
  split at h
  ·obtain ⟨t, ht, rfl⟩ := List.mem_map.1 h
   have := ho.nx t (List.mem_of_mem_take ht)
   exact ⟨by simp, by simp; omega, this.1, this.2⟩
  ·obtain ⟨q, hq, rfl⟩ := List.mem_map.1 h
   have hq := List.mem_range.1 (List.mem_filter.1 hq).1
   have := ho.nx (G[j].nx.getD q 0) (by
    rw [show G[j].nx.getD q 0 = G[j].nx[q] by simp [List.getD, List.getElem?_eq_getElem hq]]
    exact List.getElem_mem hq)
   exact ⟨by simp, by simp; omega, this.1, this.2⟩
 ·cases h

end Go.Proofs.YtebklpnkcicpjaaDoor


