/-
  What is proved here: how a heap of items lies in memory.
-/
import Derived.Test.YtekdjjfbkcgmhaaHpSmall
namespace Go.Proofs.Ytekdjjfbkcgmhaa
open Go.RowKit Hp
set_option linter.unusedVariables false
set_option linter.unusedSimpArgs false

theorem flat_length (L : List It) : (flat L).length = L.length * 3 := by
  induction L with
  | nil => rfl
  | cons a L ih => simp only [flat, List.flatMap_cons, List.length_append, List.length_cons] at *; rw [ih]; simp [It.cells]; omega
theorem flat_cons (a : It) (L : List It) : flat (a :: L) = .int .i64 a.key :: .int .i64 a.name :: .int .i64 a.ord :: flat L := rfl
theorem flat_append (L M : List It) : flat (L ++ M) = flat L ++ flat M := by simp [flat]
theorem flat_get (L : List It) : ∀ (i : Nat), i < L.length → (flat L)[i * 3]? = some (.int .i64 (at_ L i).key) ∧ (flat L)[i * 3 + 1]? = some (.int .i64 (at_ L i).name) ∧ (flat L)[i * 3 + 2]? = some (.int .i64 (at_ L i).ord) := by
  induction L with
  | nil => intro i h; simp at h
  | cons a L ih =>
    intro i h
    rw [flat_cons]
    cases i with
    | zero => simp [at_]
    | succ i =>
      have := ih i (by simpa using h)
      have e : at_ (a :: L) (i + 1) = at_ L i := by simp [at_, List.getD]
      rw [e, show (i + 1) * 3 = i * 3 + 3 by omega]
      simpa using this

/-- The rows of items. -/
theorem own_items {w : World} {B : Nat} {v : Value} {L : List It} (h : w.ownsRow B 67 3 v L.length (flat L)) (hne : 0 < L.length) :
    ∃ g cap, v = .slice (some ⟨g, 0, none⟩) L.length cap ∧ B ≤ g ∧ g < w.heap.size ∧ L.length ≤ cap ∧ cap ≤ maxLen ∧ (∃ cur, w.heap[g]? = some (.cells cur 67 (0, 0)) ∧ cur.size = cap * 3 ∧ cur.toList.take (L.length * 3) = flat L) ∧
      ∀ i, i < L.length → w.cell? ⟨g, i * 3, none⟩ = some (.int .i64 (at_ L i).key) ∧ w.cell? ⟨g, i * 3 + 1, none⟩ = some (.int .i64 (at_ L i).name) ∧ w.cell? ⟨g, i * 3 + 2, none⟩ = some (.int .i64 (at_ L i).ord) := by
  rcases h.2 with ⟨_, h0⟩ | ⟨g, cap, cur, hv, hb, hg, hn, hm, hsz, ht⟩
  · omega
  · refine ⟨g, cap, hv, hb, ?_, hn, hm, ⟨cur, hg, hsz, ht⟩, fun i hi => ?_⟩
    · rcases Nat.lt_or_ge g w.heap.size with h' | h'
      · exact h'
      · rw [Array.getElem?_eq_none h'] at hg; cases hg
    · have key : ∀ j, j < L.length * 3 → cur.toList[j]? = (flat L)[j]? := by
        intro j hj
        have := congrArg (fun x => x[j]?) ht
        simp only [List.getElem?_take, hj, if_true] at this
        exact this
      obtain ⟨f1, f2, f3⟩ := flat_get L i hi
      refine ⟨?_, ?_, ?_⟩
      · have := (key (i * 3) (by omega)).trans f1
        simpa [World.cell?, hg] using this
      · have := (key (i * 3 + 1) (by omega)).trans f2
        simpa [World.cell?, hg] using this
      · have := (key (i * 3 + 2) (by omega)).trans f3
        simpa [World.cell?, hg] using this

/-- A heap: its function, its items, the number of the next push. -/
structure HpAt (w : World) (B hb : Nat) (fid : FuncId) (v : Value) (L : List It) (nx : Int) : Prop where
  blk : w.heap[hb]? = some (.cells #[.func (.func fid) #[] #[], v, .int .i64 nx] 65 (0, 0))
  row : w.ownsRow B 67 3 v L.length (flat L)
theorem lt_of_block {W : World} {k : Nat} {ob : Obj} (h : W.heap[k]? = some ob) : k < W.heap.size := by
  rcases Nat.lt_or_ge k W.heap.size with h' | h'
  · exact h'
  · rw [Array.getElem?_eq_none h'] at h; cases h
theorem HpAt.cells {w : World} {B hb : Nat} {fid : FuncId} {v : Value} {L : List It} {nx : Int} (h : HpAt w B hb fid v L nx) :
    w.cell? ⟨hb, 0, none⟩ = some (.func (.func fid) #[] #[]) ∧ w.cell? ⟨hb, 1, none⟩ = some v ∧ w.cell? ⟨hb, 2, none⟩ = some (.int .i64 nx) ∧ w.frozen? ⟨hb, 1, none⟩ = false ∧ w.frozen? ⟨hb, 2, none⟩ = false ∧ hb < w.heap.size := by
  refine ⟨?_, ?_, ?_, ?_, ?_, lt_of_block h.blk⟩ <;> simp [World.cell?, World.frozen?, h.blk]
theorem ext_block {W : World} (y : Ext W) {k : Nat} {ob : Obj} (h : W.heap[k]? = some ob) : y.w.heap[k]? = some ob := by
  rw [y.h.block k (lt_of_block h)]; exact h
theorem own_ext {W : World} (y : Ext W) {B n size : Nat} {e : TypeId} {v : Value} {xs : List Value} (h : W.ownsRow B e size v n xs) : y.w.ownsRow B e size v n xs := by
  refine ⟨h.1, ?_⟩
  rcases h.2 with h0 | ⟨g, cap, cur, hv, hb, hk, hr⟩
  · exact .inl h0
  · exact .inr ⟨g, cap, cur, hv, hb, ext_block y hk, hr⟩
theorem HpAt.ext {W : World} {B hb : Nat} {fid : FuncId} {v : Value} {L : List It} {nx : Int} (h : HpAt W B hb fid v L nx) (y : Ext W) : HpAt y.w B hb fid v L nx :=
  ⟨ext_block y h.blk, own_ext y h.row⟩

end Go.Proofs.Ytekdjjfbkcgmhaa
