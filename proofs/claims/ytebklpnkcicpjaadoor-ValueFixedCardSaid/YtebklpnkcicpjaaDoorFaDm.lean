/-
 What is proved here: the list of dead edges, in plain mathematics and in memory.
-/
import Derived.Test.YtebklpnkcicpjaaDoorFaAn2
import Derived.Test.YtebklpnkcicpjaaDoorFbCd
namespace Go.Proofs.YtebklpnkcicpjaaDoor
open Go.RowKit
set_option linter.unusedVariables false
set_option linter.unusedSimpArgs false

theorem deadB_zero (b : AB) (n : Nat) (r : RG) : deadB b n 0 r = [] := by unfold deadB; cases runR b.code r <;> simp
theorem deadB_none {b : AB} {n k : Nat} {r : RG} (h : runR b.code r = none) (hk : k < b.nx.length) : deadB b n (k + 1) r = deadB b n k r ++ [((n : Int), b.nx.getD k 0)] := by
 unfold deadB
 rw [h]
 simp only
 rw [List.take_add_one, List.map_append, List.getElem?_eq_getElem hk]
 simp [List.getD, List.getElem?_eq_getElem hk]
theorem deadB_some {b : AB} {n k : Nat} {r aft : RG} (h : runR b.code r = some aft) : deadB b n (k + 1) r = deadB b n k r ++ (if (edgeR b.last b.nx.length k aft).isNone = true then [((n : Int), b.nx.getD k 0)] else []) := by
 unfold deadB
 rw [h]
 simp only
 rw [List.range_succ, List.filter_append, List.map_append]
 congr 1
 cases he : (edgeR b.last b.nx.length k aft).isNone <;> simp only [List.filter_cons, List.filter_nil, he] <;> simp
theorem deadK_succ (B : List AB) (s : AS) (n : Nat) : deadK B s (n + 1) = deadK B s n ++ (if s.reach.getD n false = true then deadB (B.getD n ⟨[], []⟩) n (B.getD n ⟨[], []⟩).nx.length (s.inn.getD n []) else []) := by
 unfold deadK
 rw [List.range_succ, List.flatMap_append]
 simp
theorem deadB_len (b : AB) (n k : Nat) (r : RG) : (deadB b n k r).length ≤ k := by
 unfold deadB
 cases runR b.code r with
 | none => simp; omega
 | some aft =>
  simp only [List.length_map]
  exact Nat.le_trans (List.length_filter_le _ _) (by simp)
theorem deadK_len {B : List AB} {s : AS} (h : ∀ (k : Nat) (b : AB), B[k]? = some b → b.nx.length ≤ 1000) : ∀ n, (deadK B s n).length ≤ 1000 * n
 | 0 => by simp [deadK]
 | n + 1 => by
  rw [deadK_succ, List.length_append]
  have ih := deadK_len (s := s) h n
  have h1 : (if s.reach.getD n false = true then deadB (B.getD n ⟨[], []⟩) n (B.getD n ⟨[], []⟩).nx.length (s.inn.getD n []) else []).length ≤ 1000 := by
   split
   ·refine Nat.le_trans (deadB_len _ _ _ _) ?_
    cases hb : B[n]? with
    | none => simp [List.getD, hb]
    | some b => rw [show B.getD n ⟨[], []⟩ = b by simp [List.getD, hb]]; exact h n b hb
   ·simp
  omega
structure DM (Z wr : World) (b15 rb ib n : Nat) (dv : Value) (L : List (Int × Int)) : Prop where
 bel : Below Z.heap.size Z wr
 ge : Z.heap.size ≤ b15
 head : wr.heap[b15]? = some (.cells #[.slice (some ⟨rb, 0, none⟩) n n, .slice (some ⟨ib, 0, none⟩) n n, dv] 55 (0, 0))
 row : wr.ownsRow Z.heap.size 72 2 dv L.length (pvs L)
section
variable {Z wr : World} {b15 rb ib n : Nat} {dv : Value} {L : List (Int × Int)}
theorem DM.below {wr' : World} (h : DM Z wr b15 rb ib n dv L) (hb : Below wr.heap.size wr wr') : DM Z wr' b15 rb ib n dv L :=
 ⟨h.bel.trans (hb.mono h.bel.size), h.ge, (hb.block _ (lt_of_blk' h.head)).trans h.head, ownsRow_below h.row hb⟩
theorem DM.cell (h : DM Z wr b15 rb ib n dv L) : wr.cell? ⟨b15, 2, none⟩ = some dv ∧ wr.frozen? ⟨b15, 2, none⟩ = false ∧ b15 < wr.heap.size := by
 refine ⟨by simp [World.cell?, h.head], by simp [World.frozen?, h.head], lt_of_blk' h.head⟩
theorem DM.qne (h : DM Z wr b15 rb ib n dv L) : some b15 ≠ dv.ownBlock := fun e => by
 obtain ⟨cs, hc⟩ := own_type h.row e.symm
 exact ne_type hc h.head (by decide) rfl
theorem DM.app {w2 W' : World} {y : Int × Int} {v' : Value} (h : DM Z wr b15 rb ib n dv L) (hb : Below wr.heap.size wr w2) (hg : w2.grownBy W' dv.ownBlock)
  (hown : W'.ownsRow Z.heap.size 72 2 v' (L.length + 1) (pvs (L ++ [y]))) :
  DM Z (W'.setCell ⟨b15, 2, none⟩ v') b15 rb ib n v' (L ++ [y]) ∧ ∀ (k : Nat) (cs : Array Value) (T : TypeId), wr.heap[k]? = some (.cells cs T (0, 0)) → T ≠ 72 → T ≠ 55 → (W'.setCell ⟨b15, 2, none⟩ v').heap[k]? = some (.cells cs T (0, 0)) := by
 have G := grown_of hb hg
 have S := grown_setCell W' b15 2 v'
 have hq : ∀ q, dv.ownBlock = some q → Z.heap.size ≤ q := fun q hq => (h.row.lt q hq).1
 have h15 : W'.heap[b15]? = some (.cells #[.slice (some ⟨rb, 0, none⟩) n n, .slice (some ⟨ib, 0, none⟩) n n, dv] 55 (0, 0)) := (G.block b15 (lt_of_blk' h.head) (fun e => h.qne e)).trans h.head
 refine ⟨⟨(h.bel.grown G h.bel.size hq).grown S (by have := G.size; have := h.bel.size; omega) (fun k hk => by cases hk; exact h.ge), h.ge, ?_, ?_⟩, fun k cs T hk h1 h2 => ?_⟩
 ·rw [heap_setCell_same _ _ _ _ _ _ h15]
  rfl
 ·rw [show (L ++ [y]).length = L.length + 1 by simp]
  refine hown.kept S ?_
  cases hv : v'.ownBlock with
  | none => exact .inl rfl
  | some q =>
   refine .inr (fun e' => ?_)
   obtain ⟨cs, hc⟩ := own_type hown hv
   have e2 : q = b15 := by simpa using e'
   exact ne_type hc h15 (by decide) e2
 ·rw [Below.heap_setCell _ _ _ _ (by show k ≠ b15; exact ne_type hk h.head h2), G.block k (lt_of_blk' hk) (fun e => by
   obtain ⟨cs', hc⟩ := own_type h.row e.symm
   exact ne_type hk hc h1 rfl)]
  exact hk
end

end Go.Proofs.YtebklpnkcicpjaaDoor


