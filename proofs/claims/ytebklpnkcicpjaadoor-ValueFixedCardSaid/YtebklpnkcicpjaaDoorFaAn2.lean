/-
 What is proved here: how the rows of an analysis are written.
-/
import Derived.Test.YtebklpnkcicpjaaDoorFaAn
namespace Go.Proofs.YtebklpnkcicpjaaDoor
open Go.RowKit
set_option linter.unusedVariables false
set_option linter.unusedSimpArgs false

theorem heap_setCells_same (b : Nat) (T : TypeId) : ∀ (vs : List Value) (o : Nat) (w : World) (xs : List Value), w.heap[b]? = some (.cells xs.toArray T (0, 0)) → o + vs.length ≤ xs.length → (w.setCells b o vs).heap[b]? = some (.cells (xs.take o ++ vs ++ xs.drop (o + vs.length)).toArray T (0, 0))
 | [], o, w, xs, h, hl => by simpa [World.setCells] using h
 | v :: vs, o, w, xs, h, hl => by
  rw [World.setCells]
  simp only [List.length_cons] at hl
  have h1 : (w.setCell ⟨b, o, none⟩ v).heap[b]? = some (.cells (xs.set o v).toArray T (0, 0)) := by
   rw [heap_setCell_same w b o _ T _ h]; simp
  rw [heap_setCells_same b T vs (o + 1) _ _ h1 (by simp; omega)]
  congr 2
  have e1 : (xs.set o v).take (o + 1) = xs.take o ++ [v] := by
   apply List.ext_getElem?
   intro i
   rw [List.getElem?_take, List.getElem?_set]
   by_cases hi : i < o
   ·rw [if_pos (by omega), if_neg (by omega), List.getElem?_append_left (by rw [List.length_take]; omega), List.getElem?_take, if_pos hi]
   ·by_cases hi2 : i = o
    ·subst hi2
     rw [if_pos (by omega), if_pos rfl, if_pos (by omega), List.getElem?_append_right (by rw [List.length_take]; omega), List.length_take, Nat.min_eq_left (by omega)]
     simp
    ·rw [if_neg (by omega), List.getElem?_eq_none]
     rw [List.length_append, List.length_take]; simp; omega
  have e2 : (xs.set o v).drop (o + 1 + vs.length) = xs.drop (o + (v :: vs).length) := by
   apply List.ext_getElem?
   intro i
   rw [List.getElem?_drop, List.getElem?_drop, List.getElem?_set, if_neg (by omega), List.length_cons]
   congr 1
   omega
  rw [e1, e2]
  simp
theorem heap_setCells_other (b : Nat) : ∀ (vs : List Value) (o : Nat) (w : World) (k : Nat), k ≠ b → (w.setCells b o vs).heap[k]? = w.heap[k]?
 | [], o, w, k, _ => rfl
 | v :: vs, o, w, k, h => by
  rw [World.setCells, heap_setCells_other b vs (o + 1) _ k h, Below.heap_setCell _ _ _ _ (by show k ≠ b; exact h)]
theorem setCells_same (b : Nat) : ∀ (vs : List Value) (o : Nat) (w : World), (w.setCells b o vs).os = w.os ∧ (w.setCells b o vs).tape = w.tape ∧ (w.setCells b o vs).output = w.output ∧ (w.setCells b o vs).heap.size = w.heap.size
 | [], o, w => ⟨rfl, rfl, rfl, rfl⟩
 | v :: vs, o, w => by
  rw [World.setCells]
  obtain ⟨h1, h2, h3, h4⟩ := setCells_same b vs (o + 1) (w.setCell ⟨b, o, none⟩ v)
  exact ⟨h1, h2, h3, h4.trans (by simp)⟩
theorem Fr.setCells {S : Nat → Prop} {w w' : World} {b o : Nat} (h : Fr S w w') (vs : List Value) (hp : S b ∨ w.heap.size ≤ b) : Fr S w (w'.setCells b o vs) := by
 obtain ⟨h1, h2, h3, h4⟩ := setCells_same b vs o w'
 refine ⟨h1.trans h.os, h2.trans h.tape, h3.trans h.output, by rw [h4]; exact h.size, fun k hk hn => ?_⟩
 rw [heap_setCells_other b vs o w' k (by rintro rfl; rcases hp with hp | hp; exact hn hp; omega)]
 exact h.block k hk hn
theorem reach_set {l : List Bool} {t : Nat} (v : Bool) : (l.map Value.bool).toArray.setIfInBounds t (.bool v) = ((l.set t v).map Value.bool).toArray := by
 simp [List.map_set]
theorem rep_set {l : List Int} {t : Nat} (v : Int) : (l.map (Value.int .i64)).toArray.setIfInBounds t (.int .i64 v) = ((l.set t v).map (Value.int .i64)).toArray := by
 simp [List.map_set]
section
variable {V w w' : World} {ab cb rb ib pb : Nat} {bv pv : Value} {G : List Blk} {B : List AB} {val : Nat → Value} {s : AS}
theorem An.there (h : An V w ab cb rb ib pb bv pv G B val s) {t : Nat} (ht : t < B.length) : w.there ib (t * 32) 32 := fun j hj => by
 have hl : t < s.inn.length := by rw [h.asi.l2]; exact ht
 have h1 := rowR_len h.len16
 constructor
 ·have : t * 32 + j < (rowR s.inn).length := by omega
  simp [World.cell?, h.irow, List.getElem?_eq_getElem this]
 ·simp [World.frozen?, h.irow]
theorem row_in (h : ∀ r ∈ s.inn, r.length = 16) {t : Nat} (ht : t < s.inn.length) {r : RG} (hr : r.length = 16) (hi : w.heap[ib]? = some (.cells (rowR s.inn).toArray 27 (0, 0))) :
  (w.setCells ib (t * 32) (cellsR r)).heap[ib]? = some (.cells (rowR (s.inn.set t r)).toArray 27 (0, 0)) := by
 have h1 := rowR_len h
 have hc : (cellsR r).length = 32 := by rw [cellsR_len, hr]
 rw [heap_setCells_same ib _ (cellsR r) (t * 32) w _ hi (by omega), hc, rowR_set h ht hr]
theorem An.isize (h : An V w ab cb rb ib pb bv pv G B val s) : s.inn.length = B.length := h.asi.l2
theorem An.first (h : An V w ab cb rb ib pb bv pv G B val s) (hf : Below w.heap.size w w') {t : Nat} (ht : t < B.length) {r : RG} (hr : R16 r) (hn : s.reach.getD t false = false) :
  An V ((w'.setCell ⟨rb, t, none⟩ (.bool true)).setCells ib (t * 32) (cellsR r)) ab cb rb ib pb bv pv G B val (stepE s t (some r)).1 ∧ Fr (An3 rb ib pb) w ((w'.setCell ⟨rb, t, none⟩ (.bool true)).setCells ib (t * 32) (cellsR r)) := by
 obtain ⟨-, -, -, -, -, -, n7, n8, n9⟩ := h.ne
 have h' := h.below hf
 have F : Fr (An3 rb ib pb) w' ((w'.setCell ⟨rb, t, none⟩ (.bool true)).setCells ib (t * 32) (cellsR r)) := ((Fr.refl _ _).set _ (.inl (.inl rfl))).setCells _ (.inl (.inr (.inl rfl)))
 have ha := (stepE_asi h.asi ht (some r) (fun _ e => by cases e; exact hr)).1
 unfold stepE at ha ⊢
 simp only [if_pos hn] at ha ⊢
 refine ⟨h'.to F ?_ ?_ ?_ ha, (Fr.of hf).trans F⟩
 ·rw [heap_setCells_other _ _ _ _ _ n7, heap_setCell_same _ _ _ _ _ _ h'.rrow, reach_set]
 ·exact row_in h'.len16 (by rw [h'.isize]; exact ht) hr.len (by rw [Below.heap_setCell _ _ _ _ (by show ib ≠ rb; exact n7.symm)]; exact h'.irow)
 ·rw [heap_setCells_other _ _ _ _ _ n9.symm, Below.heap_setCell _ _ _ _ (by show pb ≠ rb; exact n8.symm)]; exact h'.prow
theorem An.again (h : An V w ab cb rb ib pb bv pv G B val s) (hf : Below w.heap.size w w') {t : Nat} (ht : t < B.length) {r : RG} (hr : R16 r) (hn : s.reach.getD t false = true) (hne : joinR (s.inn.getD t []) r ≠ s.inn.getD t []) :
  An V ((w'.setCells ib (t * 32) (cellsR (if 2 ≤ s.rep.getD t 0 then widenR (s.inn.getD t []) (joinR (s.inn.getD t []) r) else joinR (s.inn.getD t []) r))).setCell ⟨pb, t, none⟩ (.int .i64 (s.rep.getD t 0 + 1))) ab cb rb ib pb bv pv G B val (stepE s t (some r)).1 ∧ Fr (An3 rb ib pb) w ((w'.setCells ib (t * 32) (cellsR (if 2 ≤ s.rep.getD t 0 then widenR (s.inn.getD t []) (joinR (s.inn.getD t []) r) else joinR (s.inn.getD t []) r))).setCell ⟨pb, t, none⟩ (.int .i64 (s.rep.getD t 0 + 1))) := by
 obtain ⟨-, -, -, -, -, -, n7, n8, n9⟩ := h.ne
 have h' := h.below hf
 have hg := h.asi.get ht
 have hj := hg.join hr
 have hnew : R16 (if 2 ≤ s.rep.getD t 0 then widenR (s.inn.getD t []) (joinR (s.inn.getD t []) r) else joinR (s.inn.getD t []) r) := by split; exact hg.widen hj; exact hj
 have F : Fr (An3 rb ib pb) w' ((w'.setCells ib (t * 32) (cellsR (if 2 ≤ s.rep.getD t 0 then widenR (s.inn.getD t []) (joinR (s.inn.getD t []) r) else joinR (s.inn.getD t []) r))).setCell ⟨pb, t, none⟩ (.int .i64 (s.rep.getD t 0 + 1))) := ((Fr.refl _ _).setCells _ (.inl (.inr (.inl rfl)))).set _ (.inl (.inr (.inr rfl)))
 have ha := (stepE_asi h.asi ht (some r) (fun _ e => by cases e; exact hr)).1
 unfold stepE at ha ⊢
 simp only [if_neg (show ¬ s.reach.getD t false = false by rw [hn]; simp), if_neg hne] at ha ⊢
 refine ⟨h'.to F ?_ ?_ ?_ ha, (Fr.of hf).trans F⟩
 ·rw [Below.heap_setCell _ _ _ _ (by show rb ≠ pb; exact n8), heap_setCells_other _ _ _ _ _ n7]; exact h'.rrow
 ·rw [Below.heap_setCell _ _ _ _ (by show ib ≠ pb; exact n9)]
  exact row_in h'.len16 (by rw [h'.isize]; exact ht) hnew.len h'.irow
 ·rw [heap_setCell_same _ _ _ _ _ _ ((heap_setCells_other _ _ _ _ _ n9.symm).trans h'.prow), rep_set]
end

end Go.Proofs.YtebklpnkcicpjaaDoor


