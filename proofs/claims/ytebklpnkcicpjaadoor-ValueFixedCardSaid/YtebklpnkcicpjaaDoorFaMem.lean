/-
 What is proved here: registers in memory: how they are read and written.
-/
import Derived.Test.YtebklpnkcicpjaaDoorFaDef
import Derived.Deep.MidRow
import Derived.Deep.WholeRow
namespace Go.Proofs.YtebklpnkcicpjaaDoor
open Go.RowKit
set_option linter.unusedVariables false
set_option linter.unusedSimpArgs false

theorem wpList_load_midG {P : Program} {ops : Array Oper} {rest : List Oper} {op : Oper} {a : Act} {w : World} {Q : Exit → Act → World → Prop} (hw : Region.wanted op (yielded ops a.tmps) = true) (ty : TypeId) (x : Operand) (ho : op.op = .load ty x)
  (b o : Nat) (hx : a.eval x = .pointer (some ⟨b, o, none⟩)) (cs : List Value) (d : TypeDesc) (hc : w.rangeAt b o cs)
  (hu : P.underlying ty = some d) (hd : d.isRow = true) (hi : (P.info? ty).map (·.size) = some cs.length)
  (h : wpList P ops Q rest (a.put op.dst (.agg cs.toArray)) w) : wpList P ops Q (op :: rest) a w :=
 wpList_step fun K hK => by simp only [hw, if_true]; exact wp_load_mid ty x ho b o hx cs d hc hu hd hi (hK _ _ h)
theorem cellsR_len (r : RG) : (cellsR r).length = r.length * 2 := by
 induction r with
 | nil => rfl
 | cons a l ih => simp only [cellsR, List.flatMap_cons, List.length_append, List.length_cons] at *; rw [ih]; simp; omega
theorem cellsR_at : ∀ (r : RG) (k j : Nat) (x : Int × Int), r[k]? = some x → j < 2 → (cellsR r)[k * 2 + j]? = [Value.int .i32 x.1, .int .i32 x.2][j]?
 | y :: L, 0, j, x, h, hj => by
  simp at h; subst h
  unfold cellsR
  rw [List.flatMap_cons, Nat.zero_mul, Nat.zero_add, List.getElem?_append_left (by simpa using hj)]
 | y :: L, k + 1, j, x, h, hj => by
  have h' : L[k]? = some x := by simpa using h
  have ih := cellsR_at L k j x h' hj
  unfold cellsR at ih ⊢
  rw [List.flatMap_cons, List.getElem?_append_right (by simp; omega), ← ih]
  simp only [List.length_cons, List.length_nil]
  congr 1
  omega
theorem cellsR_set : ∀ (r : RG) (k : Nat) (x : Int × Int), ((cellsR r).set (k * 2) (.int .i32 x.1)).set (k * 2 + 1) (.int .i32 x.2) = cellsR (r.set k x)
 | [], k, x => by simp [cellsR]
 | y :: L, 0, x => by simp [cellsR]
 | y :: L, k + 1, x => by
  have ih := cellsR_set L k x
  simp only [cellsR, List.flatMap_cons, List.set_cons_succ] at ih ⊢
  rw [← ih, show (k + 1) * 2 = k * 2 + 2 by omega]
  simp
theorem rg_nat (r : RG) (k : Nat) : rg r (k : Int) = r.getD k (0, 0) := by simp [rg]
theorem get_rg {r : RG} {k : Nat} (hk : k < r.length) : r[k]? = some (rg r (k : Int)) := by
 rw [rg_nat]
 simp [List.getD, List.getElem?_eq_getElem hk]
theorem cellsR_cut {r : RG} {k : Nat} (hk : k < r.length) : (cellsR r).toArray.extract (k * 2) (k * 2 + 2) = #[.int .i32 (rg r (k : Int)).1, .int .i32 (rg r (k : Int)).2] := by
 have hl := cellsR_len r
 apply Array.ext
 ·simp; omega
 ·intro i h1 h2
  have h3 : i < 2 := by simpa using h2
  have := cellsR_at r k i _ (get_rg hk) h3
  rw [List.getElem?_eq_getElem (by omega)] at this
  simp only [Array.getElem_extract, List.getElem_toArray]
  rw [List.getElem?_eq_getElem (by simpa using h3)] at this
  simpa using this
theorem part_regs {r : RG} {k : Nat} (hk : k < r.length) (w : World) : (part 25 (cellsR r).toArray (k * 2)).run Tryd.prog w = .ok (.agg #[.int .i32 (rg r (k : Int)).1, .int .i32 (rg r (k : Int)).2]) w := by
 have h1 : (isAgg 25).run Tryd.prog w = .ok true w := by kernel_rfl
 have h2 : (sizeOf 25).run Tryd.prog w = .ok 2 w := by kernel_rfl
 unfold part
 simp only [Sem.run_bind, h1, h2, Result.andThen_ok, if_true, Sem.run_pure]
 rw [cellsR_cut hk]
theorem index_regs {r : RG} (hr : r.length = 16) {k : Nat} (hk : k < 16) (w : World) : (Instr.index 27 (.agg (cellsR r).toArray) (.int .i64 (k : Int))).run Tryd.prog w = .ok (.agg #[.int .i32 (rg r (k : Int)).1, .int .i32 (rg r (k : Int)).2]) w := by
 have h2 : (sizeOf 25).run Tryd.prog w = .ok 2 w := by kernel_rfl
 have h3 : (0 : Int) ≤ k ∧ (k : Int) < ((16 : Nat) : Int) := by omega
 have h4 := part_regs (r := r) (k := k) (by omega) w
 simp [Instr.index, run_underlying Tryd.underlying27, asIntOf, Sem.run_bind, h2, hk, h4]
theorem forIn_all {P : Program} {w : World} (q : Nat → Bool) (g : Nat → Option Bool × PUnit → Sem (ForInStep (Option Bool × PUnit))) : ∀ (l : List Nat), (∀ i ∈ l, ∀ s, (g i s).run P w = .ok (if q i then .yield (none, ()) else .done (some false, ())) w) →
  (forIn l ((none, ()) : Option Bool × PUnit) g).run P w = .ok (if l.all q then (none, ()) else (some false, ())) w
 | [], _ => by simp
 | i :: l, h => by
  have ih := forIn_all q g l (fun j hj => h j (List.mem_cons_of_mem _ hj))
  have h1 := h i (List.mem_cons_self ..) (none, ())
  rw [List.forIn_cons, Sem.run_bind, h1]
  cases hq : q i <;> simp [hq, ih]
theorem eqIn_regs (d : Nat) {a b : RG} (ha : a.length = 16) (hb : b.length = 16) (w : World) : (Op.equalIn (d + 1 + 1 + 1) 27 (.agg (cellsR a).toArray) (.agg (cellsR b).toArray)).run Tryd.prog w = .ok (decide (a = b)) w := by
 rw [Op.equalIn]
 simp [run_underlying Tryd.underlying27, Sem.run_bind]
 rw [forIn_all (fun i => decide (rg a (i : Int) = rg b (i : Int)))]
 ·have e : (List.range' 0 16).all (fun i => decide (rg a (i : Int) = rg b (i : Int))) = decide (a = b) := by
   rw [Bool.eq_iff_iff, List.all_eq_true, decide_eq_true_eq]
   constructor
   ·intro h
    apply List.ext_getElem?
    intro i
    by_cases hi : i < 16
    ·have := h i (by simp [List.mem_range'_1]; omega)
     rw [decide_eq_true_eq] at this
     rw [get_rg (by omega), get_rg (by omega), this]
    ·rw [List.getElem?_eq_none (by omega), List.getElem?_eq_none (by omega)]
   ·rintro rfl i _
    simp
  rw [e]
  cases decide (a = b) <;> simp
 ·intro i hi s
  have hi2 : i < 16 := by simp [List.mem_range'_1] at hi; omega
  have h1 := part_regs (r := a) (k := i) (by omega) w
  have h2 := part_regs (r := b) (k := i) (by omega) w
  have h3 := eqIn_iv d (rg a (i : Int)).1 (rg a (i : Int)).2 (rg b (i : Int)).1 (rg b (i : Int)).2 w
  simp only [Sem.run_bind, h1, h2, Result.andThen_ok, h3]
  by_cases h4 : rg a (i : Int) = rg b (i : Int)
  ·simp [h4]
  ·have : ((rg a (i : Int)).1 == (rg b (i : Int)).1 && (rg a (i : Int)).2 == (rg b (i : Int)).2) = false := by
    rw [Bool.eq_false_iff]
    intro h5
    rw [Bool.and_eq_true] at h5
    exact h4 (Prod.ext (by simpa using h5.1) (by simpa using h5.2))
   simp [this, h4]
theorem eq_regs {a b : RG} (ha : a.length = 16) (hb : b.length = 16) (w : World) : (binOp .eql 27 (.agg (cellsR a).toArray) (.agg (cellsR b).toArray)).run Tryd.prog w = .ok (.bool (decide (a = b))) w := by
 simp only [binOp]
 simp [Op.equal, Op.maxDepth, eqIn_regs 9997 ha hb]
def RBox (w : World) (b : Nat) (T : TypeId) (r : RG) : Prop := w.heap[b]? = some (.cells (cellsR r).toArray T (0, 0))
section
variable {w : World} {b : Nat} {T : TypeId} {r : RG}
theorem RBox.lt (h : RBox w b T r) : b < w.heap.size := (Array.getElem?_eq_some_iff.1 h).1
theorem RBox.lo (h : RBox w b T r) {k : Nat} (hk : k < r.length) : w.cell? ⟨b, k * 2, none⟩ = some (.int .i32 (rg r (k : Int)).1) := by
 have := cellsR_at r k 0 _ (get_rg hk) (by omega)
 unfold RBox at h
 simpa [World.cell?, h] using this
theorem RBox.hi (h : RBox w b T r) {k : Nat} (hk : k < r.length) : w.cell? ⟨b, k * 2 + 1, none⟩ = some (.int .i32 (rg r (k : Int)).2) := by
 have := cellsR_at r k 1 _ (get_rg hk) (by omega)
 unfold RBox at h
 simpa [World.cell?, h] using this
theorem RBox.fz (h : RBox w b T r) (o : Nat) : w.frozen? ⟨b, o, none⟩ = false := by unfold RBox at h; simp [World.frozen?, h]
theorem RBox.keep {w' : World} (h : RBox w b T r) (hb : Below w.heap.size w w') : RBox w' b T r := (hb.block b h.lt).trans h
theorem RBox.set (h : RBox w b T r) (k : Nat) (x : Int × Int) : RBox ((w.setCell ⟨b, k * 2, none⟩ (.int .i32 x.1)).setCell ⟨b, k * 2 + 1, none⟩ (.int .i32 x.2)) b T (r.set k x) := by
 unfold RBox at h ⊢
 rw [heap_setCell_same _ b _ _ T _ (heap_setCell_same w b _ _ T _ h), ← cellsR_set]
 simp
theorem RBox.range (h : RBox w b T r) : w.rangeAt b 0 (cellsR r) := fun j v hv => by
 unfold RBox at h
 simp [World.cell?, h, hv]
end

end Go.Proofs.YtebklpnkcicpjaaDoor


