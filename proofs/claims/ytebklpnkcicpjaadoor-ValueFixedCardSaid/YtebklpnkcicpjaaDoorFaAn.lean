/-
 What is defined here: the state of an analysis in memory; how it is read and written.
-/
import Derived.Test.YtebklpnkcicpjaaDoorFaCb
import Derived.Test.YtebklpnkcicpjaaDoorFaPot2
import Derived.Test.YtebklpnkcicpjaaDoorFbCb
import Derived.Test.YtebklpnkcicpjaaDoorFbCd
import Derived.Test.YtebklpnkcicpjaaDoorFbKa
namespace Go.Proofs.YtebklpnkcicpjaaDoor
open Go.RowKit
set_option linter.unusedVariables false
set_option linter.unusedSimpArgs false

def insCells (l : List Ins) : List Value := l.flatMap fun i => [.int .u8 i.op, .int .i64 i.a, .int .i64 i.b, .int .i64 i.c, .int .i64 i.imm]
theorem insCells_at : ∀ (l : List Ins) (k j : Nat) (i : Ins), l[k]? = some i → j < 5 → (insCells l)[k * 5 + j]? = [Value.int .u8 i.op, .int .i64 i.a, .int .i64 i.b, .int .i64 i.c, .int .i64 i.imm][j]?
 | y :: L, 0, j, x, h, hj => by
  simp at h; subst h
  unfold insCells
  rw [List.flatMap_cons, Nat.zero_mul, Nat.zero_add, List.getElem?_append_left (by simpa using hj)]
 | y :: L, k + 1, j, x, h, hj => by
  have h' : L[k]? = some x := by simpa using h
  have ih := insCells_at L k j x h' hj
  unfold insCells at ih ⊢
  rw [List.flatMap_cons, List.getElem?_append_right (by simp; omega), ← ih]
  simp only [List.length_cons, List.length_nil]
  congr 1
  omega
theorem insCells_snoc (l : List Ins) (i : Ins) : insCells (l ++ [i]) = insCells l ++ [.int .u8 i.op, .int .i64 i.a, .int .i64 i.b, .int .i64 i.c, .int .i64 i.imm] := by simp [insCells]
def rowR (L : List RG) : List Value := L.flatMap cellsR
theorem rowR_len : ∀ {L : List RG}, (∀ r ∈ L, r.length = 16) → (rowR L).length = L.length * 32
 | [], _ => rfl
 | r :: L, h => by
  have ih := rowR_len (L := L) (fun x hx => h x (List.mem_cons_of_mem _ hx))
  have h1 := h r (List.mem_cons_self ..)
  unfold rowR at ih ⊢
  rw [List.flatMap_cons, List.length_append, ih, cellsR_len, h1, List.length_cons]
  omega
theorem rowR_at : ∀ {L : List RG} {k : Nat} {r : RG}, (∀ r ∈ L, r.length = 16) → L[k]? = some r → ∀ j, j < 32 → (rowR L)[k * 32 + j]? = (cellsR r)[j]?
 | y :: L, 0, r, h, hk, j, hj => by
  simp at hk; subst hk
  unfold rowR
  rw [List.flatMap_cons, Nat.zero_mul, Nat.zero_add, List.getElem?_append_left (by rw [cellsR_len, h y (List.mem_cons_self ..)]; omega)]
 | y :: L, k + 1, r, h, hk, j, hj => by
  have hk' : L[k]? = some r := by simpa using hk
  have ih := rowR_at (fun x hx => h x (List.mem_cons_of_mem _ hx)) hk' j hj
  unfold rowR at ih ⊢
  rw [List.flatMap_cons, List.getElem?_append_right (by rw [cellsR_len, h y (List.mem_cons_self ..)]; omega), ← ih, cellsR_len, h y (List.mem_cons_self ..)]
  congr 1
  omega
theorem rowR_set {L : List RG} (h : ∀ r ∈ L, r.length = 16) {k : Nat} (hk : k < L.length) {r : RG} (hr : r.length = 16) :
  (rowR L).take (k * 32) ++ cellsR r ++ (rowR L).drop (k * 32 + 32) = rowR (L.set k r) := by
 have hl := rowR_len h
 have h' : ∀ x ∈ L.set k r, x.length = 16 := fun x hx => by rcases List.mem_or_eq_of_mem_set hx with h1 | rfl; exact h _ h1; exact hr
 have hl' := rowR_len h'
 rw [List.length_set] at hl'
 have hc : (cellsR r).length = 32 := by rw [cellsR_len, hr]
 apply List.ext_getElem?
 intro q
 by_cases hq : q < L.length * 32
 ·obtain ⟨a, b, hb, rfl⟩ : ∃ a b, b < 32 ∧ q = a * 32 + b := ⟨q / 32, q % 32, Nat.mod_lt _ (by omega), by omega⟩
  have ha : a < L.length := by omega
  by_cases e : a = k
  ·subst e
   rw [rowR_at h' (r := r) (by simp [ha]) b hb, List.append_assoc, List.getElem?_append_right (by rw [List.length_take]; omega), List.length_take, Nat.min_eq_left (by omega), show a * 32 + b - a * 32 = b by omega, List.getElem?_append_left (by omega)]
  ·rw [rowR_at h' (r := L[a]) (by rw [List.getElem?_set]; simp [Ne.symm e, ha]) b hb, ← rowR_at h (List.getElem?_eq_getElem ha) b hb]
   by_cases e2 : a < k
   ·rw [List.append_assoc, List.getElem?_append_left (by rw [List.length_take]; omega), List.getElem?_take, if_pos (by omega)]
   ·rw [List.getElem?_append_right (by rw [List.length_append, List.length_take]; omega), List.length_append, List.length_take, hc, Nat.min_eq_left (by omega), List.getElem?_drop]
    congr 1
    omega
 ·rw [List.getElem?_eq_none (by rw [List.length_append, List.length_append, List.length_take, List.length_drop, hc]; omega), List.getElem?_eq_none (by omega)]

structure An (V w : World) (ab cb rb ib pb : Nat) (bv pv : Value) (G : List Blk) (B : List AB) (val : Nat → Value) (s : AS) : Prop where
 bel : Below V.heap.size V w
 blks : Blks V bv G
 lG : G.length = B.length
 gnx : ∀ (k : Nat) (x : Blk) (b : AB), G[k]? = some x → B[k]? = some b → x.nx = b.nx
 lB : B.length ≤ 1000000
 aV : V.heap.size ≤ ab
 rV : V.heap.size ≤ rb
 iV : V.heap.size ≤ ib
 pV : V.heap.size ≤ pb
 head : w.heap[ab]? = some (.cells #[bv, pv, .slice (some ⟨cb, 0, none⟩) B.length B.length, .slice (some ⟨rb, 0, none⟩) B.length B.length, .slice (some ⟨ib, 0, none⟩) B.length B.length, .slice (some ⟨pb, 0, none⟩) B.length B.length] 110 (0, 0))
 crow : w.ownsRow V.heap.size 113 1 (.slice (some ⟨cb, 0, none⟩) B.length B.length) B.length ((List.range B.length).map val)
 own : ∀ (k : Nat) (b : AB), B[k]? = some b → w.ownsRow V.heap.size 23 5 (val k) b.code.length (insCells b.code)
 rrow : w.heap[rb]? = some (.cells (s.reach.map Value.bool).toArray 4 (0, 0))
 irow : w.heap[ib]? = some (.cells (rowR s.inn).toArray 27 (0, 0))
 prow : w.heap[pb]? = some (.cells (s.rep.map (Value.int .i64)).toArray 3 (0, 0))
 asi : ASI B.length s

section
variable {V w : World} {ab cb rb ib pb : Nat} {bv pv : Value} {G : List Blk} {B : List AB} {val : Nat → Value} {s : AS}
theorem An.lt (h : An V w ab cb rb ib pb bv pv G B val s) : ab < w.heap.size ∧ cb < w.heap.size ∧ rb < w.heap.size ∧ ib < w.heap.size ∧ pb < w.heap.size :=
 ⟨lt_of_blk' h.head, (h.crow.lt cb rfl).2, lt_of_blk' h.rrow, lt_of_blk' h.irow, lt_of_blk' h.prow⟩
theorem own_type {w : World} {B : Nat} {e : TypeId} {z n q : Nat} {v : Value} {xs : List Value} (h : w.ownsRow B e z v n xs) (hq : v.ownBlock = some q) : ∃ cs, w.heap[q]? = some (.cells cs e (0, 0)) := by
 rcases h.2 with ⟨rfl, _⟩ | ⟨g, cap, cur, rfl, _, hg, _⟩
 ·cases hq
 ·cases hq; exact ⟨_, hg⟩
theorem ne_type {w : World} {q q' : Nat} {cs cs' : Array Value} {e e' : TypeId} (h : w.heap[q]? = some (.cells cs e (0, 0))) (h' : w.heap[q']? = some (.cells cs' e' (0, 0))) (hne : e ≠ e') : q ≠ q' := by
 rintro rfl
 rw [h] at h'
 cases h'
 exact hne rfl
theorem An.ne (h : An V w ab cb rb ib pb bv pv G B val s) : ab ≠ rb ∧ ab ≠ ib ∧ ab ≠ pb ∧ cb ≠ rb ∧ cb ≠ ib ∧ cb ≠ pb ∧ rb ≠ ib ∧ rb ≠ pb ∧ ib ≠ pb := by
 obtain ⟨cs, hc⟩ := own_type h.crow (q := cb) rfl
 exact ⟨ne_type h.head h.rrow (by decide), ne_type h.head h.irow (by decide), ne_type h.head h.prow (by decide), ne_type hc h.rrow (by decide), ne_type hc h.irow (by decide), ne_type hc h.prow (by decide), ne_type h.rrow h.irow (by decide), ne_type h.rrow h.prow (by decide), ne_type h.irow h.prow (by decide)⟩
def An3 (rb ib pb : Nat) : Nat → Prop := fun k => k = rb ∨ k = ib ∨ k = pb
theorem An.to {w' : World} {s' : AS} (h : An V w ab cb rb ib pb bv pv G B val s) (hf : Fr (An3 rb ib pb) w w')
  (hr : w'.heap[rb]? = some (.cells (s'.reach.map Value.bool).toArray 4 (0, 0))) (hi : w'.heap[ib]? = some (.cells (rowR s'.inn).toArray 27 (0, 0)))
  (hp : w'.heap[pb]? = some (.cells (s'.rep.map (Value.int .i64)).toArray 3 (0, 0))) (ha : ASI B.length s') : An V w' ab cb rb ib pb bv pv G B val s' := by
 obtain ⟨n1, n2, n3, n4, n5, n6, _⟩ := h.ne
 have hS : ∀ k, An3 rb ib pb k → V.heap.size ≤ k := fun k hk => by
  have := h.rV; have := h.iV; have := h.pV
  rcases hk with rfl | rfl | rfl <;> assumption
 have hq : ∀ {e : TypeId} {z n : Nat} {v : Value} {xs : List Value}, w.ownsRow V.heap.size e z v n xs → e ≠ 4 → e ≠ 27 → e ≠ 3 → ∀ q, v.ownBlock = some q → ¬ An3 rb ib pb q := fun ho e1 e2 e3 q hq hk => by
  obtain ⟨cs, hc⟩ := own_type ho hq
  rcases hk with rfl | rfl | rfl
  ·exact ne_type hc h.rrow e1 rfl
  ·exact ne_type hc h.irow e2 rfl
  ·exact ne_type hc h.prow e3 rfl
 refine ⟨h.bel.trans (hf.below h.bel.size hS), h.blks, h.lG, h.gnx, h.lB, h.aV, h.rV, h.iV, h.pV, ?_, ?_, fun k b hk => ?_, hr, hi, hp, ha⟩
 ·rw [hf.block ab h.lt.1 (by unfold An3; omega)]; exact h.head
 ·exact hf.own h.crow (hq h.crow (by decide) (by decide) (by decide))
 ·exact hf.own (h.own k b hk) (hq (h.own k b hk) (by decide) (by decide) (by decide))
theorem An.below {w' : World} (h : An V w ab cb rb ib pb bv pv G B val s) (hb : Below w.heap.size w w') : An V w' ab cb rb ib pb bv pv G B val s := by
 obtain ⟨l1, l2, l3, l4, l5⟩ := h.lt
 exact h.to (Fr.of hb) ((hb.block _ l3).trans h.rrow) ((hb.block _ l4).trans h.irow) ((hb.block _ l5).trans h.prow) h.asi
theorem An.cells (h : An V w ab cb rb ib pb bv pv G B val s) : w.cell? ⟨ab, 0, none⟩ = some bv ∧ w.cell? ⟨ab, 2, none⟩ = some (.slice (some ⟨cb, 0, none⟩) B.length B.length) ∧ w.cell? ⟨ab, 3, none⟩ = some (.slice (some ⟨rb, 0, none⟩) B.length B.length) ∧ w.cell? ⟨ab, 4, none⟩ = some (.slice (some ⟨ib, 0, none⟩) B.length B.length) ∧ w.cell? ⟨ab, 5, none⟩ = some (.slice (some ⟨pb, 0, none⟩) B.length B.length) := by
 refine ⟨?_, ?_, ?_, ?_, ?_⟩ <;> simp [World.cell?, h.head]
theorem An.code (h : An V w ab cb rb ib pb bv pv G B val s) {k : Nat} {b : AB} (hk : B[k]? = some b) : w.cell? ⟨cb, k, none⟩ = some (val k) ∧ (val k = .slice none 0 0 ∧ b.code = [] ∨ ∃ q cap, val k = .slice (some ⟨q, 0, none⟩) b.code.length cap ∧ b.code.length ≤ cap ∧ cap ≤ maxLen ∧ q < w.heap.size ∧ ∀ j i, b.code[j]? = some i →
  w.cell? ⟨q, j * 5, none⟩ = some (.int .u8 i.op) ∧ w.cell? ⟨q, j * 5 + 1, none⟩ = some (.int .i64 i.a) ∧ w.cell? ⟨q, j * 5 + 2, none⟩ = some (.int .i64 i.b) ∧ w.cell? ⟨q, j * 5 + 3, none⟩ = some (.int .i64 i.c) ∧ w.cell? ⟨q, j * 5 + 4, none⟩ = some (.int .i64 i.imm)) := by
 have hlt := (List.getElem?_eq_some_iff.1 hk).1
 refine ⟨by rw [h.crow.cellAt _ (by omega), List.getElem?_map, List.getElem?_range hlt]; rfl, ?_⟩
 have ho := h.own k b hk
 rcases ho.2 with ⟨h1, h2⟩ | ⟨g, cap, cur, h1, h2, h3, h4, h5, h6, h7⟩
 ·exact .inl ⟨h1, List.length_eq_zero_iff.1 h2⟩
 ·refine .inr ⟨g, cap, h1, h4, h5, lt_of_blk' h3, fun j i hi => ?_⟩
  have hj := (List.getElem?_eq_some_iff.1 hi).1
  rw [h1] at ho
  refine ⟨?_, ?_, ?_, ?_, ?_⟩
  ·rw [ho.cellAt _ (by omega), show j * 5 = j * 5 + 0 by omega, insCells_at _ _ _ _ hi (by omega)]; rfl
  ·rw [ho.cellAt _ (by omega), insCells_at _ _ _ _ hi (by omega)]; rfl
  ·rw [ho.cellAt _ (by omega), insCells_at _ _ _ _ hi (by omega)]; rfl
  ·rw [ho.cellAt _ (by omega), insCells_at _ _ _ _ hi (by omega)]; rfl
  ·rw [ho.cellAt _ (by omega), insCells_at _ _ _ _ hi (by omega)]; rfl
theorem An.reachAt (h : An V w ab cb rb ib pb bv pv G B val s) {t : Nat} (ht : t < B.length) : w.cell? ⟨rb, t, none⟩ = some (.bool (s.reach.getD t false)) ∧ w.frozen? ⟨rb, t, none⟩ = false := by
 have hl : t < s.reach.length := by rw [h.asi.l1]; exact ht
 constructor
 ·simp [World.cell?, h.rrow, List.getD, List.getElem?_eq_getElem hl]
 ·simp [World.frozen?, h.rrow]
theorem An.repAt (h : An V w ab cb rb ib pb bv pv G B val s) {t : Nat} (ht : t < B.length) : w.cell? ⟨pb, t, none⟩ = some (.int .i64 (s.rep.getD t 0)) ∧ w.frozen? ⟨pb, t, none⟩ = false := by
 have hl : t < s.rep.length := by rw [h.asi.l3]; exact ht
 constructor
 ·simp [World.cell?, h.prow, List.getD, List.getElem?_eq_getElem hl]
 ·simp [World.frozen?, h.prow]
theorem An.len16 (h : An V w ab cb rb ib pb bv pv G B val s) : ∀ r ∈ s.inn, r.length = 16 := fun r hr => (h.asi.r16 r hr).len
theorem range_mid {w : World} {q : Nat} {T : TypeId} {xs cs : List Value} {o : Nat} (h : w.heap[q]? = some (.cells xs.toArray T (0, 0))) (hc : ∀ j, j < cs.length → xs[o + j]? = cs[j]?) : w.rangeAt q o cs := fun j v hv => by
 have hj := (List.getElem?_eq_some_iff.1 hv).1
 have := hc j hj
 rw [hv] at this
 simp [World.cell?, h, this]
theorem An.inAt (h : An V w ab cb rb ib pb bv pv G B val s) {t : Nat} (ht : t < B.length) : w.rangeAt ib (t * 32) (cellsR (s.inn.getD t [])) := by
 have hl : t < s.inn.length := by rw [h.asi.l2]; exact ht
 have e : s.inn.getD t [] = s.inn[t] := by simp [List.getD, List.getElem?_eq_getElem hl]
 have h16 := h.len16 _ (List.getElem_mem hl)
 refine range_mid h.irow (fun j hj => ?_)
 rw [e] at hj ⊢
 rw [cellsR_len, h16] at hj
 exact rowR_at h.len16 (List.getElem?_eq_getElem hl) j hj
end

end Go.Proofs.YtebklpnkcicpjaaDoor


